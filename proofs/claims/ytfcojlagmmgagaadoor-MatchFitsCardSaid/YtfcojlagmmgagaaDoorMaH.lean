/- ref01.Which (either); ref09. -/
import Derived.Test.YtfcojlagmmgagaaDoorMaG
namespace Go.Proofs.YtfcojlagmmgagaaDoor.Ab
open Go.RowKit
set_option linter.unusedVariables false
set_option linter.unusedSimpArgs false

def orP (a b : List Int) (i : Nat) : Bool := decide ((i : Int) ∈ a) || decide ((i : Int) ∈ b)
set_option maxHeartbeats 4000000 in
set_option maxRecDepth 100000 in
theorem Which0_c (a b : List Int) (ha : a.length ≤ 140737488355328) (hb : b.length ≤ 140737488355328) : ACalls Tryd.prog 63 [ints a, ints b, iv 0] (· = .one (.sv (ints (joinL a b)))) := by
  refine ACalls.of_bodyS (fun _ _ => Tryd.call63 _ _) Tryd.func63 rfl Tryd.ntmps63 (by simp) ?_
  refine Tr.ex ?_
  unfold joinL opL
  simp [go_sem]
  refine OpW.fn true (r1Right_c a ha) rfl rfl (by simp [go_sem]) (by rintro _ r rfl; simp [go_sem]) ?_
  rintro r rfl
  cases h1 : isSet a with
  | false => simp [go_sem]
  | true =>
    simp [go_sem]
    refine OpW.fn true (r1Right_c b hb) rfl rfl (by simp [go_sem]) (by rintro _ r rfl; simp [go_sem]) ?_
    rintro r rfl
    cases h2 : isSet b with
    | false => simp [go_sem]
    | true =>
      simp [go_sem]
      have hz : (fun i : Nat => decide ((i : Int) ∈ a) || decide ((i : Int) ∈ b)) = orP a b := rfl
      rw [hz]
      refine LoopW.of (fun i : Nat => ⟨63, [(0, .sv (ints a)), (1, .sv (ints b)), (2, .sv (iv 0)), (6, .nil), (7, .own 7), (8, .sv (iv i))], [(7, .row 1 ((rangeF (orP a b) i).map iv))]⟩)
        (fun i => i ≤ 256) (fun i => 256 - i) 0 (by omega) (Ent.thaw 7 7 1 (by simp [go_sem]) (by simp [go_sem]) (by decide) (Ent.chk (by simp [go_sem, rangeF_zero]))) ?_
      rintro i hi
      by_cases hlt : i < 256
      · have hlt' : (i : Int) < 256 := by omega
        have hw : IntKind.i64.wrap ((i : Int) + 1) = (i : Int) + 1 := by rw [i64w] <;> omega
        have hs := rangeF_succ (orP a b) i
        have hbl := rangeF_len (orP a b) i
        have ho : orP a b i = (decide ((i : Int) ∈ a) || decide ((i : Int) ∈ b)) := rfl
        simp [go_sem, hlt']
        refine OpW.fn true (rIn_c a i ha) rfl rfl (by simp [go_sem]) (by rintro _ r rfl; simp [go_sem]) ?_
        rintro r rfl
        simp [go_sem]
        refine OpW.fn true (rIn_c b i hb) rfl rfl (by simp [go_sem]) (by rintro _ r rfl; simp [go_sem]) ?_
        rintro r rfl
        cases m1 : decide ((i : Int) ∈ a) <;> cases m2 : decide ((i : Int) ∈ b) <;> rw [m1, m2] at ho <;> rw [ho] at hs
        case' false.false =>
          rw [if_neg (by simp)] at hs
          simp [go_sem]
          exact ⟨i + 1, by omega, by omega, Ent.chk (by simp [go_sem, hw, hs])⟩
        all_goals
          simp only [Bool.or_true, Bool.true_or, Bool.or_self, if_true] at hs
          simp [go_sem]
          exact ⟨by omega, i + 1, by omega, by omega, Ent.rename2 61 7 (by simp [go_sem]) (Ent.chk (by simp [go_sem, hw, hs]))⟩
      · have hil : i = 256 := by omega
        subst hil
        simp [go_sem]
theorem ofKind_snoc (g : List Thing) (free : List Int) (k : Int) (l : List Int) (n : Int) : ofKind g free k (l ++ [n]) = if n ∈ free ∧ (th g n.toNat).kind = k then ofKind g free k l ++ [n] else ofKind g free k l := by
  unfold ofKind
  rw [List.filter_append]
  by_cases h : n ∈ free ∧ (th g n.toNat).kind = k
  · rw [if_pos h]; simp [h.1, h.2]
  · rw [if_neg h]
    have : (decide (n ∈ free) && (th g n.toNat).kind == k) = false := by
      rw [Bool.eq_false_iff]; intro hb
      simp only [Bool.and_eq_true, decide_eq_true_eq, beq_iff_eq] at hb; exact h hb
    simp [this]
/-- What is taken of the first things under a node: a part of them, the first cores and gpus. -/
def taken (g : List Thing) (free : List Int) (s : Spec) (l out : List Int) : Prop := out.Sublist l ∧ ∀ n, n ∈ out ↔ n ∈ (ofKind g free 3 l).take s.cores.toNat ∨ n ∈ (ofKind g free 4 l).take s.gpus.toNat
theorem taken_nil (g : List Thing) (free : List Int) (s : Spec) : taken g free s [] [] := ⟨List.Sublist.refl _, by simp [ofKind]⟩
theorem taken_skip {g : List Thing} {free : List Int} {s : Spec} {l out : List Int} {n : Int} (h : taken g free s l out) (hn : (ofKind g free 3 (l ++ [n])).take s.cores.toNat = (ofKind g free 3 l).take s.cores.toNat) (hn4 : (ofKind g free 4 (l ++ [n])).take s.gpus.toNat = (ofKind g free 4 l).take s.gpus.toNat) : taken g free s (l ++ [n]) out :=
  ⟨h.1.trans (List.sublist_append_left _ _), fun m => by rw [hn, hn4]; exact h.2 m⟩
theorem taken_put {g : List Thing} {free : List Int} {s : Spec} {l out : List Int} {n : Int} (h : taken g free s l out)
    (hn : ((ofKind g free 3 (l ++ [n])).take s.cores.toNat = (ofKind g free 3 l).take s.cores.toNat ++ [n] ∧ (ofKind g free 4 (l ++ [n])).take s.gpus.toNat = (ofKind g free 4 l).take s.gpus.toNat) ∨
      ((ofKind g free 3 (l ++ [n])).take s.cores.toNat = (ofKind g free 3 l).take s.cores.toNat ∧ (ofKind g free 4 (l ++ [n])).take s.gpus.toNat = (ofKind g free 4 l).take s.gpus.toNat ++ [n])) : taken g free s (l ++ [n]) (out ++ [n]) := by
  refine ⟨List.Sublist.append h.1 (List.Sublist.refl _), fun m => ?_⟩
  rcases hn with ⟨h3, h4⟩ | ⟨h3, h4⟩ <;> rw [h3, h4] <;> simp only [List.mem_append, List.mem_singleton, h.2 m]
  · constructor
    · rintro ((h | h) | h)
      · exact .inl (.inl h)
      · exact .inr h
      · exact .inl (.inr h)
    · rintro ((h | h) | h)
      · exact .inl (.inl h)
      · exact .inr h
      · exact .inl (.inr h)
  · rw [or_assoc]
theorem taken_all {g : List Thing} (hg : isGraph g = true) {free : List Int} {s : Spec} {u : Nat} (hu : u < g.length) (h2 : (th g u).kind = 2) {out : List Int} (h : taken g free s (underL g u) out) : out = joinL (coresL g free s u) (gpusL g free s u) := by
  have e : ∀ k, k = 3 ∨ k = 4 → ofKind g free k (underL g u) = ofKind g free k (kidsL g u) := fun k hk => by
    rw [under_node hg hu h2]; unfold ofKind
    rw [List.filter_cons]
    have : ((th g ((u : Int)).toNat).kind == k) = false := by simp only [Int.toNat_natCast, h2]; rcases hk with rfl | rfl <;> rfl
    rw [this]; simp
  refine set_ext (set_sub h.1 (underL_set g u)) (joinL_set _ _) fun n => ?_
  rw [h.2, e 3 (.inl rfl), e 4 (.inr rfl), joinL_mem (coresL_set hg _ _ _) (gpusL_set hg _ _ _)]
  rfl
end Go.Proofs.YtfcojlagmmgagaaDoor.Ab
