/- The reference of chapter 6. -/
import Derived.Test.YtjpmldfmgogheaaReA
import Derived.Test.YtjpmldfmgogheaaGrY
namespace Go.Proofs.Ytjpmldfmgogheaa.Ab
open Go.RowKit
set_option linter.unusedVariables false
set_option linter.unusedSimpArgs false

def fineTo (h : List Int) (i : Nat) : Prop := ∀ j (hj : j < h.length), j < i → 0 ≤ h[j] ∧ h[j] ≤ 2
theorem r6Right_c (g : List Thing) (h : List Int) (hg : g.length ≤ 140737488355328) (ht : Things g) (hl : h.length ≤ 140737488355328) : ACalls Try.prog 15 [things g, ints h] (· = .one (.sv (bv (isHealth g h)))) := by
  refine ACalls.of_bodyS (fun _ _ => Try.call15 _ _) Try.func15 rfl Try.ntmps15 (by simp) ?_
  refine Tr.ex ?_
  simp [go_sem]
  refine LoopW.of (fun i : Nat => ⟨40, [(0, .sv (things g)), (1, .sv (ints h)), (4, .sv (bv false)), (5, .sv (iv i))], []⟩)
    (fun i => i ≤ h.length ∧ fineTo h i) (fun i => h.length - i) 0 ⟨by omega, fun j hj h9 => by omega⟩ (Ent.chk (by simp [go_sem])) ?_
  rintro i ⟨hi, hf⟩
  by_cases hlt : i < h.length
  · have hlt' : (i : Int) < h.length := by omega
    have hx : h[i]? = some h[i] := List.getElem?_eq_getElem hlt
    have hw : IntKind.i64.wrap ((i : Int) + 1) = (i : Int) + 1 := by rw [i64w] <;> omega
    have hbad : ¬ (0 ≤ h[i] ∧ h[i] ≤ 2) → isHealth g h = false := fun hb => by
      unfold isHealth
      have : (h.all fun n => decide (0 ≤ n) && decide (n ≤ 2)) = false := by
        rw [List.all_eq_false]
        exact ⟨h[i], List.getElem_mem hlt, by simpa using hb⟩
      rw [this]; simp
    have hgood : (0 ≤ h[i] ∧ h[i] ≤ 2) → fineTo h (i + 1) := fun hb j hj h9 => by
      by_cases hji : j = i
      · subst hji; exact hb
      · exact hf j hj (by omega)
    generalize h[i] = n at hx hbad hgood
    by_cases c0 : n = 0
    · subst c0
      simp [go_sem, hlt', hx, bne]
      exact ⟨i + 1, ⟨by omega, hgood (by omega)⟩, by omega, Ent.chk (by simp [go_sem, hw])⟩
    · by_cases c1 : n = 1
      · subst c1
        simp [go_sem, hlt', hx, bne]
        exact ⟨i + 1, ⟨by omega, hgood (by omega)⟩, by omega, Ent.chk (by simp [go_sem, hw])⟩
      · by_cases c2 : n = 2
        · subst c2
          simp [go_sem, hlt', hx, bne]
          exact ⟨i + 1, ⟨by omega, hgood (by omega)⟩, by omega, Ent.chk (by simp [go_sem, hw])⟩
        · have e0 : (n == 0) = false := by simpa using c0
          have e1 : (n == 1) = false := by simpa using c1
          have e2 : (n == 2) = false := by simpa using c2
          simp [go_sem, hlt', hx, bne, e0, e1, e2]
          exact hbad (by omega)
  · have hil : i = h.length := by omega
    subst hil
    have hall : (h.all fun n => decide (0 ≤ n) && decide (n ≤ 2)) = true := by
      rw [List.all_eq_true]
      intro x hx
      obtain ⟨j, hj, rfl⟩ := List.getElem_of_mem hx
      simpa using hf j hj hj
    simp [go_sem]
    refine OpW.fn true (rRight_c g hg ht) rfl rfl (by simp [go_sem]) (by rintro _ r rfl; simp [go_sem]) ?_
    rintro r rfl
    unfold isHealth
    rw [hall]
    cases isGraph g with
    | false => simp [go_sem]
    | true =>
      by_cases hlen : h.length = g.length
      · have e : ((g.length : Int) == h.length) = true := by simp [hlen]
        simp [go_sem, hlen, e]
      · have e : ((g.length : Int) == h.length) = false := by simp; omega
        simp [go_sem, hlen, e]

def mx (a b : Int) : Int := if a < b then b else a
theorem mx_assoc (a b c : Int) : mx a (mx b c) = mx (mx a b) c := by unfold mx; split <;> split <;> (try split) <;> (try split) <;> omega
theorem worstAt_mx (g : List Thing) (h : List Int) (i : Nat) : worstAt g h i = if 0 ≤ (th g i).up ∧ (th g i).up < i then mx (h.getD i 0) (worstAt g h (th g i).up.toNat) else h.getD i 0 := by
  rw [worstAt.eq_1]; split <;> rfl
theorem worstAt_nonneg {g : List Thing} {h : List Int} (hh : ∀ n ∈ h, 0 ≤ n ∧ n ≤ 2) (i : Nat) : 0 ≤ worstAt g h i := by
  have h1 : ∀ j, 0 ≤ h.getD j 0 := fun j => by
    rw [List.getD_eq_getElem?_getD]
    cases hj : h[j]? with
    | none => simp
    | some x => simpa using (hh x (List.mem_of_getElem? hj)).1
  induction i using Nat.strongRecOn with
  | _ i ih =>
    rw [worstAt_mx]
    split
    · have := h1 i; unfold mx; split
      · exact ih _ (by omega)
      · exact this
    · exact h1 i
theorem r6worst_c (g : List Thing) (h : List Int) (n : Nat) (hh : isHealth g h = true) (hn : n < g.length) : ACalls Try.prog 37 [things g, ints h, iv n] (· = .one (.sv (iv (worstAt g h n)))) := by
  obtain ⟨hgr, hlen, hr⟩ := isHealth_spec hh
  have hgl := isGraph_len hgr
  refine ACalls.of_bodyS (fun _ _ => Try.call37 _ _) Try.func37 rfl Try.ntmps37 (by simp) ?_
  refine Tr.ex ?_
  simp [go_sem]
  let cur : Option Nat → Int := fun c => match c with | some i => (i : Int) | none => -1
  let rest : Int → Option Nat → Int := fun b c => match c with | some i => mx b (worstAt g h i) | none => b
  refine LoopW.of (fun s : Int × Option Nat => ⟨26, [(0, .sv (things g)), (1, .sv (ints h)), (2, .sv (iv (cur s.2))), (6, .sv (iv 0)), (7, .sv (iv s.1))], []⟩)
    (fun s => rest s.1 s.2 = worstAt g h n ∧ ∀ i, s.2 = some i → i < g.length) (fun s => match s.2 with | some i => i + 1 | none => 0) (0, some n) ⟨?_, fun i hi => by cases hi; omega⟩ (Ent.chk (by simp [go_sem, cur])) ?_
  · have := worstAt_nonneg (g := g) hr n
    simp only [rest, mx]; split <;> omega
  rintro ⟨b, c⟩ ⟨hacc, hi⟩
  cases c with
  | none =>
    simp only [rest] at hacc
    subst hacc
    simp [go_sem, cur]
  | some i =>
    have hil := hi i rfl
    have hih : i < h.length := by omega
    have hgi : g[i]? = some g[i] := List.getElem?_eq_getElem hil
    have hx : h[i]? = some h[i] := List.getElem?_eq_getElem hih
    have hthi : th g i = g[i] := by unfold th; simp [hil]
    have hgd : h.getD i 0 = h[i] := by simp [hih]
    have hle := isGraph_le hgr hil
    have hge : -1 ≤ (th g i).up := by
      by_cases hj0 : 0 < i
      · have := (isGraph_up hgr hj0 hil).1; omega
      · have : i = 0 := by omega
        subst this; rw [(isGraph_root hgr).2]; omega
    simp only [rest] at hacc
    rw [worstAt_mx, hthi, hgd] at hacc
    rw [hthi] at hle hge
    generalize hu : g[i].up = u at hacc hle hge
    generalize hv : h[i] = v at hx hacc
    have hgi' : g[i]? = some ⟨g[i].kind, u, g[i].tag⟩ := by rw [hgi, ← hu]
    have hfin : ∀ b', b' = mx b v → ∃ s' : Int × Option Nat, (rest s'.1 s'.2 = worstAt g h n ∧ ∀ i, s'.2 = some i → i < g.length) ∧ (match s'.2 with | some i => i + 1 | none => 0) < i + 1 ∧ s'.1 = b' ∧ cur s'.2 = u := fun b' hb' => by
      by_cases h0 : 0 ≤ u
      · rw [if_pos ⟨h0, hle⟩, mx_assoc] at hacc
        exact ⟨(b', some u.toNat), ⟨by rw [hb']; exact hacc, fun j hj => by cases hj; omega⟩, by simp; omega, rfl, by simp [cur]; omega⟩
      · rw [if_neg (fun h => h0 h.1)] at hacc
        exact ⟨(b', none), ⟨by rw [hb']; exact hacc, fun j hj => by cases hj⟩, by simp, rfl, by simp [cur]; omega⟩
    have hil' : (i : Int) < g.length := by omega
    have hih' : (i : Int) < h.length := by omega
    by_cases hb : b < v
    · obtain ⟨s', k1, k2, k3, k4⟩ := hfin v (by unfold mx; rw [if_pos hb])
      simp [go_sem, cur, hx, hih', hb, hgi', hil']
      exact ⟨s'.1, s'.2, k1, k2, Ent.chk (by simp [go_sem, k3]; exact k4.symm)⟩
    · obtain ⟨s', k1, k2, k3, k4⟩ := hfin b (by unfold mx; rw [if_neg hb])
      simp [go_sem, cur, hx, hih', hb, hgi', hil']
      exact ⟨s'.1, s'.2, k1, k2, Ent.chk (by simp [go_sem, k3]; exact k4.symm)⟩
theorem r6Set_c (g : List Thing) (h : List Int) (n how : Int) (hg : g.length ≤ 140737488355328) (ht : Things g) (hl : h.length ≤ 140737488355) : ACalls Try.prog 10 [things g, ints h, iv n, iv how] (· = .many [.sv (ints (setH g h n how).1), .sv (iv (setH g h n how).2)]) := by
  refine ACalls.of_bodyS (fun _ _ => Try.call10 _ _) Try.func10 rfl Try.ntmps10 (by simp) ?_
  refine Tr.ex ?_
  simp [go_sem]
  refine OpW.fn true (r6Right_c g h hg ht (by omega)) rfl rfl (by simp [go_sem]) (by rintro _ r rfl; simp [go_sem]) ?_
  rintro r rfl
  unfold setH
  cases hh : isHealth g h with
  | false => simp [go_sem]
  | true =>
    by_cases c1 : how < 0
    · have : ¬ 0 ≤ how := by omega
      simp [go_sem, c1, this]
    · have c1' : 0 ≤ how := by omega
      by_cases c2 : 2 < how
      · have : ¬ how ≤ 2 := by omega
        simp [go_sem, c1, c1', c2, this]
      · have c2' : how ≤ 2 := by omega
        by_cases c3 : n < 0
        · have : ¬ 0 ≤ n := by omega
          simp [go_sem, c1, c1', c2, c2', c3, this]
        · have c3' : 0 ≤ n := by omega
          by_cases c4 : n < h.length
          · have c5 : n.toNat < h.length := by omega
            have c6 : ¬ (h.length : Int) ≤ n := by omega
            simp [go_sem, c1, c1', c2, c2', c3, c3', c4, c5, c6]
            omega
          · have c6 : (h.length : Int) ≤ n := by omega
            simp [go_sem, c1, c1', c2, c2', c3, c3', c4, c6]
theorem r6Worst_c (g : List Thing) (h : List Int) (n : Int) (hg : g.length ≤ 140737488355328) (ht : Things g) (hl : h.length ≤ 140737488355328) : ACalls Try.prog 18 [things g, ints h, iv n] (· = .one (.sv (iv (WorstV g h n)))) := by
  refine ACalls.of_bodyS (fun _ _ => Try.call18 _ _) Try.func18 rfl Try.ntmps18 (by simp) ?_
  refine Tr.ex ?_
  simp [go_sem]
  refine OpW.fn true (r6Right_c g h hg ht hl) rfl rfl (by simp [go_sem]) (by rintro _ r rfl; simp [go_sem]) ?_
  rintro r rfl
  unfold WorstV
  cases hh : isHealth g h with
  | false => simp [go_sem]
  | true =>
    obtain ⟨hgr, hlen, hr⟩ := isHealth_spec hh
    by_cases h0 : n < 0
    · have : ¬ 0 ≤ n := by omega
      simp [go_sem, h0, this]
    · have h0' : 0 ≤ n := by omega
      by_cases h1 : n < h.length
      · have h1' : ¬ (h.length : Int) ≤ n := by omega
        simp [go_sem, h0, h0', h1, h1']
        have hc := r6worst_c g h n.toNat hh (by omega)
        rw [Int.toNat_of_nonneg h0'] at hc
        refine OpW.fn true hc rfl rfl (by simp [go_sem]) (by rintro _ r rfl; simp [go_sem]) ?_
        rintro r rfl
        simp [go_sem]
      · have h1' : (h.length : Int) ≤ n := by omega
        simp [go_sem, h0, h0', h1, h1']
theorem r6Below_c (g : List Thing) (h : List Int) (most : Int) (hg : g.length ≤ 140737488355328) (ht : Things g) (hl : h.length ≤ 140737488355328) : ACalls Try.prog 19 [things g, ints h, iv most] (· = .one (.sv (ints (belowL g h most)))) := by
  refine ACalls.of_bodyS (fun _ _ => Try.call19 _ _) Try.func19 rfl Try.ntmps19 (by simp) ?_
  refine Tr.ex ?_
  simp [go_sem]
  refine OpW.fn true (r6Right_c g h hg ht hl) rfl rfl (by simp [go_sem]) (by rintro _ r rfl; simp [go_sem]) ?_
  rintro r rfl
  unfold belowL
  cases hh : isHealth g h with
  | false => simp [go_sem]
  | true =>
    obtain ⟨hgr, hlen, hr⟩ := isHealth_spec hh
    have hgl := isGraph_len hgr
    simp [go_sem]
    refine LoopW.of (fun i : Nat => ⟨30, [(0, .sv (things g)), (1, .sv (ints h)), (2, .sv (iv most)), (6, .nil), (7, .own 7), (8, .sv (iv i))], [(7, .row 1 ((belowTo g h most i).map iv))]⟩)
      (fun i => i ≤ g.length) (fun i => g.length - i) 0 (by omega) (Ent.thaw 7 7 1 (by simp [go_sem]) (by simp [go_sem]) (by decide) (Ent.chk (by simp [go_sem, belowTo]))) ?_
    rintro i hi
    by_cases hlt : i < g.length
    · have hlt' : (i : Int) < g.length := by omega
      have hw : IntKind.i64.wrap ((i : Int) + 1) = (i : Int) + 1 := by rw [i64w] <;> omega
      have hs := belowTo_succ g h most i
      have hbl := belowTo_len g h most i
      simp [go_sem, hlt']
      refine OpW.fn true (r6worst_c g h i hh hlt) rfl rfl (by simp [go_sem]) (by rintro _ r rfl; simp [go_sem]) ?_
      rintro r rfl
      by_cases hm : worstAt g h i ≤ most
      · rw [if_pos hm] at hs
        simp [go_sem, hm]
        exact ⟨by omega, i + 1, by omega, by omega, Ent.rename2 28 7 (by simp [go_sem]) (Ent.chk (by simp [go_sem, hw, hs]))⟩
      · rw [if_neg hm] at hs
        simp [go_sem, hm]
        exact ⟨i + 1, by omega, by omega, Ent.chk (by simp [go_sem, hw, hs])⟩
    · have hil : i = g.length := by omega
      subst hil
      simp [go_sem]
end Go.Proofs.Ytjpmldfmgogheaa.Ab
