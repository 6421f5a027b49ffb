/- graph.Kinds, Nodes. -/
import Derived.Test.YtfcojlagmmgagaaDoorGrV
namespace Go.Proofs.YtfcojlagmmgagaaDoor.Ab
open Go.RowKit
set_option linter.unusedVariables false
set_option linter.unusedSimpArgs false

/-- How many of a list's things are of a kind. -/
def cnt (g : List Thing) (l : List Int) (k : Int) : Nat := (l.filter fun n : Int => decide (n < g.length) && (th g n.toNat).kind == k).length
def kindsL (g : List Thing) (l : List Int) : List Int := if isGraph g = true ∧ isSet l = true then [0, 1, 2, 3, 4].map fun k => ((cnt g l k : Nat) : Int) else [0, 0, 0, 0, 0]
theorem kind_rng {g : List Thing} (h : isGraph g = true) {i : Nat} (hi : i < g.length) : (th g i).kind = 0 ∨ (th g i).kind = 1 ∨ (th g i).kind = 2 ∨ (th g i).kind = 3 ∨ (th g i).kind = 4 := by
  by_cases h0 : 0 < i
  · have := (isGraph_up h h0 hi).2.2
    unfold kindOk at this
    simp only [Bool.or_eq_true, Bool.and_eq_true, beq_iff_eq] at this
    omega
  · have : i = 0 := by omega
    subst this; exact .inl (isGraph_root h).1
theorem cnt_snoc (g : List Thing) (l : List Int) (n k : Int) : cnt g (l ++ [n]) k = cnt g l k + if (decide (n < g.length) && (th g n.toNat).kind == k) = true then 1 else 0 := by
  unfold cnt
  rw [List.filter_append, List.length_append]
  congr 1
  cases h : (decide (n < g.length) && (th g n.toNat).kind == k) <;> simp [h]
theorem cnt_le (g : List Thing) (l : List Int) (k : Int) : cnt g l k ≤ l.length := List.length_filter_le _ _
theorem Kinds_c (g : List Thing) (l : List Int) (hg : g.length ≤ 140737488355328) (ht : Things g) (hl : l.length ≤ 140737488355328) : ACalls Tryd.prog 34 [things g, ints l] (· = .one (.sv (.agg ((kindsL g l).map iv)))) := by
  refine ACalls.of_bodyS (fun _ _ => Tryd.call34 _ _) Tryd.func34 rfl Tryd.ntmps34 (by simp) ?_
  refine Tr.ex ?_
  simp [go_sem]
  refine OpW.fn true (gRight_c g hg ht) rfl rfl (by simp [go_sem]) (by rintro _ r rfl; simp [go_sem]) ?_
  rintro r rfl
  unfold kindsL
  cases hgr : isGraph g with
  | false => simp [go_sem]
  | true =>
    simp [go_sem]
    refine OpW.fn true (setRight_c l hl) rfl rfl (by simp [go_sem]) (by rintro _ r rfl; simp [go_sem]) ?_
    rintro r rfl
    cases hs : isSet l with
    | false => simp [go_sem]
    | true =>
      simp [go_sem]
      refine LoopW.of (fun i : Nat => ⟨38, [(0, .sv (things g)), (4, .box 4 0), (5, .box 5 0), (17, .sv (ints l)), (18, .sv (iv l.length)), (19, .sv (iv i))],
        [(4, .box [.sv (iv 0), .sv (iv 0), .sv (iv 0), .sv (iv 0), .sv (iv 0)]), (5, .box [.sv (iv (cnt g (l.take i) 0)), .sv (iv (cnt g (l.take i) 1)), .sv (iv (cnt g (l.take i) 2)), .sv (iv (cnt g (l.take i) 3)), .sv (iv (cnt g (l.take i) 4))])]⟩)
        (fun i => i ≤ l.length) (fun i => l.length - i) 0 (by omega) (Ent.chk (by simp [go_sem, cnt])) ?_
      rintro i hi
      by_cases hlt : i < l.length
      · have hlt' : (i : Int) < l.length := by omega
        have hx : l[i]? = some l[i] := List.getElem?_eq_getElem hlt
        have hw : IntKind.i64.wrap ((i : Int) + 1) = (i : Int) + 1 := by rw [i64w] <;> omega
        have hm := isSet_mem hs _ (List.getElem_mem hlt)
        have htk : l.take (i + 1) = l.take i ++ [l[i]] := by rw [List.take_add_one, hx]; rfl
        have hcn := fun k => cnt_snoc g (l.take i) l[i] k
        have hcl := fun k => cnt_le g (l.take i) k
        simp only [List.length_take] at hcl
        have hw2 : ∀ k, IntKind.i64.wrap ((cnt g (l.take i) k : Int) + 1) = (cnt g (l.take i) k : Int) + 1 := fun k => by have := hcl k; rw [i64w] <;> omega
        simp only [← htk] at hcn
        simp [go_sem, hlt, hlt', hx]
        by_cases hb : l[i] < g.length
        · have hkn : l[i].toNat < g.length := by omega
          have hgk : g[l[i].toNat]? = some g[l[i].toNat] := List.getElem?_eq_getElem hkn
          have hth : th g l[i].toNat = g[l[i].toNat] := by unfold th; simp [hkn]
          have hk := kind_rng hgr hkn
          rw [hth] at hk
          simp only [hth, hb, decide_true, Bool.true_and] at hcn
          rcases hk with hk | hk | hk | hk | hk
          all_goals
            simp [hk] at hcn
            simp [go_sem, hb, hgk, hm.1, hk]
            exact ⟨i + 1, by omega, by omega, Ent.chk (by simp [go_sem, hw, hw2, hcn])⟩
        · simp [hb] at hcn
          simp [go_sem, hb]
          exact ⟨i + 1, by omega, by omega, Ent.chk (by simp [go_sem, hw, hcn])⟩
      · have hil : i = l.length := by omega
        subst hil
        simp [go_sem]

def nodesL (g : List Thing) : List Int := if isGraph g = true then ((List.range g.length).filter fun i => (th g i).kind == 2).map Int.ofNat else []
def nodesTo (g : List Thing) (i : Nat) : List Int := if isGraph g = true then ((List.range i).filter fun i => (th g i).kind == 2).map Int.ofNat else []
theorem nodesTo_succ (g : List Thing) (i : Nat) : nodesTo g (i + 1) = if ((th g i).kind == 2 && isGraph g) = true then nodesTo g i ++ [(i : Int)] else nodesTo g i := by
  unfold nodesTo
  cases isGraph g with
  | false => simp
  | true =>
    simp only [if_true, Bool.and_true]
    rw [List.range_succ, List.filter_append, List.map_append]
    cases h : ((th g i).kind == 2) <;> simp [h]
theorem Nodes_c (g : List Thing) (hg : g.length ≤ 140737488355328) (ht : Things g) : ACalls Tryd.prog 25 [things g] (· = .one (.sv (ints (nodesL g)))) := by
  refine ACalls.of_bodyS (fun _ _ => Tryd.call25 _ _) Tryd.func25 rfl Tryd.ntmps25 (by simp) ?_
  refine Tr.ex ?_
  simp [go_sem]
  have hfit : ∀ a : Thing, a ∈ g → SV.fits 3 (thingSV a) = true := fun a _ => rfl
  refine LoopW.of (fun i : Nat => ⟨26, [(0, .sv (things g)), (2, .nil), (3, .own 3), (6, .sv (things g)), (7, .sv (iv g.length)), (8, .sv (iv i))], [(3, .row 1 ((nodesTo g i).map iv))]⟩)
    (fun i => i ≤ g.length) (fun i => g.length - i) 0 (by omega) (Ent.thaw 3 3 1 (by simp [go_sem]) (by simp [go_sem]) (by decide) (Ent.chk (by simp [go_sem, nodesTo]))) ?_
  rintro i hi
  by_cases hlt : i < g.length
  · have hlt' : (i : Int) < g.length := by omega
    have hgi : g[i]? = some g[i] := List.getElem?_eq_getElem hlt
    have hthi : th g i = g[i] := by unfold th; simp [hlt]
    have hw : IntKind.i64.wrap ((i : Int) + 1) = (i : Int) + 1 := by rw [i64w] <;> omega
    have hs := nodesTo_succ g i
    have hnl : (nodesTo g i).length ≤ i := by
      unfold nodesTo
      split
      · rw [List.length_map]; exact Nat.le_trans (List.length_filter_le _ _) (by simp)
      · simp
    rw [hthi] at hs
    simp [go_sem, hlt, hlt', hgi]
    cases hk : (g[i].kind == 2) with
    | false =>
      rw [hk] at hs
      simp at hs
      simp [go_sem]
      exact ⟨i + 1, by omega, by omega, Ent.chk (by simp [go_sem, hw, hs])⟩
    | true =>
      rw [hk, Bool.true_and] at hs
      simp [go_sem]
      refine OpW.fn true (gRight_c g hg ht) rfl rfl (by simp [go_sem]) (by rintro _ r rfl; simp [go_sem]) ?_
      rintro r rfl
      cases hgr : isGraph g with
      | false =>
        rw [hgr] at hs
        simp at hs
        simp [go_sem]
        exact ⟨i + 1, by omega, by omega, Ent.chk (by simp [go_sem, hw, hs])⟩
      | true =>
        rw [hgr, if_pos rfl] at hs
        have hlen := isGraph_len hgr
        simp [go_sem]
        exact ⟨by omega, i + 1, by omega, by omega, Ent.rename2 23 3 (by simp [go_sem]) (Ent.chk (by simp [go_sem, hw, hs]))⟩
  · have hil : i = g.length := by omega
    subst hil
    simp [go_sem]
    rfl
end Go.Proofs.YtfcojlagmmgagaaDoor.Ab
