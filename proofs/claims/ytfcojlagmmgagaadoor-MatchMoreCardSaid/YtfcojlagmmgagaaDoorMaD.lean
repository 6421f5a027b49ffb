/- match: Suits, Many, Find, Could. -/
import Derived.Test.YtfcojlagmmgagaaDoorMaC
namespace Go.Proofs.YtfcojlagmmgagaaDoor.Ab
open Go.RowKit
set_option linter.unusedVariables false
set_option linter.unusedSimpArgs false

def suitsL (g : List Thing) (free : List Int) (s : Spec) (n : Int) : Bool := mayB g free s && decide (0 ≤ n) && decide (n < g.length) && (hereL g free s n.toNat).2
theorem Suits_c (g : List Thing) (free : List Int) (s : Spec) (n : Int) (hg : g.length ≤ 140737488355328) (ht : Things g) (hf : free.length ≤ 140737488355328) (hs : s.tag.size ≤ 140737488351232) : ACalls Tryd.prog 18 [things g, ints free, specSV s, iv n] (· = .one (.sv (bv (suitsL g free s n)))) := by
  refine ACalls.of_bodyS (fun _ _ => Tryd.call18 _ _) Tryd.func18 rfl Tryd.ntmps18 (by simp) ?_
  refine Tr.ex ?_
  unfold suitsL
  simp [go_sem]
  refine OpW.fn true (may_c g free s hg ht hf hs) rfl rfl (by simp [go_sem]) (by rintro _ r rfl; simp [go_sem]) ?_
  rintro r rfl
  cases hm : mayB g free s with
  | false => simp [go_sem]
  | true =>
    unfold mayB at hm
    simp only [Bool.and_eq_true] at hm
    by_cases h0 : 0 ≤ n
    case neg =>
      have h0' : n < 0 := by omega
      simp [go_sem, h0, h0']
    have h0' : ¬ n < 0 := by omega
    by_cases h1 : n < g.length
    case neg =>
      have h1' : (g.length : Int) ≤ n := by omega
      simp [go_sem, h0, h0', h1, h1']
    have h1' : ¬ (g.length : Int) ≤ n := by omega
    obtain ⟨u, rfl⟩ : ∃ u : Nat, n = u := ⟨n.toNat, by omega⟩
    simp [go_sem, h0, h0', h1, h1']
    refine OpW.fn false (seek_c g free s hm.1.1 ht hm.1.2 hf) rfl rfl (by simp [go_sem]) (fun h => by cases h) ?_
    rintro r rfl
    simp [go_sem]
    refine OpW.fn false (here_c g free s u hm.1.1 (by omega) hm.2) rfl rfl (by simp [go_sem]) (fun h => by cases h) ?_
    rintro r rfl
    simp [go_sem]
def manyTo (g : List Thing) (free : List Int) (s : Spec) (i : Nat) : Nat := ((List.range i).filter fun u => (hereL g free s u).2).length
theorem manyTo_succ (g : List Thing) (free : List Int) (s : Spec) (i : Nat) : manyTo g free s (i + 1) = if (hereL g free s i).2 = true then manyTo g free s i + 1 else manyTo g free s i := by
  unfold manyTo
  rw [List.range_succ, List.filter_append, List.length_append]
  cases h : (hereL g free s i).2 <;> simp [h]
theorem manyTo_le (g : List Thing) (free : List Int) (s : Spec) (i : Nat) : manyTo g free s i ≤ i := by
  unfold manyTo
  exact Nat.le_trans (List.length_filter_le _ _) (by simp)
def manyL (g : List Thing) (free : List Int) (s : Spec) : Nat := if mayB g free s = true then manyTo g free s g.length else 0
theorem Many_c (g : List Thing) (free : List Int) (s : Spec) (hg : g.length ≤ 140737488355328) (ht : Things g) (hf : free.length ≤ 140737488355328) (hs : s.tag.size ≤ 140737488351232) : ACalls Tryd.prog 20 [things g, ints free, specSV s] (· = .one (.sv (iv (manyL g free s)))) := by
  refine ACalls.of_bodyS (fun _ _ => Tryd.call20 _ _) Tryd.func20 rfl Tryd.ntmps20 (by simp) ?_
  refine Tr.ex ?_
  unfold manyL
  simp [go_sem]
  refine OpW.fn true (may_c g free s hg ht hf hs) rfl rfl (by simp [go_sem]) (by rintro _ r rfl; simp [go_sem]) ?_
  rintro r rfl
  cases hm : mayB g free s with
  | false => simp [go_sem]
  | true =>
    unfold mayB at hm
    simp only [Bool.and_eq_true] at hm
    simp [go_sem]
    refine OpW.fn false (seek_c g free s hm.1.1 ht hm.1.2 hf) rfl rfl (by simp [go_sem]) (fun h => by cases h) ?_
    rintro r rfl
    simp [go_sem]
    refine LoopW.of (fun i : Nat => ⟨37, [(6, .sv (iv 0)), (7, .sv (seekSV g free s)), (8, .sv (iv (manyTo g free s i))), (22, .sv (iv g.length)), (23, .sv (iv i))], []⟩)
      (fun i => i ≤ g.length) (fun i => g.length - i) 0 (by omega) (Ent.chk (by simp [go_sem, manyTo])) ?_
    intro i hi
    by_cases hlt : i < g.length
    · have hlt' : (i : Int) < g.length := by omega
      have hw : IntKind.i64.wrap ((i : Int) + 1) = (i : Int) + 1 := by rw [i64w] <;> omega
      have hle := manyTo_le g free s i
      have hw2 : IntKind.i64.wrap ((manyTo g free s i : Int) + 1) = (manyTo g free s i : Int) + 1 := by rw [i64w] <;> omega
      have hsu := manyTo_succ g free s i
      simp [go_sem, hlt']
      refine OpW.fn false (here_c g free s i hm.1.1 hlt hm.2) rfl rfl (by simp [go_sem]) (fun h => by cases h) ?_
      rintro r rfl
      cases hh : (hereL g free s i).2 with
      | true =>
        rw [hh, if_pos rfl] at hsu
        simp [go_sem]
        exact ⟨i + 1, by omega, by omega, Ent.chk (by simp [go_sem, hw, hw2, hsu])⟩
      | false =>
        rw [hh] at hsu
        simp [go_sem]
        exact ⟨i + 1, by omega, by omega, Ent.chk (by simp [go_sem, hw, hsu])⟩
    · have hil : i = g.length := by omega
      subst hil
      simp [go_sem]
end Go.Proofs.YtfcojlagmmgagaaDoor.Ab
