/- slices.Reverse; graph.Above, Node. -/
import Derived.Test.YtfcojlagmmgagaaDoorGrH
namespace Go.Proofs.YtfcojlagmmgagaaDoor.Ab
open Go.RowKit
set_option linter.unusedVariables false
set_option linter.unusedSimpArgs false

/-- A list of which the first and the last i are swapped. -/
def revd (xs : List Int) (i : Nat) : List Int := (List.range xs.length).map fun j => if j < i ∨ xs.length ≤ j + i then xs.getD (xs.length - 1 - j) 0 else xs.getD j 0
theorem revd_zero (xs : List Int) : revd xs 0 = xs := by
  refine List.ext_getElem (by simp [revd]) fun j h1 h2 => ?_
  have hj : j < xs.length := h2
  simp only [revd, List.getElem_map, List.getElem_range]
  rw [if_neg (by omega)]
  simp [hj]
theorem revd_all (xs : List Int) (i : Nat) (h : xs.length ≤ 2 * i + 1) : revd xs i = xs.reverse := by
  refine List.ext_getElem (by simp [revd]) fun j h1 h2 => ?_
  have hj : j < xs.length := by simpa using h2
  simp only [revd, List.getElem_map, List.getElem_range, List.getElem_reverse]
  have hk : xs.length - 1 - j < xs.length := by omega
  split
  · simp [hk]
  · have : xs.length - 1 - j = j := by omega
    simp only [this]
    simp [hj]
theorem revd_len (xs : List Int) (i : Nat) : (revd xs i).length = xs.length := by simp [revd]
theorem revd_get (xs : List Int) (i j : Nat) (h : j < xs.length) (h1 : i ≤ j) (h2 : j + i < xs.length) : (revd xs i)[j]? = some xs[j] := by
  simp [revd, h]; omega
theorem revd_step (xs : List Int) (i : Nat) (h : i < xs.length - 1 - i) (h1 : i < xs.length) (h2 : xs.length - 1 - i < xs.length) : ((revd xs i).set i xs[xs.length - 1 - i]).set (xs.length - 1 - i) xs[i] = revd xs (i + 1) := by
  refine List.ext_getElem (by simp [revd]) fun j h3 h4 => ?_
  have hj : j < xs.length := by simpa [revd] using h4
  have hk : xs.length - 1 - j < xs.length := by omega
  simp only [List.getElem_set, revd, List.getElem_map, List.getElem_range]
  by_cases c1 : xs.length - 1 - i = j
  · rw [if_pos c1, if_pos (by omega)]
    subst c1
    have : xs.length - 1 - (xs.length - 1 - i) = i := by omega
    simp [this, h1]
  · rw [if_neg c1]
    by_cases c2 : i = j
    · subst c2; simp [h2]
    · rw [if_neg c2]
      by_cases c3 : j < i ∨ xs.length ≤ j + i
      · rw [if_pos c3, if_pos (by omega)]
      · rw [if_neg c3, if_neg (by omega)]
/-- The way up from a thing. -/
def chainL (g : List Thing) (i : Nat) : List Int := (i : Int) :: (if h : 0 ≤ (th g i).up ∧ (th g i).up < i then chainL g (th g i).up.toNat else [])
  termination_by i
  decreasing_by omega
def aboveL (g : List Thing) (n : Int) : List Int := if thereB g n = true then (chainL g n.toNat).reverse else []
theorem chainL_len (g : List Thing) (i : Nat) : (chainL g i).length ≤ i + 1 := by
  induction i using Nat.strongRecOn with
  | _ i ih =>
    rw [chainL.eq_1]
    split
    · rename_i h; have := ih (th g i).up.toNat (by omega); simp only [List.length_cons]; omega
    · simp
/-- The node of a thing: of those above it the first one that is a node. -/
def nodeOf (g : List Thing) (n : Int) : Int := ((aboveL g n).find? fun k => (th g k.toNat).kind == 2).getD (-1)
theorem chainL_mem {g : List Thing} : ∀ {i : Nat} {k : Int}, k ∈ chainL g i → 0 ≤ k ∧ k ≤ i := by
  intro i
  induction i using Nat.strongRecOn with
  | _ i ih =>
    intro k hk
    rw [chainL.eq_1] at hk
    rcases List.mem_cons.1 hk with rfl | hk
    · omega
    · split at hk
      · rename_i h; have := ih (th g i).up.toNat (by omega) hk; omega
      · cases hk
theorem aboveL_mem {g : List Thing} {n k : Int} (h : k ∈ aboveL g n) : 0 ≤ k ∧ k ≤ n ∧ n < g.length := by
  unfold aboveL at h
  split at h
  · rename_i ht
    unfold thereB at ht
    simp only [Bool.and_eq_true, decide_eq_true_eq] at ht
    have := chainL_mem (List.mem_reverse.1 h)
    omega
  · cases h
theorem aboveL_len (g : List Thing) (n : Int) (hg : g.length ≤ 140737488355328) : (aboveL g n).length ≤ 140737488355329 := by
  unfold aboveL
  split
  · rename_i ht
    unfold thereB at ht
    simp only [Bool.and_eq_true, decide_eq_true_eq] at ht
    have := chainL_len g n.toNat
    simp; omega
  · simp
end Go.Proofs.YtfcojlagmmgagaaDoor.Ab
