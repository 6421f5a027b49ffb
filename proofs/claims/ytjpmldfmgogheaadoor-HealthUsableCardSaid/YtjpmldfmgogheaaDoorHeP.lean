/- Health, plainly. -/
import Derived.Test.YtjpmldfmgogheaaDoorLaC
import Derived.Test.YtjpmldfmgogheaaDoorLaG
import Derived.Test.YtjpmldfmgogheaaDoorReB
import Derived.Test.YtjpmldfmgogheaaDoorSetP
namespace Go.Proofs.YtjpmldfmgogheaaDoor.Ab
open Go.RowKit
set_option linter.unusedVariables false
set_option linter.unusedSimpArgs false

theorem worstAt_le {g : List Thing} {h : List Int} {m : Int} (hm : ∀ j, h.getD j 0 ≤ m) (i : Nat) : worstAt g h i ≤ m := by
  induction i using Nat.strongRecOn with
  | _ i ih =>
    rw [worstAt.eq_1]
    have h1 := hm i
    split
    · rename_i hh
      have h2 := ih (th g i).up.toNat (by omega)
      split <;> assumption
    · exact h1
theorem worstAt_root {g : List Thing} (hg : isGraph g = true) (h : List Int) (i : Nat) (hi : i < g.length) : h.getD 0 0 ≤ worstAt g h i := by
  induction i using Nat.strongRecOn with
  | _ i ih =>
    rw [worstAt.eq_1]
    by_cases h0 : 0 < i
    · have h1 := isGraph_up hg h0 hi
      rw [dif_pos ⟨h1.1, h1.2.1⟩]
      have h2 := ih (th g i).up.toNat (by omega) (by omega)
      split
      · exact h2
      · omega
    · have : i = 0 := by omega
      subst this
      rw [dif_neg (by omega)]
      exact Int.le_refl _
theorem belowTo_all {g : List Thing} {h : List Int} {m : Int} {n : Nat} (hm : ∀ i, i < n → worstAt g h i ≤ m) : (belowTo g h m n).length = n := by
  unfold belowTo
  rw [List.length_map, List.filter_eq_self.2 (fun i hi => by simpa using hm i (List.mem_range.1 hi)), List.length_range]
theorem belowTo_none {g : List Thing} {h : List Int} {m : Int} {n : Nat} (hm : ∀ i, i < n → m < worstAt g h i) : (belowTo g h m n).length = 0 := by
  unfold belowTo
  rw [List.length_map, List.filter_eq_nil_iff.2 (fun i hi => by have := hm i (List.mem_range.1 hi); simp; omega)]
  rfl
def freshH (g : List Thing) : List Int := List.replicate g.length 0
theorem fresh_ok {g : List Thing} (hg : isGraph g = true) : isHealth g (freshH g) = true := by
  unfold isHealth freshH
  rw [hg]
  simp
theorem isHealth_set {g : List Thing} {h : List Int} (hh : isHealth g h = true) {n : Nat} {v : Int} (h0 : 0 ≤ v) (h2 : v ≤ 2) : isHealth g (h.set n v) = true := by
  obtain ⟨h3, h4, h5⟩ := isHealth_spec hh
  unfold isHealth
  rw [h3]
  simp only [List.length_set, h4, decide_true, Bool.true_and, List.all_eq_true, Bool.and_eq_true, decide_eq_true_eq]
  intro x hx
  rcases List.mem_or_eq_of_mem_set hx with hx | rfl
  · exact h5 x hx
  · exact ⟨h0, h2⟩
theorem setH_ok {g : List Thing} {h : List Int} (hh : isHealth g h = true) {n v : Int} (hn : 0 ≤ n) (hn2 : n < h.length) (h0 : 0 ≤ v) (h2 : v ≤ 2) : setH g h n v = (h.set n.toNat v, 0) := by
  unfold setH
  rw [if_pos ⟨hh, h0, h2⟩, if_pos ⟨hn, hn2⟩]
theorem ints_len {y : List Int} (h : y.length * 8 ≤ 140737488351232 ∧ y.length ≤ maxLen ∧ ∀ x ∈ y, (Lit.int .i64 x).wf = true) : y.length ≤ 140737488355 * 125 := by have := h.1; omega
theorem belowL_len (g : List Thing) (h : List Int) (m : Int) : (belowL g h m).length ≤ g.length := by
  unfold belowL; split
  · exact belowTo_len _ _ _ _
  · simp
theorem setH_len (g : List Thing) (h : List Int) (n how : Int) : (setH g h n how).1.length = h.length := by
  unfold setH; split
  · split <;> simp
  · rfl
theorem worstAt_mono {g : List Thing} {a b : List Int} (h : ∀ j, a.getD j 0 ≤ b.getD j 0) (i : Nat) : worstAt g a i ≤ worstAt g b i := by
  induction i using Nat.strongRecOn with
  | _ i ih =>
    rw [worstAt_mx g a i, worstAt_mx g b i]
    have h1 := h i
    split
    · have h2 := ih (th g i).up.toNat (by omega)
      unfold mx; split <;> split <;> omega
    · exact h1
theorem belowL_set (g : List Thing) (h : List Int) (m : Int) : isSet (belowL g h m) = true := by
  unfold belowL
  split
  · rename_i hh
    exact rangeF_set _ (isGraph_len (isHealth_spec hh).1).2
  · rfl
theorem belowL_mem {g : List Thing} {h : List Int} {m k : Int} : k ∈ belowL g h m ↔ isHealth g h = true ∧ 0 ≤ k ∧ k < g.length ∧ worstAt g h k.toNat ≤ m := by
  unfold belowL
  split
  · rename_i hh
    rw [show belowTo g h m g.length = rangeF (fun j => decide (worstAt g h j ≤ m)) g.length from rfl, mem_rangeF]
    simp [hh]
  · rename_i hh
    simp [hh]
theorem belowL_part {g : List Thing} {a b : List Int} {m : Int} (ha : isHealth g a = true) (hb : isHealth g b = true) (h : ∀ j, a.getD j 0 ≤ b.getD j 0) : partB (belowL g b m) (belowL g a m) = true := by
  rw [partB_iff (belowL_set _ _ _) (belowL_set _ _ _)]
  intro n hn
  rw [belowL_mem] at hn ⊢
  have := worstAt_mono (g := g) h n.toNat
  exact ⟨ha, hn.2.1, hn.2.2.1, by omega⟩
end Go.Proofs.YtjpmldfmgogheaaDoor.Ab
