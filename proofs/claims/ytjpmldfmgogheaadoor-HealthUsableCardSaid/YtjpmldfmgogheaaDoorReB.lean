/- The reference of chapter 6. -/
import Derived.Test.YtjpmldfmgogheaaDoorReA
import Derived.Test.YtjpmldfmgogheaaDoorGrY
namespace Go.Proofs.YtjpmldfmgogheaaDoor.Ab
open Go.RowKit
set_option linter.unusedVariables false
set_option linter.unusedSimpArgs false

def fineTo (h : List Int) (i : Nat) : Prop := ∀ j (hj : j < h.length), j < i → 0 ≤ h[j] ∧ h[j] ≤ 2
def mx (a b : Int) : Int := if a < b then b else a
theorem mx_assoc (a b c : Int) : mx a (mx b c) = mx (mx a b) c := by unfold mx; split <;> split <;> (try split) <;> (try split) <;> omega
theorem worstAt_mx (g : List Thing) (h : List Int) (i : Nat) : worstAt g h i = if 0 ≤ (th g i).up ∧ (th g i).up < i then mx (h.getD i 0) (worstAt g h (th g i).up.toNat) else h.getD i 0 := by
  rw [worstAt.eq_1]; split <;> rfl
theorem worstAt_nonneg {g : List Thing} {h : List Int} (hh : ∀ n ∈ h, 0 ≤ n ∧ n ≤ 2) (i : Nat) : 0 ≤ worstAt g h i := by
  have h1 : ∀ j, 0 ≤ h.getD j 0 := fun j => by
    rw [List.getD_eq_getElem?_getD]
    cases hj : h[j]? with
    | none => simp
    | some x => simpa using (hh x (List.mem_of_getElem? hj)).1
  induction i using Nat.strongRecOn with
  | _ i ih =>
    rw [worstAt_mx]
    split
    · have := h1 i; unfold mx; split
      · exact ih _ (by omega)
      · exact this
    · exact h1 i
end Go.Proofs.YtjpmldfmgogheaaDoor.Ab
