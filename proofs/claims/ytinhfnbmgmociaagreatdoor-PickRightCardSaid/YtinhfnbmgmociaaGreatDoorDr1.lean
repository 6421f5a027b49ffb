/- A seat whose rows list math/bits.deBruijn64tab: from the condition to the tables of the abstract layer; the world that meets it. -/
import Derived.Test.YtinhfnbmgmociaaGreatDoorRows
import Derived.Test.YtinhfnbmgmociaaGreatDoorAb3
import Derived.Test.YtinhfnbmgmociaaGreatDoorGr2
import Derived.Lib.LaidTab
import Derived.LaidLaws
import Derived.ProofKit
namespace Go.Proofs.YtinhfnbmgmociaaGreatDoor.Ab
open Go.RowKit
set_option linter.unusedVariables false
def tabZ : List Int := Lib.deBruijn64tab.map fun n : Nat => (n : Int)
theorem tab_name : Tryz.prog.globalNamed "math/bits.deBruijn64tab" = some 0 := by kernel_rfl
theorem tab_type : (Tryz.prog.globals[0]?).map (·.type) = some 150 := by kernel_rfl
theorem tab_cells : Tryz.prog.cellsOf 150 = 64 := by kernel_rfl
theorem tab_und : Tryz.prog.underlying 150 = some (.array 64 5) := by kernel_rfl
theorem u8_und : Tryz.prog.underlying 5 = some (.int .u8) := by kernel_rfl
theorem u8_cells : Tryz.prog.cellsOf 5 = 1 := by kernel_rfl
def laidL : List (String × DataW Unit) := [("math/bits.deBruijn64tab", Rows.laid_math_bits_deBruijn64tab)]
theorem gw_of_laid {W : World} (hL : laidMetH Tryz.prog laidL W) : GW W (· < W.heap.size) := by
  have hL' : laidMet Tryz.prog (("math/bits.deBruijn64tab", Lib.tabData .u8 tabZ) :: []) W := hL
  have htab := Lib.tabIs_of_head tab_name tab_type tab_und u8_und u8_cells tab_cells hL'
  have hcell := fun i hi => htab.cell tab_name i hi
  have hlen : tabZ.length = 64 := rfl
  intro g x hx
  have hg : g = 0 ∧ x = .agg dbL := by
    by_cases h : g = 0
    · subst h; rw [gtab1] at hx; exact ⟨rfl, (Option.some.inj hx).symm⟩
    · exfalso
      simp only [Gtab, lk] at hx
      rw [if_neg (fun e => h e.symm)] at hx
      cases hx
  obtain ⟨rfl, rfl⟩ := hg
  simp only [RepS]
  refine ⟨⟨0, 0, none⟩, .agg (tabZ.map fun z => Value.int .u8 z).toArray, by simp [Addr.add], ?_, ⟨_, rfl, ?_⟩, ?_⟩
  · have h0 := hcell 0 (by rw [hlen]; decide)
    show 0 < W.heap.size
    rcases Nat.lt_or_ge 0 W.heap.size with h | h
    · exact h
    · have hn : W.heap[0]? = none := Array.getElem?_eq_none h
      simp [World.cell?, hn] at h0
  · refine RepL.of (by simp [dbL, tabZ]) fun i y v hy hv => ?_
    have hi : i < 64 := by
      have := (List.getElem?_eq_some_iff.1 hy).1
      simpa [dbL, Lib.deBruijn64tab] using this
    rw [db_at hi] at hy
    simp only [Option.some.injEq] at hy
    subst hy
    simp only [RepS]
    have hi2 : i < tabZ.length := by rw [hlen]; exact hi
    simp only [List.getElem?_map, List.getElem?_eq_getElem hi2, Option.map_some, Option.some.injEq] at hv
    rw [← hv]
    have hi3 : i < Lib.deBruijn64tab.length := hi
    simp [tabZ, List.getD_eq_getElem?_getD, List.getElem?_eq_getElem hi3]
  · intro j y hy
    have hj : j < tabZ.length := by
      simp only [Value.cells, List.getElem?_toArray, List.getElem?_map] at hy
      cases hq : tabZ[j]? with
      | none => rw [hq] at hy; cases hy
      | some z => exact (List.getElem?_eq_some_iff.1 hq).1
    rw [add_lit, Nat.zero_add, hcell j hj]
    simp only [Value.cells, List.getElem?_toArray, List.getElem?_map, List.getElem?_eq_getElem hj, Option.map_some, Option.some.injEq] at hy
    rw [← hy, List.getD_eq_getElem?_getD, List.getElem?_eq_getElem hj]; rfl
/-- The settled world, the table as its initialiser lays it: the witness. -/
noncomputable def laidWorld (os : Os) : World :=
  { World.holding Tryz.prog os ⟨#[], #[], []⟩ with heap := (World.holding Tryz.prog os ⟨#[], #[], []⟩).heap.modify 0 fun
      | .cells _ t frozen => .cells (tabZ.map fun z => Value.int .u8 z).toArray t frozen
      | o => o }
theorem laid_met (os : Os) (args : Array Value) : laidMetH Tryz.prog laidL ((laidWorld os).forCall (fun _ _ => 0) ⟨#[], args, []⟩).memory :=
  laidMet_of_run' 8 (by kernel_rfl) (by kernel_rfl)
end Go.Proofs.YtinhfnbmgmociaaGreatDoor.Ab
