/-
  DERIVED. GIVEN WITH THE SEED: THE CARDS: each row of YtinhfnbmgmociaaGreatDoorRows.lean that lists a variable, with what it lists TIED to the program's text (the seventh form; the later family's looks); each row that meets fmt, with fmt's text TOLD by the authors' own Lean function (tested against real Go, not proved from fmt's source: count such statements apart). THE CARD IS WHAT COUNTS. Prove the row's statement (the work); the ties are given (YtinhfnbmgmociaaGreatDoorTie.lean); close each card by the builder's one call (the guide's Derived/Test/ToyasCard.lean, 'card_holds'). Laid BY PROGRAM, IN A SANDBOX (cutbox-door.mjs). By AI agents, Wed Nov 11 2026. No macro, syntax, notation, axiom, sorry.
-/
import Derived.Test.YtinhfnbmgmociaaGreatDoorRows
import GoSem.ClaimSeven
namespace Go.Proofs.YtinhfnbmgmociaaGreatDoor
namespace Rows

/-- THE TIED CARD OF 'bailiwicklaw13.SlotPlans'. -/
def slotPlansCard : Claim7 := { stood := { row := slotPlansRow, standIns := [], harness := (true, "8321e8de462228f63cf229d792740834797c511a81fb4a15c8dc8607e6ffe8b1"), looks := false }, kinds := [], alts := [], laidByText := true, laidKinds := [.data], laidTests := true, laidLooks := .later }
def SlotPlansCardSaid : Prop := Claim7.holds Tryz.pinned (.plain (OpenSpec.ofChange slotPlansSpec)) slotPlansCard

/-- THE TIED CARD OF 'bailiwicklaw14.PickRight'. -/
def pickRightCard : Claim7 := { stood := { row := pickRightRow, standIns := [], harness := (true, "8321e8de462228f63cf229d792740834797c511a81fb4a15c8dc8607e6ffe8b1"), looks := false }, kinds := [], alts := [], laidByText := true, laidKinds := [.data], laidTests := true, laidLooks := .later }
def PickRightCardSaid : Prop := Claim7.holds Tryz.pinned (.plain (OpenSpec.ofChange pickRightSpec)) pickRightCard

/-- THE SECOND FORM's CARD OF 'bailiwicklaw13.SlotPlans'. -/
def slotPlansUptoCard : Claim7 := { stood := { row := slotPlansUptoRow, standIns := [], harness := (true, "8321e8de462228f63cf229d792740834797c511a81fb4a15c8dc8607e6ffe8b1"), looks := false }, kinds := [], alts := [], laidByText := true, laidKinds := [.data], laidTests := true, laidLooks := .later }
def SlotPlansUptoCardSaid : Prop := Claim7.holds Tryz.pinned (.plain (OpenSpec.upto slotPlansSpec)) slotPlansUptoCard

/-- THE SECOND FORM's CARD OF 'bailiwicklaw14.PickRight'. -/
def pickRightUptoCard : Claim7 := { stood := { row := pickRightUptoRow, standIns := [], harness := (true, "8321e8de462228f63cf229d792740834797c511a81fb4a15c8dc8607e6ffe8b1"), looks := false }, kinds := [], alts := [], laidByText := true, laidKinds := [.data], laidTests := true, laidLooks := .later }
def PickRightUptoCardSaid : Prop := Claim7.holds Tryz.pinned (.plain (OpenSpec.upto pickRightSpec)) pickRightUptoCard
end Rows
end Go.Proofs.YtinhfnbmgmociaaGreatDoor
