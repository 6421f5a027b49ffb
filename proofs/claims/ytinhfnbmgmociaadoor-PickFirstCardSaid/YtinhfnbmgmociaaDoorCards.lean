/-
  DERIVED. GIVEN WITH THE SEED: THE CARDS: each row of YtinhfnbmgmociaaDoorRows.lean that lists a variable, with what it lists TIED to the program's text (the seventh form; the later family's looks); each row that meets fmt, with fmt's text TOLD by the authors' own Lean function (tested against real Go, not proved from fmt's source: count such statements apart). THE CARD IS WHAT COUNTS. Prove the row's statement (the work); the ties are given (YtinhfnbmgmociaaDoorTie.lean); close each card by the builder's one call (the guide's Derived/Test/ToyasCard.lean, 'card_holds'). Laid BY PROGRAM, IN A SANDBOX (cutbox-door.mjs). By AI agents, Wed Nov 11 2026. No macro, syntax, notation, axiom, sorry.
-/
import Derived.Test.YtinhfnbmgmociaaDoorRows
import GoSem.ClaimSeven
namespace Go.Proofs.YtinhfnbmgmociaaDoor
namespace Rows

/-- THE TIED CARD OF 'bailiwicklaw13.SlotMore'. -/
def slotMoreCard : Claim7 := { stood := { row := slotMoreRow, standIns := [], harness := (true, "4c4d9a5a4b3ac0a7eee2728eed5a0609e6a09514836eeebc9e56408147e181a6"), looks := false }, kinds := [], alts := [], laidByText := true, laidKinds := [.data], laidTests := true, laidLooks := .later }
def SlotMoreCardSaid : Prop := Claim7.holds Tryd.pinned (.plain (OpenSpec.ofChange slotMoreSpec)) slotMoreCard

/-- THE TIED CARD OF 'bailiwicklaw13.SlotEmpty'. -/
def slotEmptyCard : Claim7 := { stood := { row := slotEmptyRow, standIns := [], harness := (true, "4c4d9a5a4b3ac0a7eee2728eed5a0609e6a09514836eeebc9e56408147e181a6"), looks := false }, kinds := [], alts := [], laidByText := true, laidKinds := [.data], laidTests := true, laidLooks := .later }
def SlotEmptyCardSaid : Prop := Claim7.holds Tryd.pinned (.plain (OpenSpec.ofChange slotEmptySpec)) slotEmptyCard

/-- THE TIED CARD OF 'bailiwicklaw13.SlotRight'. -/
def slotRightCard : Claim7 := { stood := { row := slotRightRow, standIns := [], harness := (true, "4c4d9a5a4b3ac0a7eee2728eed5a0609e6a09514836eeebc9e56408147e181a6"), looks := false }, kinds := [], alts := [], laidByText := true, laidKinds := [.data], laidTests := true, laidLooks := .later }
def SlotRightCardSaid : Prop := Claim7.holds Tryd.pinned (.plain (OpenSpec.ofChange slotRightSpec)) slotRightCard

/-- THE TIED CARD OF 'bailiwicklaw14.PickOrder'. -/
def pickOrderCard : Claim7 := { stood := { row := pickOrderRow, standIns := [], harness := (true, "4c4d9a5a4b3ac0a7eee2728eed5a0609e6a09514836eeebc9e56408147e181a6"), looks := false }, kinds := [], alts := [], laidByText := true, laidKinds := [.data], laidTests := true, laidLooks := .later }
def PickOrderCardSaid : Prop := Claim7.holds Tryd.pinned (.plain (OpenSpec.ofChange pickOrderSpec)) pickOrderCard

/-- THE TIED CARD OF 'bailiwicklaw14.PickFirst'. -/
def pickFirstCard : Claim7 := { stood := { row := pickFirstRow, standIns := [], harness := (true, "4c4d9a5a4b3ac0a7eee2728eed5a0609e6a09514836eeebc9e56408147e181a6"), looks := false }, kinds := [], alts := [], laidByText := true, laidKinds := [.data], laidTests := true, laidLooks := .later }
def PickFirstCardSaid : Prop := Claim7.holds Tryd.pinned (.plain (OpenSpec.ofChange pickFirstSpec)) pickFirstCard

/-- THE TIED CARD OF 'bailiwicklaw13.SlotKeeps'. -/
def slotKeepsCard : Claim7 := { stood := { row := slotKeepsRow, standIns := [], harness := (true, "4c4d9a5a4b3ac0a7eee2728eed5a0609e6a09514836eeebc9e56408147e181a6"), looks := false }, kinds := [], alts := [], laidByText := true, laidKinds := [.data], laidTests := true, laidLooks := .later }
def SlotKeepsCardSaid : Prop := Claim7.holds Tryd.pinned (.plain (OpenSpec.ofChange slotKeepsSpec)) slotKeepsCard

/-- THE TIED CARD OF 'bailiwicklaw13.SlotFirst'. -/
def slotFirstCard : Claim7 := { stood := { row := slotFirstRow, standIns := [], harness := (true, "4c4d9a5a4b3ac0a7eee2728eed5a0609e6a09514836eeebc9e56408147e181a6"), looks := false }, kinds := [], alts := [], laidByText := true, laidKinds := [.data], laidTests := true, laidLooks := .later }
def SlotFirstCardSaid : Prop := Claim7.holds Tryd.pinned (.plain (OpenSpec.ofChange slotFirstSpec)) slotFirstCard

/-- THE TIED CARD OF 'bailiwicklaw14.PickAlone'. -/
def pickAloneCard : Claim7 := { stood := { row := pickAloneRow, standIns := [], harness := (true, "4c4d9a5a4b3ac0a7eee2728eed5a0609e6a09514836eeebc9e56408147e181a6"), looks := false }, kinds := [], alts := [], laidByText := true, laidKinds := [.data], laidTests := true, laidLooks := .later }
def PickAloneCardSaid : Prop := Claim7.holds Tryd.pinned (.plain (OpenSpec.ofChange pickAloneSpec)) pickAloneCard

/-- THE TIED CARD OF 'bailiwicklaw14.PickBegins'. -/
def pickBeginsCard : Claim7 := { stood := { row := pickBeginsRow, standIns := [], harness := (true, "4c4d9a5a4b3ac0a7eee2728eed5a0609e6a09514836eeebc9e56408147e181a6"), looks := false }, kinds := [], alts := [], laidByText := true, laidKinds := [.data], laidTests := true, laidLooks := .later }
def PickBeginsCardSaid : Prop := Claim7.holds Tryd.pinned (.plain (OpenSpec.ofChange pickBeginsSpec)) pickBeginsCard

/-- THE TIED CARD OF 'bailiwicklaw14.PickKeeps'. -/
def pickKeepsCard : Claim7 := { stood := { row := pickKeepsRow, standIns := [], harness := (true, "4c4d9a5a4b3ac0a7eee2728eed5a0609e6a09514836eeebc9e56408147e181a6"), looks := false }, kinds := [], alts := [], laidByText := true, laidKinds := [.data], laidTests := true, laidLooks := .later }
def PickKeepsCardSaid : Prop := Claim7.holds Tryd.pinned (.plain (OpenSpec.ofChange pickKeepsSpec)) pickKeepsCard

/-- THE SECOND FORM's CARD OF 'bailiwicklaw13.SlotMore'. -/
def slotMoreUptoCard : Claim7 := { stood := { row := slotMoreUptoRow, standIns := [], harness := (true, "4c4d9a5a4b3ac0a7eee2728eed5a0609e6a09514836eeebc9e56408147e181a6"), looks := false }, kinds := [], alts := [], laidByText := true, laidKinds := [.data], laidTests := true, laidLooks := .later }
def SlotMoreUptoCardSaid : Prop := Claim7.holds Tryd.pinned (.plain (OpenSpec.upto slotMoreSpec)) slotMoreUptoCard

/-- THE SECOND FORM's CARD OF 'bailiwicklaw13.SlotEmpty'. -/
def slotEmptyUptoCard : Claim7 := { stood := { row := slotEmptyUptoRow, standIns := [], harness := (true, "4c4d9a5a4b3ac0a7eee2728eed5a0609e6a09514836eeebc9e56408147e181a6"), looks := false }, kinds := [], alts := [], laidByText := true, laidKinds := [.data], laidTests := true, laidLooks := .later }
def SlotEmptyUptoCardSaid : Prop := Claim7.holds Tryd.pinned (.plain (OpenSpec.upto slotEmptySpec)) slotEmptyUptoCard

/-- THE SECOND FORM's CARD OF 'bailiwicklaw13.SlotRight'. -/
def slotRightUptoCard : Claim7 := { stood := { row := slotRightUptoRow, standIns := [], harness := (true, "4c4d9a5a4b3ac0a7eee2728eed5a0609e6a09514836eeebc9e56408147e181a6"), looks := false }, kinds := [], alts := [], laidByText := true, laidKinds := [.data], laidTests := true, laidLooks := .later }
def SlotRightUptoCardSaid : Prop := Claim7.holds Tryd.pinned (.plain (OpenSpec.upto slotRightSpec)) slotRightUptoCard

/-- THE SECOND FORM's CARD OF 'bailiwicklaw14.PickOrder'. -/
def pickOrderUptoCard : Claim7 := { stood := { row := pickOrderUptoRow, standIns := [], harness := (true, "4c4d9a5a4b3ac0a7eee2728eed5a0609e6a09514836eeebc9e56408147e181a6"), looks := false }, kinds := [], alts := [], laidByText := true, laidKinds := [.data], laidTests := true, laidLooks := .later }
def PickOrderUptoCardSaid : Prop := Claim7.holds Tryd.pinned (.plain (OpenSpec.upto pickOrderSpec)) pickOrderUptoCard

/-- THE SECOND FORM's CARD OF 'bailiwicklaw14.PickFirst'. -/
def pickFirstUptoCard : Claim7 := { stood := { row := pickFirstUptoRow, standIns := [], harness := (true, "4c4d9a5a4b3ac0a7eee2728eed5a0609e6a09514836eeebc9e56408147e181a6"), looks := false }, kinds := [], alts := [], laidByText := true, laidKinds := [.data], laidTests := true, laidLooks := .later }
def PickFirstUptoCardSaid : Prop := Claim7.holds Tryd.pinned (.plain (OpenSpec.upto pickFirstSpec)) pickFirstUptoCard

/-- THE SECOND FORM's CARD OF 'bailiwicklaw13.SlotKeeps'. -/
def slotKeepsUptoCard : Claim7 := { stood := { row := slotKeepsUptoRow, standIns := [], harness := (true, "4c4d9a5a4b3ac0a7eee2728eed5a0609e6a09514836eeebc9e56408147e181a6"), looks := false }, kinds := [], alts := [], laidByText := true, laidKinds := [.data], laidTests := true, laidLooks := .later }
def SlotKeepsUptoCardSaid : Prop := Claim7.holds Tryd.pinned (.plain (OpenSpec.upto slotKeepsSpec)) slotKeepsUptoCard

/-- THE SECOND FORM's CARD OF 'bailiwicklaw13.SlotFirst'. -/
def slotFirstUptoCard : Claim7 := { stood := { row := slotFirstUptoRow, standIns := [], harness := (true, "4c4d9a5a4b3ac0a7eee2728eed5a0609e6a09514836eeebc9e56408147e181a6"), looks := false }, kinds := [], alts := [], laidByText := true, laidKinds := [.data], laidTests := true, laidLooks := .later }
def SlotFirstUptoCardSaid : Prop := Claim7.holds Tryd.pinned (.plain (OpenSpec.upto slotFirstSpec)) slotFirstUptoCard

/-- THE SECOND FORM's CARD OF 'bailiwicklaw14.PickAlone'. -/
def pickAloneUptoCard : Claim7 := { stood := { row := pickAloneUptoRow, standIns := [], harness := (true, "4c4d9a5a4b3ac0a7eee2728eed5a0609e6a09514836eeebc9e56408147e181a6"), looks := false }, kinds := [], alts := [], laidByText := true, laidKinds := [.data], laidTests := true, laidLooks := .later }
def PickAloneUptoCardSaid : Prop := Claim7.holds Tryd.pinned (.plain (OpenSpec.upto pickAloneSpec)) pickAloneUptoCard

/-- THE SECOND FORM's CARD OF 'bailiwicklaw14.PickBegins'. -/
def pickBeginsUptoCard : Claim7 := { stood := { row := pickBeginsUptoRow, standIns := [], harness := (true, "4c4d9a5a4b3ac0a7eee2728eed5a0609e6a09514836eeebc9e56408147e181a6"), looks := false }, kinds := [], alts := [], laidByText := true, laidKinds := [.data], laidTests := true, laidLooks := .later }
def PickBeginsUptoCardSaid : Prop := Claim7.holds Tryd.pinned (.plain (OpenSpec.upto pickBeginsSpec)) pickBeginsUptoCard

/-- THE SECOND FORM's CARD OF 'bailiwicklaw14.PickKeeps'. -/
def pickKeepsUptoCard : Claim7 := { stood := { row := pickKeepsUptoRow, standIns := [], harness := (true, "4c4d9a5a4b3ac0a7eee2728eed5a0609e6a09514836eeebc9e56408147e181a6"), looks := false }, kinds := [], alts := [], laidByText := true, laidKinds := [.data], laidTests := true, laidLooks := .later }
def PickKeepsUptoCardSaid : Prop := Claim7.holds Tryd.pinned (.plain (OpenSpec.upto pickKeepsSpec)) pickKeepsUptoCard
end Rows
end Go.Proofs.YtinhfnbmgmociaaDoor
