/-
  DERIVED. GIVEN WITH THE SEED: THE CARDS: each row of YtjpmldfmgogheaaDoorRows.lean that lists a variable, with what it lists TIED to the program's text (the seventh form; the later family's looks); each row that meets fmt, with fmt's text TOLD by the authors' own Lean function (tested against real Go, not proved from fmt's source: count such statements apart). THE CARD IS WHAT COUNTS. Prove the row's statement (the work); the ties are given (YtjpmldfmgogheaaDoorTie.lean); close each card by the builder's one call (the guide's Derived/Test/ToyasCard.lean, 'card_holds'). Laid BY PROGRAM, IN A SANDBOX (cutbox-door.mjs). By AI agents, Wed Nov 11 2026. No macro, syntax, notation, axiom, sorry.
-/
import Derived.Test.YtjpmldfmgogheaaDoorRows
import GoSem.ClaimSeven
namespace Go.Proofs.YtjpmldfmgogheaaDoor
namespace Rows

/-- THE TIED CARD OF 'bailiwicklaw05.GraphRight'. -/
def graphRightCard : Claim7 := { stood := { row := graphRightRow, standIns := [], harness := (true, "d40b72a2cb60b4a7706e209bb12acd71d564fef2fd9fd2a466eafaf57a00690b"), looks := false }, kinds := [], alts := [], laidByText := true, laidKinds := [.data], laidTests := true, laidLooks := .later }
def GraphRightCardSaid : Prop := Claim7.holds Tryd.pinned (.plain (OpenSpec.ofChange graphRightSpec)) graphRightCard

/-- THE TIED CARD OF 'bailiwicklaw05.GraphWhole'. -/
def graphWholeCard : Claim7 := { stood := { row := graphWholeRow, standIns := [], harness := (true, "d40b72a2cb60b4a7706e209bb12acd71d564fef2fd9fd2a466eafaf57a00690b"), looks := false }, kinds := [], alts := [], laidByText := true, laidKinds := [.data], laidTests := true, laidLooks := .later }
def GraphWholeCardSaid : Prop := Claim7.holds Tryd.pinned (.plain (OpenSpec.ofChange graphWholeSpec)) graphWholeCard

/-- THE TIED CARD OF 'bailiwicklaw06.HealthSets'. -/
def healthSetsCard : Claim7 := { stood := { row := healthSetsRow, standIns := [], harness := (true, "d40b72a2cb60b4a7706e209bb12acd71d564fef2fd9fd2a466eafaf57a00690b"), looks := false }, kinds := [], alts := [], laidByText := true, laidKinds := [.data], laidTests := true, laidLooks := .later }
def HealthSetsCardSaid : Prop := Claim7.holds Tryd.pinned (.plain (OpenSpec.ofChange healthSetsSpec)) healthSetsCard

/-- THE TIED CARD OF 'bailiwicklaw06.HealthUsable'. -/
def healthUsableCard : Claim7 := { stood := { row := healthUsableRow, standIns := [], harness := (true, "d40b72a2cb60b4a7706e209bb12acd71d564fef2fd9fd2a466eafaf57a00690b"), looks := false }, kinds := [], alts := [], laidByText := true, laidKinds := [.data], laidTests := true, laidLooks := .later }
def HealthUsableCardSaid : Prop := Claim7.holds Tryd.pinned (.plain (OpenSpec.ofChange healthUsableSpec)) healthUsableCard

/-- THE SECOND FORM's CARD OF 'bailiwicklaw05.GraphRight'. -/
def graphRightUptoCard : Claim7 := { stood := { row := graphRightUptoRow, standIns := [], harness := (true, "d40b72a2cb60b4a7706e209bb12acd71d564fef2fd9fd2a466eafaf57a00690b"), looks := false }, kinds := [], alts := [], laidByText := true, laidKinds := [.data], laidTests := true, laidLooks := .later }
def GraphRightUptoCardSaid : Prop := Claim7.holds Tryd.pinned (.plain (OpenSpec.upto graphRightSpec)) graphRightUptoCard

/-- THE SECOND FORM's CARD OF 'bailiwicklaw05.GraphWhole'. -/
def graphWholeUptoCard : Claim7 := { stood := { row := graphWholeUptoRow, standIns := [], harness := (true, "d40b72a2cb60b4a7706e209bb12acd71d564fef2fd9fd2a466eafaf57a00690b"), looks := false }, kinds := [], alts := [], laidByText := true, laidKinds := [.data], laidTests := true, laidLooks := .later }
def GraphWholeUptoCardSaid : Prop := Claim7.holds Tryd.pinned (.plain (OpenSpec.upto graphWholeSpec)) graphWholeUptoCard

/-- THE SECOND FORM's CARD OF 'bailiwicklaw06.HealthSets'. -/
def healthSetsUptoCard : Claim7 := { stood := { row := healthSetsUptoRow, standIns := [], harness := (true, "d40b72a2cb60b4a7706e209bb12acd71d564fef2fd9fd2a466eafaf57a00690b"), looks := false }, kinds := [], alts := [], laidByText := true, laidKinds := [.data], laidTests := true, laidLooks := .later }
def HealthSetsUptoCardSaid : Prop := Claim7.holds Tryd.pinned (.plain (OpenSpec.upto healthSetsSpec)) healthSetsUptoCard

/-- THE SECOND FORM's CARD OF 'bailiwicklaw06.HealthUsable'. -/
def healthUsableUptoCard : Claim7 := { stood := { row := healthUsableUptoRow, standIns := [], harness := (true, "d40b72a2cb60b4a7706e209bb12acd71d564fef2fd9fd2a466eafaf57a00690b"), looks := false }, kinds := [], alts := [], laidByText := true, laidKinds := [.data], laidTests := true, laidLooks := .later }
def HealthUsableUptoCardSaid : Prop := Claim7.holds Tryd.pinned (.plain (OpenSpec.upto healthUsableSpec)) healthUsableUptoCard
end Rows
end Go.Proofs.YtjpmldfmgogheaaDoor
