/-
  DERIVED. GIVEN WITH THE SEED: THE CARDS: each row of YtfcojlagmmgagaaDoorRows.lean that lists a variable, with what it lists TIED to the program's text (the seventh form; the later family's looks); each row that meets fmt, with fmt's text TOLD by the authors' own Lean function (tested against real Go, not proved from fmt's source: count such statements apart). THE CARD IS WHAT COUNTS. Prove the row's statement (the work); the ties are given (YtfcojlagmmgagaaDoorTie.lean); close each card by the builder's one call (the guide's Derived/Test/ToyasCard.lean, 'card_holds'). Laid BY PROGRAM, IN A SANDBOX (cutbox-door.mjs). By AI agents, Wed Nov 11 2026. No macro, syntax, notation, axiom, sorry.
-/
import Derived.Test.YtfcojlagmmgagaaDoorRows
import GoSem.ClaimSeven
namespace Go.Proofs.YtfcojlagmmgagaaDoor
namespace Rows

/-- THE TIED CARD OF 'bailiwicklaw09.MatchRight'. -/
def matchRightCard : Claim7 := { stood := { row := matchRightRow, standIns := [], harness := (true, "4b7ab1b47c79db1ecb551e0ba88358551fe8f03ce9da5c7dc8a6ba76249dadf7"), looks := false }, kinds := [], alts := [], laidByText := true, laidKinds := [.data], laidTests := true, laidLooks := .later }
def MatchRightCardSaid : Prop := Claim7.holds Tryd.pinned (.plain (OpenSpec.ofChange matchRightSpec)) matchRightCard

/-- THE TIED CARD OF 'bailiwicklaw09.MatchTags'. -/
def matchTagsCard : Claim7 := { stood := { row := matchTagsRow, standIns := [], harness := (true, "4b7ab1b47c79db1ecb551e0ba88358551fe8f03ce9da5c7dc8a6ba76249dadf7"), looks := false }, kinds := [], alts := [], laidByText := true, laidKinds := [.data], laidTests := true, laidLooks := .later }
def MatchTagsCardSaid : Prop := Claim7.holds Tryd.pinned (.plain (OpenSpec.ofChange matchTagsSpec)) matchTagsCard

/-- THE TIED CARD OF 'bailiwicklaw09.MatchWhole'. -/
def matchWholeCard : Claim7 := { stood := { row := matchWholeRow, standIns := [], harness := (true, "4b7ab1b47c79db1ecb551e0ba88358551fe8f03ce9da5c7dc8a6ba76249dadf7"), looks := false }, kinds := [], alts := [], laidByText := true, laidKinds := [.data], laidTests := true, laidLooks := .later }
def MatchWholeCardSaid : Prop := Claim7.holds Tryd.pinned (.plain (OpenSpec.ofChange matchWholeSpec)) matchWholeCard

/-- THE TIED CARD OF 'bailiwicklaw09.MatchMore'. -/
def matchMoreCard : Claim7 := { stood := { row := matchMoreRow, standIns := [], harness := (true, "4b7ab1b47c79db1ecb551e0ba88358551fe8f03ce9da5c7dc8a6ba76249dadf7"), looks := false }, kinds := [], alts := [], laidByText := true, laidKinds := [.data], laidTests := true, laidLooks := .later }
def MatchMoreCardSaid : Prop := Claim7.holds Tryd.pinned (.plain (OpenSpec.ofChange matchMoreSpec)) matchMoreCard

/-- THE TIED CARD OF 'bailiwicklaw09.MatchFits'. -/
def matchFitsCard : Claim7 := { stood := { row := matchFitsRow, standIns := [], harness := (true, "4b7ab1b47c79db1ecb551e0ba88358551fe8f03ce9da5c7dc8a6ba76249dadf7"), looks := false }, kinds := [], alts := [], laidByText := true, laidKinds := [.data], laidTests := true, laidLooks := .later }
def MatchFitsCardSaid : Prop := Claim7.holds Tryd.pinned (.plain (OpenSpec.ofChange matchFitsSpec)) matchFitsCard

/-- THE TIED CARD OF 'bailiwicklaw10.HeldApart'. -/
def heldApartCard : Claim7 := { stood := { row := heldApartRow, standIns := [], harness := (true, "4b7ab1b47c79db1ecb551e0ba88358551fe8f03ce9da5c7dc8a6ba76249dadf7"), looks := false }, kinds := [], alts := [], laidByText := true, laidKinds := [.data], laidTests := true, laidLooks := .later }
def HeldApartCardSaid : Prop := Claim7.holds Tryd.pinned (.plain (OpenSpec.ofChange heldApartSpec)) heldApartCard

/-- THE TIED CARD OF 'bailiwicklaw10.HeldGets'. -/
def heldGetsCard : Claim7 := { stood := { row := heldGetsRow, standIns := [], harness := (true, "4b7ab1b47c79db1ecb551e0ba88358551fe8f03ce9da5c7dc8a6ba76249dadf7"), looks := false }, kinds := [], alts := [], laidByText := true, laidKinds := [.data], laidTests := true, laidLooks := .later }
def HeldGetsCardSaid : Prop := Claim7.holds Tryd.pinned (.plain (OpenSpec.ofChange heldGetsSpec)) heldGetsCard

/-- THE TIED CARD OF 'bailiwicklaw10.HeldSpans'. -/
def heldSpansCard : Claim7 := { stood := { row := heldSpansRow, standIns := [], harness := (true, "4b7ab1b47c79db1ecb551e0ba88358551fe8f03ce9da5c7dc8a6ba76249dadf7"), looks := false }, kinds := [], alts := [], laidByText := true, laidKinds := [.data], laidTests := true, laidLooks := .later }
def HeldSpansCardSaid : Prop := Claim7.holds Tryd.pinned (.plain (OpenSpec.ofChange heldSpansSpec)) heldSpansCard

/-- THE TIED CARD OF 'bailiwicklaw10.HeldLater'. -/
def heldLaterCard : Claim7 := { stood := { row := heldLaterRow, standIns := [], harness := (true, "4b7ab1b47c79db1ecb551e0ba88358551fe8f03ce9da5c7dc8a6ba76249dadf7"), looks := false }, kinds := [], alts := [], laidByText := true, laidKinds := [.data], laidTests := true, laidLooks := .later }
def HeldLaterCardSaid : Prop := Claim7.holds Tryd.pinned (.plain (OpenSpec.ofChange heldLaterSpec)) heldLaterCard

/-- THE TIED CARD OF 'bailiwicklaw10.HeldRight'. -/
def heldRightCard : Claim7 := { stood := { row := heldRightRow, standIns := [], harness := (true, "4b7ab1b47c79db1ecb551e0ba88358551fe8f03ce9da5c7dc8a6ba76249dadf7"), looks := false }, kinds := [], alts := [], laidByText := true, laidKinds := [.data], laidTests := true, laidLooks := .later }
def HeldRightCardSaid : Prop := Claim7.holds Tryd.pinned (.plain (OpenSpec.ofChange heldRightSpec)) heldRightCard

/-- THE TIED CARD OF 'bailiwicklaw10.HeldBack'. -/
def heldBackCard : Claim7 := { stood := { row := heldBackRow, standIns := [], harness := (true, "4b7ab1b47c79db1ecb551e0ba88358551fe8f03ce9da5c7dc8a6ba76249dadf7"), looks := false }, kinds := [], alts := [], laidByText := true, laidKinds := [.data], laidTests := true, laidLooks := .later }
def HeldBackCardSaid : Prop := Claim7.holds Tryd.pinned (.plain (OpenSpec.ofChange heldBackSpec)) heldBackCard

/-- THE SECOND FORM's CARD OF 'bailiwicklaw09.MatchRight'. -/
def matchRightUptoCard : Claim7 := { stood := { row := matchRightUptoRow, standIns := [], harness := (true, "4b7ab1b47c79db1ecb551e0ba88358551fe8f03ce9da5c7dc8a6ba76249dadf7"), looks := false }, kinds := [], alts := [], laidByText := true, laidKinds := [.data], laidTests := true, laidLooks := .later }
def MatchRightUptoCardSaid : Prop := Claim7.holds Tryd.pinned (.plain (OpenSpec.upto matchRightSpec)) matchRightUptoCard

/-- THE SECOND FORM's CARD OF 'bailiwicklaw09.MatchTags'. -/
def matchTagsUptoCard : Claim7 := { stood := { row := matchTagsUptoRow, standIns := [], harness := (true, "4b7ab1b47c79db1ecb551e0ba88358551fe8f03ce9da5c7dc8a6ba76249dadf7"), looks := false }, kinds := [], alts := [], laidByText := true, laidKinds := [.data], laidTests := true, laidLooks := .later }
def MatchTagsUptoCardSaid : Prop := Claim7.holds Tryd.pinned (.plain (OpenSpec.upto matchTagsSpec)) matchTagsUptoCard

/-- THE SECOND FORM's CARD OF 'bailiwicklaw09.MatchWhole'. -/
def matchWholeUptoCard : Claim7 := { stood := { row := matchWholeUptoRow, standIns := [], harness := (true, "4b7ab1b47c79db1ecb551e0ba88358551fe8f03ce9da5c7dc8a6ba76249dadf7"), looks := false }, kinds := [], alts := [], laidByText := true, laidKinds := [.data], laidTests := true, laidLooks := .later }
def MatchWholeUptoCardSaid : Prop := Claim7.holds Tryd.pinned (.plain (OpenSpec.upto matchWholeSpec)) matchWholeUptoCard

/-- THE SECOND FORM's CARD OF 'bailiwicklaw09.MatchMore'. -/
def matchMoreUptoCard : Claim7 := { stood := { row := matchMoreUptoRow, standIns := [], harness := (true, "4b7ab1b47c79db1ecb551e0ba88358551fe8f03ce9da5c7dc8a6ba76249dadf7"), looks := false }, kinds := [], alts := [], laidByText := true, laidKinds := [.data], laidTests := true, laidLooks := .later }
def MatchMoreUptoCardSaid : Prop := Claim7.holds Tryd.pinned (.plain (OpenSpec.upto matchMoreSpec)) matchMoreUptoCard

/-- THE SECOND FORM's CARD OF 'bailiwicklaw09.MatchFits'. -/
def matchFitsUptoCard : Claim7 := { stood := { row := matchFitsUptoRow, standIns := [], harness := (true, "4b7ab1b47c79db1ecb551e0ba88358551fe8f03ce9da5c7dc8a6ba76249dadf7"), looks := false }, kinds := [], alts := [], laidByText := true, laidKinds := [.data], laidTests := true, laidLooks := .later }
def MatchFitsUptoCardSaid : Prop := Claim7.holds Tryd.pinned (.plain (OpenSpec.upto matchFitsSpec)) matchFitsUptoCard

/-- THE SECOND FORM's CARD OF 'bailiwicklaw10.HeldApart'. -/
def heldApartUptoCard : Claim7 := { stood := { row := heldApartUptoRow, standIns := [], harness := (true, "4b7ab1b47c79db1ecb551e0ba88358551fe8f03ce9da5c7dc8a6ba76249dadf7"), looks := false }, kinds := [], alts := [], laidByText := true, laidKinds := [.data], laidTests := true, laidLooks := .later }
def HeldApartUptoCardSaid : Prop := Claim7.holds Tryd.pinned (.plain (OpenSpec.upto heldApartSpec)) heldApartUptoCard

/-- THE SECOND FORM's CARD OF 'bailiwicklaw10.HeldGets'. -/
def heldGetsUptoCard : Claim7 := { stood := { row := heldGetsUptoRow, standIns := [], harness := (true, "4b7ab1b47c79db1ecb551e0ba88358551fe8f03ce9da5c7dc8a6ba76249dadf7"), looks := false }, kinds := [], alts := [], laidByText := true, laidKinds := [.data], laidTests := true, laidLooks := .later }
def HeldGetsUptoCardSaid : Prop := Claim7.holds Tryd.pinned (.plain (OpenSpec.upto heldGetsSpec)) heldGetsUptoCard

/-- THE SECOND FORM's CARD OF 'bailiwicklaw10.HeldSpans'. -/
def heldSpansUptoCard : Claim7 := { stood := { row := heldSpansUptoRow, standIns := [], harness := (true, "4b7ab1b47c79db1ecb551e0ba88358551fe8f03ce9da5c7dc8a6ba76249dadf7"), looks := false }, kinds := [], alts := [], laidByText := true, laidKinds := [.data], laidTests := true, laidLooks := .later }
def HeldSpansUptoCardSaid : Prop := Claim7.holds Tryd.pinned (.plain (OpenSpec.upto heldSpansSpec)) heldSpansUptoCard

/-- THE SECOND FORM's CARD OF 'bailiwicklaw10.HeldLater'. -/
def heldLaterUptoCard : Claim7 := { stood := { row := heldLaterUptoRow, standIns := [], harness := (true, "4b7ab1b47c79db1ecb551e0ba88358551fe8f03ce9da5c7dc8a6ba76249dadf7"), looks := false }, kinds := [], alts := [], laidByText := true, laidKinds := [.data], laidTests := true, laidLooks := .later }
def HeldLaterUptoCardSaid : Prop := Claim7.holds Tryd.pinned (.plain (OpenSpec.upto heldLaterSpec)) heldLaterUptoCard

/-- THE SECOND FORM's CARD OF 'bailiwicklaw10.HeldRight'. -/
def heldRightUptoCard : Claim7 := { stood := { row := heldRightUptoRow, standIns := [], harness := (true, "4b7ab1b47c79db1ecb551e0ba88358551fe8f03ce9da5c7dc8a6ba76249dadf7"), looks := false }, kinds := [], alts := [], laidByText := true, laidKinds := [.data], laidTests := true, laidLooks := .later }
def HeldRightUptoCardSaid : Prop := Claim7.holds Tryd.pinned (.plain (OpenSpec.upto heldRightSpec)) heldRightUptoCard

/-- THE SECOND FORM's CARD OF 'bailiwicklaw10.HeldBack'. -/
def heldBackUptoCard : Claim7 := { stood := { row := heldBackUptoRow, standIns := [], harness := (true, "4b7ab1b47c79db1ecb551e0ba88358551fe8f03ce9da5c7dc8a6ba76249dadf7"), looks := false }, kinds := [], alts := [], laidByText := true, laidKinds := [.data], laidTests := true, laidLooks := .later }
def HeldBackUptoCardSaid : Prop := Claim7.holds Tryd.pinned (.plain (OpenSpec.upto heldBackSpec)) heldBackUptoCard
end Rows
end Go.Proofs.YtfcojlagmmgagaaDoor
