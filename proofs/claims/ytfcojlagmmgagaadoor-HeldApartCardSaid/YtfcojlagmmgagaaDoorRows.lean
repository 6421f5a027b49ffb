/-
  NARROWER THAN 'FOR EVERY INPUT', by the rows' own cells (each row's printed sentence says how): MatchRight: laid · MatchTags: laid · MatchWhole: laid · MatchMore: laid · MatchFits: laid · HeldApart: laid · HeldGets: laid · HeldSpans: laid · HeldLater: laid · HeldRight: laid · HeldBack: laid.
  DERIVED. THE GIVEN ROWS OF THIS SEAT. 11 by the template 'for every input the law returns true; each argument reads behind the call as it read before'; 0 by the template 'total and deterministic' (their statements: YtfcojlagmmgagaaDoorTotals.lean).
  GIVEN WITH THE SEED: the statements are not yours to turn. If you find one false, say at which input.
  Laid BY PROGRAM, IN A SANDBOX (cutbox-rows.mjs): the forced cells as the released guide's own fill.sh prints them over the translation 3004f04213f0aa0d… (all of the seat's roots in one cut). By AI agents, Wed Nov 11 2026. No macro, syntax, notation, axiom, sorry.
-/
import Derived.Test.YtfcojlagmmgagaaDoorChecked
import GoSem.Claim
import GoSem.ClaimJoined
import GoSem.ClaimMapViews
import Derived.JoinedTies
import Derived.KernelRfl
namespace Go.Proofs.YtfcojlagmmgagaaDoor
/- THE CELL 'sum', in the pinned program and in every row, IS THE sha256 OF THE DUMP (.gsa) THAT YtfcojlagmmgagaaDoorProg.lean LOADS. Nothing in Lean hashes anything: it is a label: what it is worth is what the hold of that sum in a sandbox is worth. -/
noncomputable def Tryd.pinned : Pinned := { name := "ytfcojlagmmgagaadoor", sum := "3004f04213f0aa0df5b5e6fe795a723f30360f998c60b863defd48fcd05d622a", checked := Tryd.checked }
namespace Rows
def none {H : Type} : Left H := { results := [], args := [] }

/- WHAT THE LISTED PACKAGE-LEVEL VARIABLES READ AS WHEN THE CALL BEGINS. Each datum BY PROGRAM (the guide's laid-datum.mjs) off the statement by which the dump's own 'gosem.cut.vars' lays the variable. In a bare row this is a premise. The card (YtfcojlagmmgagaaDoorCards.lean) ties it to the program's text. -/
def laid_math_bits_deBruijn64tab {H : Type} : DataW H := .agg [.lit (.int .u8 0), .lit (.int .u8 1), .lit (.int .u8 56), .lit (.int .u8 2), .lit (.int .u8 57), .lit (.int .u8 49), .lit (.int .u8 28), .lit (.int .u8 3), .lit (.int .u8 61), .lit (.int .u8 58), .lit (.int .u8 42), .lit (.int .u8 50), .lit (.int .u8 38), .lit (.int .u8 29), .lit (.int .u8 17), .lit (.int .u8 4), .lit (.int .u8 62), .lit (.int .u8 47), .lit (.int .u8 59), .lit (.int .u8 36), .lit (.int .u8 45), .lit (.int .u8 43), .lit (.int .u8 51), .lit (.int .u8 22), .lit (.int .u8 53), .lit (.int .u8 39), .lit (.int .u8 33), .lit (.int .u8 30), .lit (.int .u8 24), .lit (.int .u8 18), .lit (.int .u8 12), .lit (.int .u8 5), .lit (.int .u8 63), .lit (.int .u8 55), .lit (.int .u8 48), .lit (.int .u8 27), .lit (.int .u8 60), .lit (.int .u8 41), .lit (.int .u8 37), .lit (.int .u8 16), .lit (.int .u8 46), .lit (.int .u8 35), .lit (.int .u8 44), .lit (.int .u8 21), .lit (.int .u8 52), .lit (.int .u8 32), .lit (.int .u8 23), .lit (.int .u8 11), .lit (.int .u8 54), .lit (.int .u8 26), .lit (.int .u8 40), .lit (.int .u8 15), .lit (.int .u8 34), .lit (.int .u8 20), .lit (.int .u8 31), .lit (.int .u8 10), .lit (.int .u8 25), .lit (.int .u8 14), .lit (.int .u8 19), .lit (.int .u8 9), .lit (.int .u8 13), .lit (.int .u8 8), .lit (.int .u8 7), .lit (.int .u8 6)]

/-- 'bailiwicklaw09.MatchRight': WHATEVER THE INPUT: true; the input reads as it did. -/
def matchRightSpec : ChangeSpec := { name := "matchRight", fn := fun _ => fun
  | [d1, d2, d3, d4] => { results := [.lit (.bool true)], args := [d1, d2, d3, d4] }
  | _ => none }
def matchRightRow : OpenClaim := { program := "ytfcojlagmmgagaadoor", sum := "3004f04213f0aa0df5b5e6fe795a723f30360f998c60b863defd48fcd05d622a", func := "bailiwick/bailiwicklaw09.MatchRight", spec := "matchRight", inPlace := ["internal/bytealg.IndexByteString", "internal/bytealg.IndexString"], unfollowed := true, recurses := true, named := ["math/bits.deBruijn64tab", "internal/bytealg.MaxLen"], apart := false, laid := [("math/bits.deBruijn64tab", laid_math_bits_deBruijn64tab)] }
def MatchRightSaid : Prop := matchRightRow.holds Tryd.pinned (OpenSpec.ofChange matchRightSpec)

/-- ITS FALSE NEIGHBOUR: 'it returns false'. Refute it at one input. -/
def matchRightWrong : ChangeSpec := { name := "matchRight", fn := fun _ => fun
  | [d1, d2, d3, d4] => { results := [.lit (.bool false)], args := [d1, d2, d3, d4] }
  | _ => none }
def MatchRightWrongFalsely : Prop := matchRightRow.holds Tryd.pinned (OpenSpec.ofChange matchRightWrong)

/-- 'bailiwicklaw09.MatchTags': WHATEVER THE INPUT: true; the input reads as it did. -/
def matchTagsSpec : ChangeSpec := { name := "matchTags", fn := fun _ => fun
  | [d1, d2, d3] => { results := [.lit (.bool true)], args := [d1, d2, d3] }
  | _ => none }
def matchTagsRow : OpenClaim := { program := "ytfcojlagmmgagaadoor", sum := "3004f04213f0aa0df5b5e6fe795a723f30360f998c60b863defd48fcd05d622a", func := "bailiwick/bailiwicklaw09.MatchTags", spec := "matchTags", inPlace := ["internal/bytealg.IndexByteString", "internal/bytealg.IndexString"], unfollowed := true, recurses := true, named := ["math/bits.deBruijn64tab", "internal/bytealg.MaxLen"], apart := false, laid := [("math/bits.deBruijn64tab", laid_math_bits_deBruijn64tab)] }
def MatchTagsSaid : Prop := matchTagsRow.holds Tryd.pinned (OpenSpec.ofChange matchTagsSpec)

/-- ITS FALSE NEIGHBOUR: 'it returns false'. Refute it at one input. -/
def matchTagsWrong : ChangeSpec := { name := "matchTags", fn := fun _ => fun
  | [d1, d2, d3] => { results := [.lit (.bool false)], args := [d1, d2, d3] }
  | _ => none }
def MatchTagsWrongFalsely : Prop := matchTagsRow.holds Tryd.pinned (OpenSpec.ofChange matchTagsWrong)

/-- 'bailiwicklaw09.MatchWhole': WHATEVER THE INPUT: true; the input reads as it did. -/
def matchWholeSpec : ChangeSpec := { name := "matchWhole", fn := fun _ => fun
  | [d1, d2, d3] => { results := [.lit (.bool true)], args := [d1, d2, d3] }
  | _ => none }
def matchWholeRow : OpenClaim := { program := "ytfcojlagmmgagaadoor", sum := "3004f04213f0aa0df5b5e6fe795a723f30360f998c60b863defd48fcd05d622a", func := "bailiwick/bailiwicklaw09.MatchWhole", spec := "matchWhole", inPlace := ["internal/bytealg.IndexByteString", "internal/bytealg.IndexString"], unfollowed := true, recurses := true, named := ["math/bits.deBruijn64tab", "internal/bytealg.MaxLen"], apart := false, laid := [("math/bits.deBruijn64tab", laid_math_bits_deBruijn64tab)] }
def MatchWholeSaid : Prop := matchWholeRow.holds Tryd.pinned (OpenSpec.ofChange matchWholeSpec)

/-- ITS FALSE NEIGHBOUR: 'it returns false'. Refute it at one input. -/
def matchWholeWrong : ChangeSpec := { name := "matchWhole", fn := fun _ => fun
  | [d1, d2, d3] => { results := [.lit (.bool false)], args := [d1, d2, d3] }
  | _ => none }
def MatchWholeWrongFalsely : Prop := matchWholeRow.holds Tryd.pinned (OpenSpec.ofChange matchWholeWrong)

/-- 'bailiwicklaw09.MatchMore': WHATEVER THE INPUT: true; the input reads as it did. -/
def matchMoreSpec : ChangeSpec := { name := "matchMore", fn := fun _ => fun
  | [d1, d2, d3, d4, d5] => { results := [.lit (.bool true)], args := [d1, d2, d3, d4, d5] }
  | _ => none }
def matchMoreRow : OpenClaim := { program := "ytfcojlagmmgagaadoor", sum := "3004f04213f0aa0df5b5e6fe795a723f30360f998c60b863defd48fcd05d622a", func := "bailiwick/bailiwicklaw09.MatchMore", spec := "matchMore", inPlace := ["internal/bytealg.IndexByteString", "internal/bytealg.IndexString"], unfollowed := true, recurses := true, named := ["math/bits.deBruijn64tab", "internal/bytealg.MaxLen"], apart := false, laid := [("math/bits.deBruijn64tab", laid_math_bits_deBruijn64tab)] }
def MatchMoreSaid : Prop := matchMoreRow.holds Tryd.pinned (OpenSpec.ofChange matchMoreSpec)

/-- ITS FALSE NEIGHBOUR: 'it returns false'. Refute it at one input. -/
def matchMoreWrong : ChangeSpec := { name := "matchMore", fn := fun _ => fun
  | [d1, d2, d3, d4, d5] => { results := [.lit (.bool false)], args := [d1, d2, d3, d4, d5] }
  | _ => none }
def MatchMoreWrongFalsely : Prop := matchMoreRow.holds Tryd.pinned (OpenSpec.ofChange matchMoreWrong)

/-- 'bailiwicklaw09.MatchFits': WHATEVER THE INPUT: true; the input reads as it did. -/
def matchFitsSpec : ChangeSpec := { name := "matchFits", fn := fun _ => fun
  | [d1, d2, d3] => { results := [.lit (.bool true)], args := [d1, d2, d3] }
  | _ => none }
def matchFitsRow : OpenClaim := { program := "ytfcojlagmmgagaadoor", sum := "3004f04213f0aa0df5b5e6fe795a723f30360f998c60b863defd48fcd05d622a", func := "bailiwick/bailiwicklaw09.MatchFits", spec := "matchFits", inPlace := ["internal/bytealg.IndexByteString", "internal/bytealg.IndexString"], unfollowed := true, recurses := true, named := ["math/bits.deBruijn64tab", "internal/bytealg.MaxLen"], apart := false, laid := [("math/bits.deBruijn64tab", laid_math_bits_deBruijn64tab)] }
def MatchFitsSaid : Prop := matchFitsRow.holds Tryd.pinned (OpenSpec.ofChange matchFitsSpec)

/-- ITS FALSE NEIGHBOUR: 'it returns false'. Refute it at one input. -/
def matchFitsWrong : ChangeSpec := { name := "matchFits", fn := fun _ => fun
  | [d1, d2, d3] => { results := [.lit (.bool false)], args := [d1, d2, d3] }
  | _ => none }
def MatchFitsWrongFalsely : Prop := matchFitsRow.holds Tryd.pinned (OpenSpec.ofChange matchFitsWrong)

/-- 'bailiwicklaw10.HeldApart': WHATEVER THE INPUT: true; the input reads as it did. -/
def heldApartSpec : ChangeSpec := { name := "heldApart", fn := fun _ => fun
  | [d1, d2, d3] => { results := [.lit (.bool true)], args := [d1, d2, d3] }
  | _ => none }
def heldApartRow : OpenClaim := { program := "ytfcojlagmmgagaadoor", sum := "3004f04213f0aa0df5b5e6fe795a723f30360f998c60b863defd48fcd05d622a", func := "bailiwick/bailiwicklaw10.HeldApart", spec := "heldApart", inPlace := ["slices.overlaps[bailiwick/api.Held]"], unfollowed := true, recurses := true, named := ["math/bits.deBruijn64tab"], apart := false, laid := [("math/bits.deBruijn64tab", laid_math_bits_deBruijn64tab)] }
def HeldApartSaid : Prop := heldApartRow.holds Tryd.pinned (OpenSpec.ofChange heldApartSpec)

/-- ITS FALSE NEIGHBOUR: 'it returns false'. Refute it at one input. -/
def heldApartWrong : ChangeSpec := { name := "heldApart", fn := fun _ => fun
  | [d1, d2, d3] => { results := [.lit (.bool false)], args := [d1, d2, d3] }
  | _ => none }
def HeldApartWrongFalsely : Prop := heldApartRow.holds Tryd.pinned (OpenSpec.ofChange heldApartWrong)

/-- 'bailiwicklaw10.HeldGets': WHATEVER THE INPUT: true; the input reads as it did. -/
def heldGetsSpec : ChangeSpec := { name := "heldGets", fn := fun _ => fun
  | [d1, d2, d3] => { results := [.lit (.bool true)], args := [d1, d2, d3] }
  | _ => none }
def heldGetsRow : OpenClaim := { program := "ytfcojlagmmgagaadoor", sum := "3004f04213f0aa0df5b5e6fe795a723f30360f998c60b863defd48fcd05d622a", func := "bailiwick/bailiwicklaw10.HeldGets", spec := "heldGets", inPlace := ["slices.overlaps[bailiwick/api.Held]"], unfollowed := true, recurses := true, named := ["math/bits.deBruijn64tab"], apart := false, laid := [("math/bits.deBruijn64tab", laid_math_bits_deBruijn64tab)] }
def HeldGetsSaid : Prop := heldGetsRow.holds Tryd.pinned (OpenSpec.ofChange heldGetsSpec)

/-- ITS FALSE NEIGHBOUR: 'it returns false'. Refute it at one input. -/
def heldGetsWrong : ChangeSpec := { name := "heldGets", fn := fun _ => fun
  | [d1, d2, d3] => { results := [.lit (.bool false)], args := [d1, d2, d3] }
  | _ => none }
def HeldGetsWrongFalsely : Prop := heldGetsRow.holds Tryd.pinned (OpenSpec.ofChange heldGetsWrong)

/-- 'bailiwicklaw10.HeldSpans': WHATEVER THE INPUT: true; the input reads as it did. -/
def heldSpansSpec : ChangeSpec := { name := "heldSpans", fn := fun _ => fun
  | [d1, d2, d3] => { results := [.lit (.bool true)], args := [d1, d2, d3] }
  | _ => none }
def heldSpansRow : OpenClaim := { program := "ytfcojlagmmgagaadoor", sum := "3004f04213f0aa0df5b5e6fe795a723f30360f998c60b863defd48fcd05d622a", func := "bailiwick/bailiwicklaw10.HeldSpans", spec := "heldSpans", inPlace := ["slices.overlaps[bailiwick/api.Held]"], unfollowed := true, recurses := true, named := ["math/bits.deBruijn64tab"], apart := false, laid := [("math/bits.deBruijn64tab", laid_math_bits_deBruijn64tab)] }
def HeldSpansSaid : Prop := heldSpansRow.holds Tryd.pinned (OpenSpec.ofChange heldSpansSpec)

/-- ITS FALSE NEIGHBOUR: 'it returns false'. Refute it at one input. -/
def heldSpansWrong : ChangeSpec := { name := "heldSpans", fn := fun _ => fun
  | [d1, d2, d3] => { results := [.lit (.bool false)], args := [d1, d2, d3] }
  | _ => none }
def HeldSpansWrongFalsely : Prop := heldSpansRow.holds Tryd.pinned (OpenSpec.ofChange heldSpansWrong)

/-- 'bailiwicklaw10.HeldLater': WHATEVER THE INPUT: true; the input reads as it did. -/
def heldLaterSpec : ChangeSpec := { name := "heldLater", fn := fun _ => fun
  | [d1, d2, d3, d4] => { results := [.lit (.bool true)], args := [d1, d2, d3, d4] }
  | _ => none }
def heldLaterRow : OpenClaim := { program := "ytfcojlagmmgagaadoor", sum := "3004f04213f0aa0df5b5e6fe795a723f30360f998c60b863defd48fcd05d622a", func := "bailiwick/bailiwicklaw10.HeldLater", spec := "heldLater", inPlace := ["slices.overlaps[bailiwick/api.Held]"], unfollowed := true, recurses := true, named := ["math/bits.deBruijn64tab"], apart := false, laid := [("math/bits.deBruijn64tab", laid_math_bits_deBruijn64tab)] }
def HeldLaterSaid : Prop := heldLaterRow.holds Tryd.pinned (OpenSpec.ofChange heldLaterSpec)

/-- ITS FALSE NEIGHBOUR: 'it returns false'. Refute it at one input. -/
def heldLaterWrong : ChangeSpec := { name := "heldLater", fn := fun _ => fun
  | [d1, d2, d3, d4] => { results := [.lit (.bool false)], args := [d1, d2, d3, d4] }
  | _ => none }
def HeldLaterWrongFalsely : Prop := heldLaterRow.holds Tryd.pinned (OpenSpec.ofChange heldLaterWrong)

/-- 'bailiwicklaw10.HeldRight': WHATEVER THE INPUT: true; the input reads as it did. -/
def heldRightSpec : ChangeSpec := { name := "heldRight", fn := fun _ => fun
  | [d1, d2, d3, d4] => { results := [.lit (.bool true)], args := [d1, d2, d3, d4] }
  | _ => none }
def heldRightRow : OpenClaim := { program := "ytfcojlagmmgagaadoor", sum := "3004f04213f0aa0df5b5e6fe795a723f30360f998c60b863defd48fcd05d622a", func := "bailiwick/bailiwicklaw10.HeldRight", spec := "heldRight", inPlace := ["slices.overlaps[bailiwick/api.Held]"], unfollowed := true, recurses := true, named := ["math/bits.deBruijn64tab"], apart := false, laid := [("math/bits.deBruijn64tab", laid_math_bits_deBruijn64tab)] }
def HeldRightSaid : Prop := heldRightRow.holds Tryd.pinned (OpenSpec.ofChange heldRightSpec)

/-- ITS FALSE NEIGHBOUR: 'it returns false'. Refute it at one input. -/
def heldRightWrong : ChangeSpec := { name := "heldRight", fn := fun _ => fun
  | [d1, d2, d3, d4] => { results := [.lit (.bool false)], args := [d1, d2, d3, d4] }
  | _ => none }
def HeldRightWrongFalsely : Prop := heldRightRow.holds Tryd.pinned (OpenSpec.ofChange heldRightWrong)

/-- 'bailiwicklaw10.HeldBack': WHATEVER THE INPUT: true; the input reads as it did. -/
def heldBackSpec : ChangeSpec := { name := "heldBack", fn := fun _ => fun
  | [d1, d2, d3] => { results := [.lit (.bool true)], args := [d1, d2, d3] }
  | _ => none }
def heldBackRow : OpenClaim := { program := "ytfcojlagmmgagaadoor", sum := "3004f04213f0aa0df5b5e6fe795a723f30360f998c60b863defd48fcd05d622a", func := "bailiwick/bailiwicklaw10.HeldBack", spec := "heldBack", inPlace := ["slices.overlaps[bailiwick/api.Held]"], unfollowed := true, recurses := true, named := ["math/bits.deBruijn64tab"], apart := false, laid := [("math/bits.deBruijn64tab", laid_math_bits_deBruijn64tab)] }
def HeldBackSaid : Prop := heldBackRow.holds Tryd.pinned (OpenSpec.ofChange heldBackSpec)

/-- ITS FALSE NEIGHBOUR: 'it returns false'. Refute it at one input. -/
def heldBackWrong : ChangeSpec := { name := "heldBack", fn := fun _ => fun
  | [d1, d2, d3] => { results := [.lit (.bool false)], args := [d1, d2, d3] }
  | _ => none }
def HeldBackWrongFalsely : Prop := heldBackRow.holds Tryd.pinned (OpenSpec.ofChange heldBackWrong)

/- THE SECOND FORM. 'bulk': how many values and letters a reading holds, each counted each time it is reached (what is shared counts as often as it is met; a slice's spare places count too). A statement '..UptoSaid' is the law's where the arguments, and the package variables that the reading takes, are together of bulk at most 1048576: NARROWER than '..Said'. Prove '..Said' where nothing that the law and all that it calls make is longer than what came in: it says more and counts as full. Else prove '..UptoSaid'. A law counts once. -/
mutual
def uptoBulk {H : Type} : DataW H → Nat
  | .lit (.string bytes) => bytes.length + 1
  | .lit _ => 1
  | .nil => 1
  | .ptr d => uptoBulk d + 1
  | .slice elems spare => uptoBulkAll elems + uptoBulkAll spare + 1
  | .agg parts => uptoBulkAll parts + 1
  | .iface _ d => uptoBulk d + 1
  | .map entries => uptoBulkEntries entries + 1
  | .held _ => 1
def uptoBulkAll {H : Type} : List (DataW H) → Nat
  | [] => 0
  | d :: r => uptoBulk d + uptoBulkAll r
def uptoBulkEntries {H : Type} : List (Lit × DataW H) → Nat
  | [] => 0
  | x :: r => uptoBulkEntry x + uptoBulkEntries r
def uptoBulkEntry {H : Type} : Lit × DataW H → Nat
  | (.string bytes, d) => bytes.length + uptoBulk d + 1
  | (_, d) => uptoBulk d + 1
 end
def uptoSmall : (H : Type) → List (DataW H) → Bool := fun _ ds => decide (uptoBulkAll ds ≤ 1048576)
def OpenSpec.upto (s : _root_.Go.ChangeSpec) : _root_.Go.OpenSpec := { _root_.Go.OpenSpec.ofChange s with cond := some uptoSmall }

/-- 'bailiwicklaw09.MatchRight', WHERE WHAT IT READS IS OF BULK AT MOST 1048576: true; the input reads as it did. -/
def matchRightUptoRow : OpenClaim := { program := "ytfcojlagmmgagaadoor", sum := "3004f04213f0aa0df5b5e6fe795a723f30360f998c60b863defd48fcd05d622a", func := "bailiwick/bailiwicklaw09.MatchRight", spec := "matchRight", inPlace := ["internal/bytealg.IndexByteString", "internal/bytealg.IndexString"], unfollowed := true, recurses := true, named := ["math/bits.deBruijn64tab", "internal/bytealg.MaxLen"], apart := false, laid := [("math/bits.deBruijn64tab", laid_math_bits_deBruijn64tab)], narrowed := true }
def MatchRightUptoSaid : Prop := matchRightUptoRow.holds Tryd.pinned (OpenSpec.upto matchRightSpec)

/-- 'bailiwicklaw09.MatchTags', WHERE WHAT IT READS IS OF BULK AT MOST 1048576: true; the input reads as it did. -/
def matchTagsUptoRow : OpenClaim := { program := "ytfcojlagmmgagaadoor", sum := "3004f04213f0aa0df5b5e6fe795a723f30360f998c60b863defd48fcd05d622a", func := "bailiwick/bailiwicklaw09.MatchTags", spec := "matchTags", inPlace := ["internal/bytealg.IndexByteString", "internal/bytealg.IndexString"], unfollowed := true, recurses := true, named := ["math/bits.deBruijn64tab", "internal/bytealg.MaxLen"], apart := false, laid := [("math/bits.deBruijn64tab", laid_math_bits_deBruijn64tab)], narrowed := true }
def MatchTagsUptoSaid : Prop := matchTagsUptoRow.holds Tryd.pinned (OpenSpec.upto matchTagsSpec)

/-- 'bailiwicklaw09.MatchWhole', WHERE WHAT IT READS IS OF BULK AT MOST 1048576: true; the input reads as it did. -/
def matchWholeUptoRow : OpenClaim := { program := "ytfcojlagmmgagaadoor", sum := "3004f04213f0aa0df5b5e6fe795a723f30360f998c60b863defd48fcd05d622a", func := "bailiwick/bailiwicklaw09.MatchWhole", spec := "matchWhole", inPlace := ["internal/bytealg.IndexByteString", "internal/bytealg.IndexString"], unfollowed := true, recurses := true, named := ["math/bits.deBruijn64tab", "internal/bytealg.MaxLen"], apart := false, laid := [("math/bits.deBruijn64tab", laid_math_bits_deBruijn64tab)], narrowed := true }
def MatchWholeUptoSaid : Prop := matchWholeUptoRow.holds Tryd.pinned (OpenSpec.upto matchWholeSpec)

/-- 'bailiwicklaw09.MatchMore', WHERE WHAT IT READS IS OF BULK AT MOST 1048576: true; the input reads as it did. -/
def matchMoreUptoRow : OpenClaim := { program := "ytfcojlagmmgagaadoor", sum := "3004f04213f0aa0df5b5e6fe795a723f30360f998c60b863defd48fcd05d622a", func := "bailiwick/bailiwicklaw09.MatchMore", spec := "matchMore", inPlace := ["internal/bytealg.IndexByteString", "internal/bytealg.IndexString"], unfollowed := true, recurses := true, named := ["math/bits.deBruijn64tab", "internal/bytealg.MaxLen"], apart := false, laid := [("math/bits.deBruijn64tab", laid_math_bits_deBruijn64tab)], narrowed := true }
def MatchMoreUptoSaid : Prop := matchMoreUptoRow.holds Tryd.pinned (OpenSpec.upto matchMoreSpec)

/-- 'bailiwicklaw09.MatchFits', WHERE WHAT IT READS IS OF BULK AT MOST 1048576: true; the input reads as it did. -/
def matchFitsUptoRow : OpenClaim := { program := "ytfcojlagmmgagaadoor", sum := "3004f04213f0aa0df5b5e6fe795a723f30360f998c60b863defd48fcd05d622a", func := "bailiwick/bailiwicklaw09.MatchFits", spec := "matchFits", inPlace := ["internal/bytealg.IndexByteString", "internal/bytealg.IndexString"], unfollowed := true, recurses := true, named := ["math/bits.deBruijn64tab", "internal/bytealg.MaxLen"], apart := false, laid := [("math/bits.deBruijn64tab", laid_math_bits_deBruijn64tab)], narrowed := true }
def MatchFitsUptoSaid : Prop := matchFitsUptoRow.holds Tryd.pinned (OpenSpec.upto matchFitsSpec)

/-- 'bailiwicklaw10.HeldApart', WHERE WHAT IT READS IS OF BULK AT MOST 1048576: true; the input reads as it did. -/
def heldApartUptoRow : OpenClaim := { program := "ytfcojlagmmgagaadoor", sum := "3004f04213f0aa0df5b5e6fe795a723f30360f998c60b863defd48fcd05d622a", func := "bailiwick/bailiwicklaw10.HeldApart", spec := "heldApart", inPlace := ["slices.overlaps[bailiwick/api.Held]"], unfollowed := true, recurses := true, named := ["math/bits.deBruijn64tab"], apart := false, laid := [("math/bits.deBruijn64tab", laid_math_bits_deBruijn64tab)], narrowed := true }
def HeldApartUptoSaid : Prop := heldApartUptoRow.holds Tryd.pinned (OpenSpec.upto heldApartSpec)

/-- 'bailiwicklaw10.HeldGets', WHERE WHAT IT READS IS OF BULK AT MOST 1048576: true; the input reads as it did. -/
def heldGetsUptoRow : OpenClaim := { program := "ytfcojlagmmgagaadoor", sum := "3004f04213f0aa0df5b5e6fe795a723f30360f998c60b863defd48fcd05d622a", func := "bailiwick/bailiwicklaw10.HeldGets", spec := "heldGets", inPlace := ["slices.overlaps[bailiwick/api.Held]"], unfollowed := true, recurses := true, named := ["math/bits.deBruijn64tab"], apart := false, laid := [("math/bits.deBruijn64tab", laid_math_bits_deBruijn64tab)], narrowed := true }
def HeldGetsUptoSaid : Prop := heldGetsUptoRow.holds Tryd.pinned (OpenSpec.upto heldGetsSpec)

/-- 'bailiwicklaw10.HeldSpans', WHERE WHAT IT READS IS OF BULK AT MOST 1048576: true; the input reads as it did. -/
def heldSpansUptoRow : OpenClaim := { program := "ytfcojlagmmgagaadoor", sum := "3004f04213f0aa0df5b5e6fe795a723f30360f998c60b863defd48fcd05d622a", func := "bailiwick/bailiwicklaw10.HeldSpans", spec := "heldSpans", inPlace := ["slices.overlaps[bailiwick/api.Held]"], unfollowed := true, recurses := true, named := ["math/bits.deBruijn64tab"], apart := false, laid := [("math/bits.deBruijn64tab", laid_math_bits_deBruijn64tab)], narrowed := true }
def HeldSpansUptoSaid : Prop := heldSpansUptoRow.holds Tryd.pinned (OpenSpec.upto heldSpansSpec)

/-- 'bailiwicklaw10.HeldLater', WHERE WHAT IT READS IS OF BULK AT MOST 1048576: true; the input reads as it did. -/
def heldLaterUptoRow : OpenClaim := { program := "ytfcojlagmmgagaadoor", sum := "3004f04213f0aa0df5b5e6fe795a723f30360f998c60b863defd48fcd05d622a", func := "bailiwick/bailiwicklaw10.HeldLater", spec := "heldLater", inPlace := ["slices.overlaps[bailiwick/api.Held]"], unfollowed := true, recurses := true, named := ["math/bits.deBruijn64tab"], apart := false, laid := [("math/bits.deBruijn64tab", laid_math_bits_deBruijn64tab)], narrowed := true }
def HeldLaterUptoSaid : Prop := heldLaterUptoRow.holds Tryd.pinned (OpenSpec.upto heldLaterSpec)

/-- 'bailiwicklaw10.HeldRight', WHERE WHAT IT READS IS OF BULK AT MOST 1048576: true; the input reads as it did. -/
def heldRightUptoRow : OpenClaim := { program := "ytfcojlagmmgagaadoor", sum := "3004f04213f0aa0df5b5e6fe795a723f30360f998c60b863defd48fcd05d622a", func := "bailiwick/bailiwicklaw10.HeldRight", spec := "heldRight", inPlace := ["slices.overlaps[bailiwick/api.Held]"], unfollowed := true, recurses := true, named := ["math/bits.deBruijn64tab"], apart := false, laid := [("math/bits.deBruijn64tab", laid_math_bits_deBruijn64tab)], narrowed := true }
def HeldRightUptoSaid : Prop := heldRightUptoRow.holds Tryd.pinned (OpenSpec.upto heldRightSpec)

/-- 'bailiwicklaw10.HeldBack', WHERE WHAT IT READS IS OF BULK AT MOST 1048576: true; the input reads as it did. -/
def heldBackUptoRow : OpenClaim := { program := "ytfcojlagmmgagaadoor", sum := "3004f04213f0aa0df5b5e6fe795a723f30360f998c60b863defd48fcd05d622a", func := "bailiwick/bailiwicklaw10.HeldBack", spec := "heldBack", inPlace := ["slices.overlaps[bailiwick/api.Held]"], unfollowed := true, recurses := true, named := ["math/bits.deBruijn64tab"], apart := false, laid := [("math/bits.deBruijn64tab", laid_math_bits_deBruijn64tab)], narrowed := true }
def HeldBackUptoSaid : Prop := heldBackUptoRow.holds Tryd.pinned (OpenSpec.upto heldBackSpec)

end Rows
end Go.Proofs.YtfcojlagmmgagaaDoor
