/-
  NARROWER THAN 'FOR EVERY INPUT', by the rows' own cells (each row's printed sentence says how): SlotMore: laid · SlotEmpty: laid · SlotRight: laid · PickOrder: laid · PickFirst: laid · SlotKeeps: laid · SlotFirst: laid · PickAlone: laid · PickBegins: laid · PickKeeps: laid.
  DERIVED. THE GIVEN ROWS OF THIS SEAT. 10 by the template 'for every input the law returns true; each argument reads behind the call as it read before'; 0 by the template 'total and deterministic' (their statements: YtinhfnbmgmociaaDoorTotals.lean).
  GIVEN WITH THE SEED: the statements are not yours to turn. If you find one false, say at which input.
  Laid BY PROGRAM, IN A SANDBOX (cutbox-rows.mjs): the forced cells as the released guide's own fill.sh prints them over the translation 08469e757ea0585b… (all of the seat's roots in one cut). By AI agents, Wed Nov 11 2026. No macro, syntax, notation, axiom, sorry.
-/
import Derived.Test.YtinhfnbmgmociaaDoorChecked
import GoSem.Claim
import GoSem.ClaimJoined
import GoSem.ClaimMapViews
import Derived.JoinedTies
import Derived.KernelRfl
namespace Go.Proofs.YtinhfnbmgmociaaDoor
/- THE CELL 'sum', in the pinned program and in every row, IS THE sha256 OF THE DUMP (.gsa) THAT YtinhfnbmgmociaaDoorProg.lean LOADS. Nothing in Lean hashes anything: it is a label: what it is worth is what the hold of that sum in a sandbox is worth. -/
noncomputable def Tryd.pinned : Pinned := { name := "ytinhfnbmgmociaadoor", sum := "08469e757ea0585b1201106db69cfd961124f831d61742fff2ea5fcf432f67b3", checked := Tryd.checked }
namespace Rows
def none {H : Type} : Left H := { results := [], args := [] }

/- WHAT THE LISTED PACKAGE-LEVEL VARIABLES READ AS WHEN THE CALL BEGINS. Each datum BY PROGRAM (the guide's laid-datum.mjs) off the statement by which the dump's own 'gosem.cut.vars' lays the variable. In a bare row this is a premise. The card (YtinhfnbmgmociaaDoorCards.lean) ties it to the program's text. -/
def laid_math_bits_deBruijn64tab {H : Type} : DataW H := .agg [.lit (.int .u8 0), .lit (.int .u8 1), .lit (.int .u8 56), .lit (.int .u8 2), .lit (.int .u8 57), .lit (.int .u8 49), .lit (.int .u8 28), .lit (.int .u8 3), .lit (.int .u8 61), .lit (.int .u8 58), .lit (.int .u8 42), .lit (.int .u8 50), .lit (.int .u8 38), .lit (.int .u8 29), .lit (.int .u8 17), .lit (.int .u8 4), .lit (.int .u8 62), .lit (.int .u8 47), .lit (.int .u8 59), .lit (.int .u8 36), .lit (.int .u8 45), .lit (.int .u8 43), .lit (.int .u8 51), .lit (.int .u8 22), .lit (.int .u8 53), .lit (.int .u8 39), .lit (.int .u8 33), .lit (.int .u8 30), .lit (.int .u8 24), .lit (.int .u8 18), .lit (.int .u8 12), .lit (.int .u8 5), .lit (.int .u8 63), .lit (.int .u8 55), .lit (.int .u8 48), .lit (.int .u8 27), .lit (.int .u8 60), .lit (.int .u8 41), .lit (.int .u8 37), .lit (.int .u8 16), .lit (.int .u8 46), .lit (.int .u8 35), .lit (.int .u8 44), .lit (.int .u8 21), .lit (.int .u8 52), .lit (.int .u8 32), .lit (.int .u8 23), .lit (.int .u8 11), .lit (.int .u8 54), .lit (.int .u8 26), .lit (.int .u8 40), .lit (.int .u8 15), .lit (.int .u8 34), .lit (.int .u8 20), .lit (.int .u8 31), .lit (.int .u8 10), .lit (.int .u8 25), .lit (.int .u8 14), .lit (.int .u8 19), .lit (.int .u8 9), .lit (.int .u8 13), .lit (.int .u8 8), .lit (.int .u8 7), .lit (.int .u8 6)]

/-- 'bailiwicklaw13.SlotMore': WHATEVER THE INPUT: true; the input reads as it did. -/
def slotMoreSpec : ChangeSpec := { name := "slotMore", fn := fun _ => fun
  | [d1, d2, d3, d4, d5, d6, d7, d8] => { results := [.lit (.bool true)], args := [d1, d2, d3, d4, d5, d6, d7, d8] }
  | _ => none }
def slotMoreRow : OpenClaim := { program := "ytinhfnbmgmociaadoor", sum := "08469e757ea0585b1201106db69cfd961124f831d61742fff2ea5fcf432f67b3", func := "bailiwick/bailiwicklaw13.SlotMore", spec := "slotMore", inPlace := ["internal/bytealg.IndexByteString", "internal/bytealg.IndexString"], unfollowed := true, recurses := true, named := ["math/bits.deBruijn64tab", "internal/bytealg.MaxLen"], apart := false, laid := [("math/bits.deBruijn64tab", laid_math_bits_deBruijn64tab)] }
def SlotMoreSaid : Prop := slotMoreRow.holds Tryd.pinned (OpenSpec.ofChange slotMoreSpec)

/-- ITS FALSE NEIGHBOUR: 'it returns false'. Refute it at one input. -/
def slotMoreWrong : ChangeSpec := { name := "slotMore", fn := fun _ => fun
  | [d1, d2, d3, d4, d5, d6, d7, d8] => { results := [.lit (.bool false)], args := [d1, d2, d3, d4, d5, d6, d7, d8] }
  | _ => none }
def SlotMoreWrongFalsely : Prop := slotMoreRow.holds Tryd.pinned (OpenSpec.ofChange slotMoreWrong)

/-- 'bailiwicklaw13.SlotEmpty': WHATEVER THE INPUT: true; the input reads as it did. -/
def slotEmptySpec : ChangeSpec := { name := "slotEmpty", fn := fun _ => fun
  | [d1, d2, d3, d4, d5, d6] => { results := [.lit (.bool true)], args := [d1, d2, d3, d4, d5, d6] }
  | _ => none }
def slotEmptyRow : OpenClaim := { program := "ytinhfnbmgmociaadoor", sum := "08469e757ea0585b1201106db69cfd961124f831d61742fff2ea5fcf432f67b3", func := "bailiwick/bailiwicklaw13.SlotEmpty", spec := "slotEmpty", inPlace := ["internal/bytealg.IndexByteString", "internal/bytealg.IndexString"], unfollowed := true, recurses := true, named := ["math/bits.deBruijn64tab", "internal/bytealg.MaxLen"], apart := false, laid := [("math/bits.deBruijn64tab", laid_math_bits_deBruijn64tab)] }
def SlotEmptySaid : Prop := slotEmptyRow.holds Tryd.pinned (OpenSpec.ofChange slotEmptySpec)

/-- ITS FALSE NEIGHBOUR: 'it returns false'. Refute it at one input. -/
def slotEmptyWrong : ChangeSpec := { name := "slotEmpty", fn := fun _ => fun
  | [d1, d2, d3, d4, d5, d6] => { results := [.lit (.bool false)], args := [d1, d2, d3, d4, d5, d6] }
  | _ => none }
def SlotEmptyWrongFalsely : Prop := slotEmptyRow.holds Tryd.pinned (OpenSpec.ofChange slotEmptyWrong)

/-- 'bailiwicklaw13.SlotRight': WHATEVER THE INPUT: true; the input reads as it did. -/
def slotRightSpec : ChangeSpec := { name := "slotRight", fn := fun _ => fun
  | [d1, d2, d3, d4, d5, d6] => { results := [.lit (.bool true)], args := [d1, d2, d3, d4, d5, d6] }
  | _ => none }
def slotRightRow : OpenClaim := { program := "ytinhfnbmgmociaadoor", sum := "08469e757ea0585b1201106db69cfd961124f831d61742fff2ea5fcf432f67b3", func := "bailiwick/bailiwicklaw13.SlotRight", spec := "slotRight", inPlace := ["internal/bytealg.IndexByteString", "internal/bytealg.IndexString"], unfollowed := true, recurses := true, named := ["math/bits.deBruijn64tab", "internal/bytealg.MaxLen"], apart := false, laid := [("math/bits.deBruijn64tab", laid_math_bits_deBruijn64tab)] }
def SlotRightSaid : Prop := slotRightRow.holds Tryd.pinned (OpenSpec.ofChange slotRightSpec)

/-- ITS FALSE NEIGHBOUR: 'it returns false'. Refute it at one input. -/
def slotRightWrong : ChangeSpec := { name := "slotRight", fn := fun _ => fun
  | [d1, d2, d3, d4, d5, d6] => { results := [.lit (.bool false)], args := [d1, d2, d3, d4, d5, d6] }
  | _ => none }
def SlotRightWrongFalsely : Prop := slotRightRow.holds Tryd.pinned (OpenSpec.ofChange slotRightWrong)

/-- 'bailiwicklaw14.PickOrder': WHATEVER THE INPUT: true; the input reads as it did. -/
def pickOrderSpec : ChangeSpec := { name := "pickOrder", fn := fun _ => fun
  | [d1, d2, d3, d4, d5, d6] => { results := [.lit (.bool true)], args := [d1, d2, d3, d4, d5, d6] }
  | _ => none }
def pickOrderRow : OpenClaim := { program := "ytinhfnbmgmociaadoor", sum := "08469e757ea0585b1201106db69cfd961124f831d61742fff2ea5fcf432f67b3", func := "bailiwick/bailiwicklaw14.PickOrder", spec := "pickOrder", inPlace := ["internal/bytealg.IndexByteString", "internal/bytealg.IndexString", "slices.overlaps[bailiwick/api.Held]"], unfollowed := true, recurses := true, named := ["math/bits.deBruijn64tab", "internal/bytealg.MaxLen"], apart := false, laid := [("math/bits.deBruijn64tab", laid_math_bits_deBruijn64tab)] }
def PickOrderSaid : Prop := pickOrderRow.holds Tryd.pinned (OpenSpec.ofChange pickOrderSpec)

/-- ITS FALSE NEIGHBOUR: 'it returns false'. Refute it at one input. -/
def pickOrderWrong : ChangeSpec := { name := "pickOrder", fn := fun _ => fun
  | [d1, d2, d3, d4, d5, d6] => { results := [.lit (.bool false)], args := [d1, d2, d3, d4, d5, d6] }
  | _ => none }
def PickOrderWrongFalsely : Prop := pickOrderRow.holds Tryd.pinned (OpenSpec.ofChange pickOrderWrong)

/-- 'bailiwicklaw14.PickFirst': WHATEVER THE INPUT: true; the input reads as it did. -/
def pickFirstSpec : ChangeSpec := { name := "pickFirst", fn := fun _ => fun
  | [d1, d2, d3, d4, d5, d6, d7] => { results := [.lit (.bool true)], args := [d1, d2, d3, d4, d5, d6, d7] }
  | _ => none }
def pickFirstRow : OpenClaim := { program := "ytinhfnbmgmociaadoor", sum := "08469e757ea0585b1201106db69cfd961124f831d61742fff2ea5fcf432f67b3", func := "bailiwick/bailiwicklaw14.PickFirst", spec := "pickFirst", inPlace := ["internal/bytealg.IndexByteString", "internal/bytealg.IndexString", "slices.overlaps[bailiwick/api.Held]"], unfollowed := true, recurses := true, named := ["math/bits.deBruijn64tab", "internal/bytealg.MaxLen"], apart := false, laid := [("math/bits.deBruijn64tab", laid_math_bits_deBruijn64tab)] }
def PickFirstSaid : Prop := pickFirstRow.holds Tryd.pinned (OpenSpec.ofChange pickFirstSpec)

/-- ITS FALSE NEIGHBOUR: 'it returns false'. Refute it at one input. -/
def pickFirstWrong : ChangeSpec := { name := "pickFirst", fn := fun _ => fun
  | [d1, d2, d3, d4, d5, d6, d7] => { results := [.lit (.bool false)], args := [d1, d2, d3, d4, d5, d6, d7] }
  | _ => none }
def PickFirstWrongFalsely : Prop := pickFirstRow.holds Tryd.pinned (OpenSpec.ofChange pickFirstWrong)

/-- 'bailiwicklaw13.SlotKeeps': WHATEVER THE INPUT: true; the input reads as it did. -/
def slotKeepsSpec : ChangeSpec := { name := "slotKeeps", fn := fun _ => fun
  | [d1, d2, d3, d4, d5, d6] => { results := [.lit (.bool true)], args := [d1, d2, d3, d4, d5, d6] }
  | _ => none }
def slotKeepsRow : OpenClaim := { program := "ytinhfnbmgmociaadoor", sum := "08469e757ea0585b1201106db69cfd961124f831d61742fff2ea5fcf432f67b3", func := "bailiwick/bailiwicklaw13.SlotKeeps", spec := "slotKeeps", inPlace := ["internal/bytealg.IndexByteString", "internal/bytealg.IndexString", "slices.overlaps[bailiwick/api.Held]"], unfollowed := true, recurses := true, named := ["math/bits.deBruijn64tab", "internal/bytealg.MaxLen"], apart := false, laid := [("math/bits.deBruijn64tab", laid_math_bits_deBruijn64tab)] }
def SlotKeepsSaid : Prop := slotKeepsRow.holds Tryd.pinned (OpenSpec.ofChange slotKeepsSpec)

/-- ITS FALSE NEIGHBOUR: 'it returns false'. Refute it at one input. -/
def slotKeepsWrong : ChangeSpec := { name := "slotKeeps", fn := fun _ => fun
  | [d1, d2, d3, d4, d5, d6] => { results := [.lit (.bool false)], args := [d1, d2, d3, d4, d5, d6] }
  | _ => none }
def SlotKeepsWrongFalsely : Prop := slotKeepsRow.holds Tryd.pinned (OpenSpec.ofChange slotKeepsWrong)

/-- 'bailiwicklaw13.SlotFirst': WHATEVER THE INPUT: true; the input reads as it did. -/
def slotFirstSpec : ChangeSpec := { name := "slotFirst", fn := fun _ => fun
  | [d1, d2, d3, d4, d5, d6] => { results := [.lit (.bool true)], args := [d1, d2, d3, d4, d5, d6] }
  | _ => none }
def slotFirstRow : OpenClaim := { program := "ytinhfnbmgmociaadoor", sum := "08469e757ea0585b1201106db69cfd961124f831d61742fff2ea5fcf432f67b3", func := "bailiwick/bailiwicklaw13.SlotFirst", spec := "slotFirst", inPlace := ["internal/bytealg.IndexByteString", "internal/bytealg.IndexString", "slices.overlaps[bailiwick/api.Held]"], unfollowed := true, recurses := true, named := ["math/bits.deBruijn64tab", "internal/bytealg.MaxLen"], apart := false, laid := [("math/bits.deBruijn64tab", laid_math_bits_deBruijn64tab)] }
def SlotFirstSaid : Prop := slotFirstRow.holds Tryd.pinned (OpenSpec.ofChange slotFirstSpec)

/-- ITS FALSE NEIGHBOUR: 'it returns false'. Refute it at one input. -/
def slotFirstWrong : ChangeSpec := { name := "slotFirst", fn := fun _ => fun
  | [d1, d2, d3, d4, d5, d6] => { results := [.lit (.bool false)], args := [d1, d2, d3, d4, d5, d6] }
  | _ => none }
def SlotFirstWrongFalsely : Prop := slotFirstRow.holds Tryd.pinned (OpenSpec.ofChange slotFirstWrong)

/-- 'bailiwicklaw14.PickAlone': WHATEVER THE INPUT: true; the input reads as it did. -/
def pickAloneSpec : ChangeSpec := { name := "pickAlone", fn := fun _ => fun
  | [d1, d2, d3, d4, d5, d6, d7, d8] => { results := [.lit (.bool true)], args := [d1, d2, d3, d4, d5, d6, d7, d8] }
  | _ => none }
def pickAloneRow : OpenClaim := { program := "ytinhfnbmgmociaadoor", sum := "08469e757ea0585b1201106db69cfd961124f831d61742fff2ea5fcf432f67b3", func := "bailiwick/bailiwicklaw14.PickAlone", spec := "pickAlone", inPlace := ["internal/bytealg.IndexByteString", "internal/bytealg.IndexString", "slices.overlaps[bailiwick/api.Held]"], unfollowed := true, recurses := true, named := ["math/bits.deBruijn64tab", "internal/bytealg.MaxLen"], apart := false, laid := [("math/bits.deBruijn64tab", laid_math_bits_deBruijn64tab)] }
def PickAloneSaid : Prop := pickAloneRow.holds Tryd.pinned (OpenSpec.ofChange pickAloneSpec)

/-- ITS FALSE NEIGHBOUR: 'it returns false'. Refute it at one input. -/
def pickAloneWrong : ChangeSpec := { name := "pickAlone", fn := fun _ => fun
  | [d1, d2, d3, d4, d5, d6, d7, d8] => { results := [.lit (.bool false)], args := [d1, d2, d3, d4, d5, d6, d7, d8] }
  | _ => none }
def PickAloneWrongFalsely : Prop := pickAloneRow.holds Tryd.pinned (OpenSpec.ofChange pickAloneWrong)

/-- 'bailiwicklaw14.PickBegins': WHATEVER THE INPUT: true; the input reads as it did. -/
def pickBeginsSpec : ChangeSpec := { name := "pickBegins", fn := fun _ => fun
  | [d1, d2, d3, d4, d5, d6, d7, d8] => { results := [.lit (.bool true)], args := [d1, d2, d3, d4, d5, d6, d7, d8] }
  | _ => none }
def pickBeginsRow : OpenClaim := { program := "ytinhfnbmgmociaadoor", sum := "08469e757ea0585b1201106db69cfd961124f831d61742fff2ea5fcf432f67b3", func := "bailiwick/bailiwicklaw14.PickBegins", spec := "pickBegins", inPlace := ["internal/bytealg.IndexByteString", "internal/bytealg.IndexString", "slices.overlaps[bailiwick/api.Held]"], unfollowed := true, recurses := true, named := ["math/bits.deBruijn64tab", "internal/bytealg.MaxLen"], apart := false, laid := [("math/bits.deBruijn64tab", laid_math_bits_deBruijn64tab)] }
def PickBeginsSaid : Prop := pickBeginsRow.holds Tryd.pinned (OpenSpec.ofChange pickBeginsSpec)

/-- ITS FALSE NEIGHBOUR: 'it returns false'. Refute it at one input. -/
def pickBeginsWrong : ChangeSpec := { name := "pickBegins", fn := fun _ => fun
  | [d1, d2, d3, d4, d5, d6, d7, d8] => { results := [.lit (.bool false)], args := [d1, d2, d3, d4, d5, d6, d7, d8] }
  | _ => none }
def PickBeginsWrongFalsely : Prop := pickBeginsRow.holds Tryd.pinned (OpenSpec.ofChange pickBeginsWrong)

/-- 'bailiwicklaw14.PickKeeps': WHATEVER THE INPUT: true; the input reads as it did. -/
def pickKeepsSpec : ChangeSpec := { name := "pickKeeps", fn := fun _ => fun
  | [d1, d2, d3, d4, d5, d6, d7] => { results := [.lit (.bool true)], args := [d1, d2, d3, d4, d5, d6, d7] }
  | _ => none }
def pickKeepsRow : OpenClaim := { program := "ytinhfnbmgmociaadoor", sum := "08469e757ea0585b1201106db69cfd961124f831d61742fff2ea5fcf432f67b3", func := "bailiwick/bailiwicklaw14.PickKeeps", spec := "pickKeeps", inPlace := ["internal/bytealg.IndexByteString", "internal/bytealg.IndexString", "slices.overlaps[bailiwick/api.Held]"], unfollowed := true, recurses := true, named := ["math/bits.deBruijn64tab", "internal/bytealg.MaxLen"], apart := false, laid := [("math/bits.deBruijn64tab", laid_math_bits_deBruijn64tab)] }
def PickKeepsSaid : Prop := pickKeepsRow.holds Tryd.pinned (OpenSpec.ofChange pickKeepsSpec)

/-- ITS FALSE NEIGHBOUR: 'it returns false'. Refute it at one input. -/
def pickKeepsWrong : ChangeSpec := { name := "pickKeeps", fn := fun _ => fun
  | [d1, d2, d3, d4, d5, d6, d7] => { results := [.lit (.bool false)], args := [d1, d2, d3, d4, d5, d6, d7] }
  | _ => none }
def PickKeepsWrongFalsely : Prop := pickKeepsRow.holds Tryd.pinned (OpenSpec.ofChange pickKeepsWrong)

/- THE SECOND FORM. 'bulk': how many values and letters a reading holds, each counted each time it is reached (what is shared counts as often as it is met; a slice's spare places count too). A statement '..UptoSaid' is the law's where the arguments, and the package variables that the reading takes, are together of bulk at most 1048576: NARROWER than '..Said'. Prove '..Said' where nothing that the law and all that it calls make is longer than what came in: it says more and counts as full. Else prove '..UptoSaid'. A law counts once. -/
mutual
def uptoBulk {H : Type} : DataW H → Nat
  | .lit (.string bytes) => bytes.length + 1
  | .lit _ => 1
  | .nil => 1
  | .ptr d => uptoBulk d + 1
  | .slice elems spare => uptoBulkAll elems + uptoBulkAll spare + 1
  | .agg parts => uptoBulkAll parts + 1
  | .iface _ d => uptoBulk d + 1
  | .map entries => uptoBulkEntries entries + 1
  | .held _ => 1
def uptoBulkAll {H : Type} : List (DataW H) → Nat
  | [] => 0
  | d :: r => uptoBulk d + uptoBulkAll r
def uptoBulkEntries {H : Type} : List (Lit × DataW H) → Nat
  | [] => 0
  | x :: r => uptoBulkEntry x + uptoBulkEntries r
def uptoBulkEntry {H : Type} : Lit × DataW H → Nat
  | (.string bytes, d) => bytes.length + uptoBulk d + 1
  | (_, d) => uptoBulk d + 1
 end
def uptoSmall : (H : Type) → List (DataW H) → Bool := fun _ ds => decide (uptoBulkAll ds ≤ 1048576)
def OpenSpec.upto (s : _root_.Go.ChangeSpec) : _root_.Go.OpenSpec := { _root_.Go.OpenSpec.ofChange s with cond := some uptoSmall }

/-- 'bailiwicklaw13.SlotMore', WHERE WHAT IT READS IS OF BULK AT MOST 1048576: true; the input reads as it did. -/
def slotMoreUptoRow : OpenClaim := { program := "ytinhfnbmgmociaadoor", sum := "08469e757ea0585b1201106db69cfd961124f831d61742fff2ea5fcf432f67b3", func := "bailiwick/bailiwicklaw13.SlotMore", spec := "slotMore", inPlace := ["internal/bytealg.IndexByteString", "internal/bytealg.IndexString"], unfollowed := true, recurses := true, named := ["math/bits.deBruijn64tab", "internal/bytealg.MaxLen"], apart := false, laid := [("math/bits.deBruijn64tab", laid_math_bits_deBruijn64tab)], narrowed := true }
def SlotMoreUptoSaid : Prop := slotMoreUptoRow.holds Tryd.pinned (OpenSpec.upto slotMoreSpec)

/-- 'bailiwicklaw13.SlotEmpty', WHERE WHAT IT READS IS OF BULK AT MOST 1048576: true; the input reads as it did. -/
def slotEmptyUptoRow : OpenClaim := { program := "ytinhfnbmgmociaadoor", sum := "08469e757ea0585b1201106db69cfd961124f831d61742fff2ea5fcf432f67b3", func := "bailiwick/bailiwicklaw13.SlotEmpty", spec := "slotEmpty", inPlace := ["internal/bytealg.IndexByteString", "internal/bytealg.IndexString"], unfollowed := true, recurses := true, named := ["math/bits.deBruijn64tab", "internal/bytealg.MaxLen"], apart := false, laid := [("math/bits.deBruijn64tab", laid_math_bits_deBruijn64tab)], narrowed := true }
def SlotEmptyUptoSaid : Prop := slotEmptyUptoRow.holds Tryd.pinned (OpenSpec.upto slotEmptySpec)

/-- 'bailiwicklaw13.SlotRight', WHERE WHAT IT READS IS OF BULK AT MOST 1048576: true; the input reads as it did. -/
def slotRightUptoRow : OpenClaim := { program := "ytinhfnbmgmociaadoor", sum := "08469e757ea0585b1201106db69cfd961124f831d61742fff2ea5fcf432f67b3", func := "bailiwick/bailiwicklaw13.SlotRight", spec := "slotRight", inPlace := ["internal/bytealg.IndexByteString", "internal/bytealg.IndexString"], unfollowed := true, recurses := true, named := ["math/bits.deBruijn64tab", "internal/bytealg.MaxLen"], apart := false, laid := [("math/bits.deBruijn64tab", laid_math_bits_deBruijn64tab)], narrowed := true }
def SlotRightUptoSaid : Prop := slotRightUptoRow.holds Tryd.pinned (OpenSpec.upto slotRightSpec)

/-- 'bailiwicklaw14.PickOrder', WHERE WHAT IT READS IS OF BULK AT MOST 1048576: true; the input reads as it did. -/
def pickOrderUptoRow : OpenClaim := { program := "ytinhfnbmgmociaadoor", sum := "08469e757ea0585b1201106db69cfd961124f831d61742fff2ea5fcf432f67b3", func := "bailiwick/bailiwicklaw14.PickOrder", spec := "pickOrder", inPlace := ["internal/bytealg.IndexByteString", "internal/bytealg.IndexString", "slices.overlaps[bailiwick/api.Held]"], unfollowed := true, recurses := true, named := ["math/bits.deBruijn64tab", "internal/bytealg.MaxLen"], apart := false, laid := [("math/bits.deBruijn64tab", laid_math_bits_deBruijn64tab)], narrowed := true }
def PickOrderUptoSaid : Prop := pickOrderUptoRow.holds Tryd.pinned (OpenSpec.upto pickOrderSpec)

/-- 'bailiwicklaw14.PickFirst', WHERE WHAT IT READS IS OF BULK AT MOST 1048576: true; the input reads as it did. -/
def pickFirstUptoRow : OpenClaim := { program := "ytinhfnbmgmociaadoor", sum := "08469e757ea0585b1201106db69cfd961124f831d61742fff2ea5fcf432f67b3", func := "bailiwick/bailiwicklaw14.PickFirst", spec := "pickFirst", inPlace := ["internal/bytealg.IndexByteString", "internal/bytealg.IndexString", "slices.overlaps[bailiwick/api.Held]"], unfollowed := true, recurses := true, named := ["math/bits.deBruijn64tab", "internal/bytealg.MaxLen"], apart := false, laid := [("math/bits.deBruijn64tab", laid_math_bits_deBruijn64tab)], narrowed := true }
def PickFirstUptoSaid : Prop := pickFirstUptoRow.holds Tryd.pinned (OpenSpec.upto pickFirstSpec)

/-- 'bailiwicklaw13.SlotKeeps', WHERE WHAT IT READS IS OF BULK AT MOST 1048576: true; the input reads as it did. -/
def slotKeepsUptoRow : OpenClaim := { program := "ytinhfnbmgmociaadoor", sum := "08469e757ea0585b1201106db69cfd961124f831d61742fff2ea5fcf432f67b3", func := "bailiwick/bailiwicklaw13.SlotKeeps", spec := "slotKeeps", inPlace := ["internal/bytealg.IndexByteString", "internal/bytealg.IndexString", "slices.overlaps[bailiwick/api.Held]"], unfollowed := true, recurses := true, named := ["math/bits.deBruijn64tab", "internal/bytealg.MaxLen"], apart := false, laid := [("math/bits.deBruijn64tab", laid_math_bits_deBruijn64tab)], narrowed := true }
def SlotKeepsUptoSaid : Prop := slotKeepsUptoRow.holds Tryd.pinned (OpenSpec.upto slotKeepsSpec)

/-- 'bailiwicklaw13.SlotFirst', WHERE WHAT IT READS IS OF BULK AT MOST 1048576: true; the input reads as it did. -/
def slotFirstUptoRow : OpenClaim := { program := "ytinhfnbmgmociaadoor", sum := "08469e757ea0585b1201106db69cfd961124f831d61742fff2ea5fcf432f67b3", func := "bailiwick/bailiwicklaw13.SlotFirst", spec := "slotFirst", inPlace := ["internal/bytealg.IndexByteString", "internal/bytealg.IndexString", "slices.overlaps[bailiwick/api.Held]"], unfollowed := true, recurses := true, named := ["math/bits.deBruijn64tab", "internal/bytealg.MaxLen"], apart := false, laid := [("math/bits.deBruijn64tab", laid_math_bits_deBruijn64tab)], narrowed := true }
def SlotFirstUptoSaid : Prop := slotFirstUptoRow.holds Tryd.pinned (OpenSpec.upto slotFirstSpec)

/-- 'bailiwicklaw14.PickAlone', WHERE WHAT IT READS IS OF BULK AT MOST 1048576: true; the input reads as it did. -/
def pickAloneUptoRow : OpenClaim := { program := "ytinhfnbmgmociaadoor", sum := "08469e757ea0585b1201106db69cfd961124f831d61742fff2ea5fcf432f67b3", func := "bailiwick/bailiwicklaw14.PickAlone", spec := "pickAlone", inPlace := ["internal/bytealg.IndexByteString", "internal/bytealg.IndexString", "slices.overlaps[bailiwick/api.Held]"], unfollowed := true, recurses := true, named := ["math/bits.deBruijn64tab", "internal/bytealg.MaxLen"], apart := false, laid := [("math/bits.deBruijn64tab", laid_math_bits_deBruijn64tab)], narrowed := true }
def PickAloneUptoSaid : Prop := pickAloneUptoRow.holds Tryd.pinned (OpenSpec.upto pickAloneSpec)

/-- 'bailiwicklaw14.PickBegins', WHERE WHAT IT READS IS OF BULK AT MOST 1048576: true; the input reads as it did. -/
def pickBeginsUptoRow : OpenClaim := { program := "ytinhfnbmgmociaadoor", sum := "08469e757ea0585b1201106db69cfd961124f831d61742fff2ea5fcf432f67b3", func := "bailiwick/bailiwicklaw14.PickBegins", spec := "pickBegins", inPlace := ["internal/bytealg.IndexByteString", "internal/bytealg.IndexString", "slices.overlaps[bailiwick/api.Held]"], unfollowed := true, recurses := true, named := ["math/bits.deBruijn64tab", "internal/bytealg.MaxLen"], apart := false, laid := [("math/bits.deBruijn64tab", laid_math_bits_deBruijn64tab)], narrowed := true }
def PickBeginsUptoSaid : Prop := pickBeginsUptoRow.holds Tryd.pinned (OpenSpec.upto pickBeginsSpec)

/-- 'bailiwicklaw14.PickKeeps', WHERE WHAT IT READS IS OF BULK AT MOST 1048576: true; the input reads as it did. -/
def pickKeepsUptoRow : OpenClaim := { program := "ytinhfnbmgmociaadoor", sum := "08469e757ea0585b1201106db69cfd961124f831d61742fff2ea5fcf432f67b3", func := "bailiwick/bailiwicklaw14.PickKeeps", spec := "pickKeeps", inPlace := ["internal/bytealg.IndexByteString", "internal/bytealg.IndexString", "slices.overlaps[bailiwick/api.Held]"], unfollowed := true, recurses := true, named := ["math/bits.deBruijn64tab", "internal/bytealg.MaxLen"], apart := false, laid := [("math/bits.deBruijn64tab", laid_math_bits_deBruijn64tab)], narrowed := true }
def PickKeepsUptoSaid : Prop := pickKeepsUptoRow.holds Tryd.pinned (OpenSpec.upto pickKeepsSpec)

end Rows
end Go.Proofs.YtinhfnbmgmociaaDoor
