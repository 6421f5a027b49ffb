/-
  No cell of these rows narrows 'for every input' (looked for: loops, veiled, ifaces, maps, wideKeys, modest, calm, conditions, laid).
  DERIVED. THE GIVEN ROWS OF THIS SEAT. 8 by the template 'for every input the law returns true; each argument reads behind the call as it read before'; 0 by the template 'total and deterministic' (their statements: YtnkcenafpigmbaaTotals.lean).
  GIVEN WITH THE SEED: the statements are not yours to turn. If you find one false, say at which input.
  Laid BY PROGRAM, IN A SANDBOX (cutbox-rows.mjs): the forced cells as the released guide's own fill.sh prints them over the translation ed3ace16e328d8eb… (all of the seat's roots in one cut). By AI agents, Wed Nov 11 2026. No macro, syntax, notation, axiom, sorry.
-/
import Derived.Test.YtnkcenafpigmbaaChecked
import GoSem.Claim
import GoSem.ClaimJoined
import GoSem.ClaimMapViews
import Derived.JoinedTies
import Derived.KernelRfl
namespace Go.Proofs.Ytnkcenafpigmbaa
/- THE CELL 'sum', in the pinned program and in every row, IS THE sha256 OF THE DUMP (.gsa) THAT YtnkcenafpigmbaaProg.lean LOADS. Nothing in Lean hashes anything: it is a label: what it is worth is what the hold of that sum in a sandbox is worth. -/
noncomputable def Try.pinned : Pinned := { name := "ytnkcenafpigmbaa", sum := "ed3ace16e328d8eb05c8f92c0a597ad770f1a2624d1d7a8bb89e5073c18a2276", checked := Try.checked }
namespace Rows
def none {H : Type} : Left H := { results := [], args := [] }

/-- 'bailiwicklaw12.QueueLists': WHATEVER THE INPUT: true; the input reads as it did. -/
def queueListsSpec : ChangeSpec := { name := "queueLists", fn := fun _ => fun
  | [d] => { results := [.lit (.bool true)], args := [d] }
  | _ => none }
def queueListsRow : OpenClaim := { program := "ytnkcenafpigmbaa", sum := "ed3ace16e328d8eb05c8f92c0a597ad770f1a2624d1d7a8bb89e5073c18a2276", func := "bailiwick/bailiwicklaw12.QueueLists", spec := "queueLists", inPlace := ["internal/bytealg.IndexByteString", "internal/bytealg.IndexString"], unfollowed := true, recurses := true, named := ["internal/bytealg.MaxLen"], apart := false }
def QueueListsSaid : Prop := queueListsRow.holds Try.pinned (OpenSpec.ofChange queueListsSpec)

/-- ITS FALSE NEIGHBOUR: 'it returns false'. Refute it at one input. -/
def queueListsWrong : ChangeSpec := { name := "queueLists", fn := fun _ => fun
  | [d] => { results := [.lit (.bool false)], args := [d] }
  | _ => none }
def QueueListsWrongFalsely : Prop := queueListsRow.holds Try.pinned (OpenSpec.ofChange queueListsWrong)

/-- 'bailiwicklaw12.QueueOrder': WHATEVER THE INPUT: true; the input reads as it did. -/
def queueOrderSpec : ChangeSpec := { name := "queueOrder", fn := fun _ => fun
  | [d] => { results := [.lit (.bool true)], args := [d] }
  | _ => none }
def queueOrderRow : OpenClaim := { program := "ytnkcenafpigmbaa", sum := "ed3ace16e328d8eb05c8f92c0a597ad770f1a2624d1d7a8bb89e5073c18a2276", func := "bailiwick/bailiwicklaw12.QueueOrder", spec := "queueOrder", inPlace := ["internal/bytealg.IndexByteString", "internal/bytealg.IndexString"], unfollowed := true, recurses := true, named := ["internal/bytealg.MaxLen"], apart := false }
def QueueOrderSaid : Prop := queueOrderRow.holds Try.pinned (OpenSpec.ofChange queueOrderSpec)

/-- ITS FALSE NEIGHBOUR: 'it returns false'. Refute it at one input. -/
def queueOrderWrong : ChangeSpec := { name := "queueOrder", fn := fun _ => fun
  | [d] => { results := [.lit (.bool false)], args := [d] }
  | _ => none }
def QueueOrderWrongFalsely : Prop := queueOrderRow.holds Try.pinned (OpenSpec.ofChange queueOrderWrong)

/-- 'bailiwicklaw12.QueueGrows': WHATEVER THE INPUT: true; the input reads as it did. -/
def queueGrowsSpec : ChangeSpec := { name := "queueGrows", fn := fun _ => fun
  | [d] => { results := [.lit (.bool true)], args := [d] }
  | _ => none }
def queueGrowsRow : OpenClaim := { program := "ytnkcenafpigmbaa", sum := "ed3ace16e328d8eb05c8f92c0a597ad770f1a2624d1d7a8bb89e5073c18a2276", func := "bailiwick/bailiwicklaw12.QueueGrows", spec := "queueGrows", inPlace := ["internal/bytealg.IndexByteString", "internal/bytealg.IndexString"], unfollowed := true, recurses := true, named := ["internal/bytealg.MaxLen"], apart := false }
def QueueGrowsSaid : Prop := queueGrowsRow.holds Try.pinned (OpenSpec.ofChange queueGrowsSpec)

/-- ITS FALSE NEIGHBOUR: 'it returns false'. Refute it at one input. -/
def queueGrowsWrong : ChangeSpec := { name := "queueGrows", fn := fun _ => fun
  | [d] => { results := [.lit (.bool false)], args := [d] }
  | _ => none }
def QueueGrowsWrongFalsely : Prop := queueGrowsRow.holds Try.pinned (OpenSpec.ofChange queueGrowsWrong)

/-- 'bailiwicklaw12.QueueAdds': WHATEVER THE INPUT: true; the input reads as it did. -/
def queueAddsSpec : ChangeSpec := { name := "queueAdds", fn := fun _ => fun
  | [d1, d2, d3, d4] => { results := [.lit (.bool true)], args := [d1, d2, d3, d4] }
  | _ => none }
def queueAddsRow : OpenClaim := { program := "ytnkcenafpigmbaa", sum := "ed3ace16e328d8eb05c8f92c0a597ad770f1a2624d1d7a8bb89e5073c18a2276", func := "bailiwick/bailiwicklaw12.QueueAdds", spec := "queueAdds", inPlace := ["internal/bytealg.IndexByteString", "internal/bytealg.IndexString"], unfollowed := true, recurses := true, named := ["internal/bytealg.MaxLen"], apart := false }
def QueueAddsSaid : Prop := queueAddsRow.holds Try.pinned (OpenSpec.ofChange queueAddsSpec)

/-- ITS FALSE NEIGHBOUR: 'it returns false'. Refute it at one input. -/
def queueAddsWrong : ChangeSpec := { name := "queueAdds", fn := fun _ => fun
  | [d1, d2, d3, d4] => { results := [.lit (.bool false)], args := [d1, d2, d3, d4] }
  | _ => none }
def QueueAddsWrongFalsely : Prop := queueAddsRow.holds Try.pinned (OpenSpec.ofChange queueAddsWrong)

/-- 'bailiwicklaw26.FairRight': WHATEVER THE INPUT: true; the input reads as it did. -/
def fairRightSpec : ChangeSpec := { name := "fairRight", fn := fun _ => fun
  | [d1, d2, d3, d4] => { results := [.lit (.bool true)], args := [d1, d2, d3, d4] }
  | _ => none }
def fairRightRow : OpenClaim := { program := "ytnkcenafpigmbaa", sum := "ed3ace16e328d8eb05c8f92c0a597ad770f1a2624d1d7a8bb89e5073c18a2276", func := "bailiwick/bailiwicklaw26.FairRight", spec := "fairRight", inPlace := ["internal/bytealg.IndexByteString", "internal/bytealg.IndexString", "math.Float64bits", "math.Float64frombits"], unfollowed := true, recurses := true, named := ["internal/bytealg.MaxLen"], apart := false }
def FairRightSaid : Prop := fairRightRow.holds Try.pinned (OpenSpec.ofChange fairRightSpec)

/-- ITS FALSE NEIGHBOUR: 'it returns false'. Refute it at one input. -/
def fairRightWrong : ChangeSpec := { name := "fairRight", fn := fun _ => fun
  | [d1, d2, d3, d4] => { results := [.lit (.bool false)], args := [d1, d2, d3, d4] }
  | _ => none }
def FairRightWrongFalsely : Prop := fairRightRow.holds Try.pinned (OpenSpec.ofChange fairRightWrong)

/-- 'bailiwicklaw26.FairOrder': WHATEVER THE INPUT: true; the input reads as it did. -/
def fairOrderSpec : ChangeSpec := { name := "fairOrder", fn := fun _ => fun
  | [d1, d2, d3] => { results := [.lit (.bool true)], args := [d1, d2, d3] }
  | _ => none }
def fairOrderRow : OpenClaim := { program := "ytnkcenafpigmbaa", sum := "ed3ace16e328d8eb05c8f92c0a597ad770f1a2624d1d7a8bb89e5073c18a2276", func := "bailiwick/bailiwicklaw26.FairOrder", spec := "fairOrder", inPlace := ["internal/bytealg.IndexByteString", "internal/bytealg.IndexString", "math.Float64bits", "math.Float64frombits"], unfollowed := true, recurses := true, named := ["internal/bytealg.MaxLen"], apart := false }
def FairOrderSaid : Prop := fairOrderRow.holds Try.pinned (OpenSpec.ofChange fairOrderSpec)

/-- ITS FALSE NEIGHBOUR: 'it returns false'. Refute it at one input. -/
def fairOrderWrong : ChangeSpec := { name := "fairOrder", fn := fun _ => fun
  | [d1, d2, d3] => { results := [.lit (.bool false)], args := [d1, d2, d3] }
  | _ => none }
def FairOrderWrongFalsely : Prop := fairOrderRow.holds Try.pinned (OpenSpec.ofChange fairOrderWrong)

/-- 'bailiwicklaw26.FairPlain': WHATEVER THE INPUT: true; the input reads as it did. -/
def fairPlainSpec : ChangeSpec := { name := "fairPlain", fn := fun _ => fun
  | [d1, d2, d3, d4] => { results := [.lit (.bool true)], args := [d1, d2, d3, d4] }
  | _ => none }
def fairPlainRow : OpenClaim := { program := "ytnkcenafpigmbaa", sum := "ed3ace16e328d8eb05c8f92c0a597ad770f1a2624d1d7a8bb89e5073c18a2276", func := "bailiwick/bailiwicklaw26.FairPlain", spec := "fairPlain", inPlace := ["internal/bytealg.IndexByteString", "internal/bytealg.IndexString", "math.Float64bits", "math.Float64frombits"], unfollowed := true, recurses := true, named := ["internal/bytealg.MaxLen"], apart := false }
def FairPlainSaid : Prop := fairPlainRow.holds Try.pinned (OpenSpec.ofChange fairPlainSpec)

/-- ITS FALSE NEIGHBOUR: 'it returns false'. Refute it at one input. -/
def fairPlainWrong : ChangeSpec := { name := "fairPlain", fn := fun _ => fun
  | [d1, d2, d3, d4] => { results := [.lit (.bool false)], args := [d1, d2, d3, d4] }
  | _ => none }
def FairPlainWrongFalsely : Prop := fairPlainRow.holds Try.pinned (OpenSpec.ofChange fairPlainWrong)

/-- 'bailiwicklaw26.FairShares': WHATEVER THE INPUT: true; the input reads as it did. -/
def fairSharesSpec : ChangeSpec := { name := "fairShares", fn := fun _ => fun
  | [d1, d2, d3, d4] => { results := [.lit (.bool true)], args := [d1, d2, d3, d4] }
  | _ => none }
def fairSharesRow : OpenClaim := { program := "ytnkcenafpigmbaa", sum := "ed3ace16e328d8eb05c8f92c0a597ad770f1a2624d1d7a8bb89e5073c18a2276", func := "bailiwick/bailiwicklaw26.FairShares", spec := "fairShares", inPlace := ["internal/bytealg.IndexByteString", "internal/bytealg.IndexString", "math.Float64bits", "math.Float64frombits"], unfollowed := true, recurses := true, named := ["internal/bytealg.MaxLen"], apart := false }
def FairSharesSaid : Prop := fairSharesRow.holds Try.pinned (OpenSpec.ofChange fairSharesSpec)

/-- ITS FALSE NEIGHBOUR: 'it returns false'. Refute it at one input. -/
def fairSharesWrong : ChangeSpec := { name := "fairShares", fn := fun _ => fun
  | [d1, d2, d3, d4] => { results := [.lit (.bool false)], args := [d1, d2, d3, d4] }
  | _ => none }
def FairSharesWrongFalsely : Prop := fairSharesRow.holds Try.pinned (OpenSpec.ofChange fairSharesWrong)

/- THE SECOND FORM. 'bulk': how many values and letters a reading holds, each counted each time it is reached (what is shared counts as often as it is met; a slice's spare places count too). A statement '..UptoSaid' is the law's where the arguments, and the package variables that the reading takes, are together of bulk at most 1048576: NARROWER than '..Said'. Prove '..Said' where nothing that the law and all that it calls make is longer than what came in: it says more and counts as full. Else prove '..UptoSaid'. A law counts once. -/
mutual
def uptoBulk {H : Type} : DataW H → Nat
  | .lit (.string bytes) => bytes.length + 1
  | .lit _ => 1
  | .nil => 1
  | .ptr d => uptoBulk d + 1
  | .slice elems spare => uptoBulkAll elems + uptoBulkAll spare + 1
  | .agg parts => uptoBulkAll parts + 1
  | .iface _ d => uptoBulk d + 1
  | .map entries => uptoBulkEntries entries + 1
  | .held _ => 1
def uptoBulkAll {H : Type} : List (DataW H) → Nat
  | [] => 0
  | d :: r => uptoBulk d + uptoBulkAll r
def uptoBulkEntries {H : Type} : List (Lit × DataW H) → Nat
  | [] => 0
  | x :: r => uptoBulkEntry x + uptoBulkEntries r
def uptoBulkEntry {H : Type} : Lit × DataW H → Nat
  | (.string bytes, d) => bytes.length + uptoBulk d + 1
  | (_, d) => uptoBulk d + 1
 end
def uptoSmall : (H : Type) → List (DataW H) → Bool := fun _ ds => decide (uptoBulkAll ds ≤ 1048576)
def OpenSpec.upto (s : _root_.Go.ChangeSpec) : _root_.Go.OpenSpec := { _root_.Go.OpenSpec.ofChange s with cond := some uptoSmall }

/-- 'bailiwicklaw12.QueueLists', WHERE WHAT IT READS IS OF BULK AT MOST 1048576: true; the input reads as it did. -/
def queueListsUptoRow : OpenClaim := { program := "ytnkcenafpigmbaa", sum := "ed3ace16e328d8eb05c8f92c0a597ad770f1a2624d1d7a8bb89e5073c18a2276", func := "bailiwick/bailiwicklaw12.QueueLists", spec := "queueLists", inPlace := ["internal/bytealg.IndexByteString", "internal/bytealg.IndexString"], unfollowed := true, recurses := true, named := ["internal/bytealg.MaxLen"], apart := false, narrowed := true }
def QueueListsUptoSaid : Prop := queueListsUptoRow.holds Try.pinned (OpenSpec.upto queueListsSpec)

/-- 'bailiwicklaw12.QueueOrder', WHERE WHAT IT READS IS OF BULK AT MOST 1048576: true; the input reads as it did. -/
def queueOrderUptoRow : OpenClaim := { program := "ytnkcenafpigmbaa", sum := "ed3ace16e328d8eb05c8f92c0a597ad770f1a2624d1d7a8bb89e5073c18a2276", func := "bailiwick/bailiwicklaw12.QueueOrder", spec := "queueOrder", inPlace := ["internal/bytealg.IndexByteString", "internal/bytealg.IndexString"], unfollowed := true, recurses := true, named := ["internal/bytealg.MaxLen"], apart := false, narrowed := true }
def QueueOrderUptoSaid : Prop := queueOrderUptoRow.holds Try.pinned (OpenSpec.upto queueOrderSpec)

/-- 'bailiwicklaw12.QueueGrows', WHERE WHAT IT READS IS OF BULK AT MOST 1048576: true; the input reads as it did. -/
def queueGrowsUptoRow : OpenClaim := { program := "ytnkcenafpigmbaa", sum := "ed3ace16e328d8eb05c8f92c0a597ad770f1a2624d1d7a8bb89e5073c18a2276", func := "bailiwick/bailiwicklaw12.QueueGrows", spec := "queueGrows", inPlace := ["internal/bytealg.IndexByteString", "internal/bytealg.IndexString"], unfollowed := true, recurses := true, named := ["internal/bytealg.MaxLen"], apart := false, narrowed := true }
def QueueGrowsUptoSaid : Prop := queueGrowsUptoRow.holds Try.pinned (OpenSpec.upto queueGrowsSpec)

/-- 'bailiwicklaw12.QueueAdds', WHERE WHAT IT READS IS OF BULK AT MOST 1048576: true; the input reads as it did. -/
def queueAddsUptoRow : OpenClaim := { program := "ytnkcenafpigmbaa", sum := "ed3ace16e328d8eb05c8f92c0a597ad770f1a2624d1d7a8bb89e5073c18a2276", func := "bailiwick/bailiwicklaw12.QueueAdds", spec := "queueAdds", inPlace := ["internal/bytealg.IndexByteString", "internal/bytealg.IndexString"], unfollowed := true, recurses := true, named := ["internal/bytealg.MaxLen"], apart := false, narrowed := true }
def QueueAddsUptoSaid : Prop := queueAddsUptoRow.holds Try.pinned (OpenSpec.upto queueAddsSpec)

/-- 'bailiwicklaw26.FairRight', WHERE WHAT IT READS IS OF BULK AT MOST 1048576: true; the input reads as it did. -/
def fairRightUptoRow : OpenClaim := { program := "ytnkcenafpigmbaa", sum := "ed3ace16e328d8eb05c8f92c0a597ad770f1a2624d1d7a8bb89e5073c18a2276", func := "bailiwick/bailiwicklaw26.FairRight", spec := "fairRight", inPlace := ["internal/bytealg.IndexByteString", "internal/bytealg.IndexString", "math.Float64bits", "math.Float64frombits"], unfollowed := true, recurses := true, named := ["internal/bytealg.MaxLen"], apart := false, narrowed := true }
def FairRightUptoSaid : Prop := fairRightUptoRow.holds Try.pinned (OpenSpec.upto fairRightSpec)

/-- 'bailiwicklaw26.FairOrder', WHERE WHAT IT READS IS OF BULK AT MOST 1048576: true; the input reads as it did. -/
def fairOrderUptoRow : OpenClaim := { program := "ytnkcenafpigmbaa", sum := "ed3ace16e328d8eb05c8f92c0a597ad770f1a2624d1d7a8bb89e5073c18a2276", func := "bailiwick/bailiwicklaw26.FairOrder", spec := "fairOrder", inPlace := ["internal/bytealg.IndexByteString", "internal/bytealg.IndexString", "math.Float64bits", "math.Float64frombits"], unfollowed := true, recurses := true, named := ["internal/bytealg.MaxLen"], apart := false, narrowed := true }
def FairOrderUptoSaid : Prop := fairOrderUptoRow.holds Try.pinned (OpenSpec.upto fairOrderSpec)

/-- 'bailiwicklaw26.FairPlain', WHERE WHAT IT READS IS OF BULK AT MOST 1048576: true; the input reads as it did. -/
def fairPlainUptoRow : OpenClaim := { program := "ytnkcenafpigmbaa", sum := "ed3ace16e328d8eb05c8f92c0a597ad770f1a2624d1d7a8bb89e5073c18a2276", func := "bailiwick/bailiwicklaw26.FairPlain", spec := "fairPlain", inPlace := ["internal/bytealg.IndexByteString", "internal/bytealg.IndexString", "math.Float64bits", "math.Float64frombits"], unfollowed := true, recurses := true, named := ["internal/bytealg.MaxLen"], apart := false, narrowed := true }
def FairPlainUptoSaid : Prop := fairPlainUptoRow.holds Try.pinned (OpenSpec.upto fairPlainSpec)

/-- 'bailiwicklaw26.FairShares', WHERE WHAT IT READS IS OF BULK AT MOST 1048576: true; the input reads as it did. -/
def fairSharesUptoRow : OpenClaim := { program := "ytnkcenafpigmbaa", sum := "ed3ace16e328d8eb05c8f92c0a597ad770f1a2624d1d7a8bb89e5073c18a2276", func := "bailiwick/bailiwicklaw26.FairShares", spec := "fairShares", inPlace := ["internal/bytealg.IndexByteString", "internal/bytealg.IndexString", "math.Float64bits", "math.Float64frombits"], unfollowed := true, recurses := true, named := ["internal/bytealg.MaxLen"], apart := false, narrowed := true }
def FairSharesUptoSaid : Prop := fairSharesUptoRow.holds Try.pinned (OpenSpec.upto fairSharesSpec)

end Rows
end Go.Proofs.Ytnkcenafpigmbaa
