/-
  No cell of these rows narrows 'for every input' (looked for: loops, veiled, ifaces, maps, wideKeys, modest, calm, conditions, laid).
  DERIVED. THE GIVEN ROWS OF THIS SEAT. 5 by the template 'for every input the law returns true; each argument reads behind the call as it read before'; 0 by the template 'total and deterministic' (their statements: YtpnfmaphlfobpaaTotals.lean).
  GIVEN WITH THE SEED: the statements are not yours to turn. If you find one false, say at which input.
  Laid BY PROGRAM, IN A SANDBOX (cutbox-rows.mjs): the forced cells as the released guide's own fill.sh prints them over the translation 0858c2eb9f7ab208… (all of the seat's roots in one cut). By AI agents, Wed Nov 11 2026. No macro, syntax, notation, axiom, sorry.
-/
import Derived.Test.YtpnfmaphlfobpaaChecked
import GoSem.Claim
import GoSem.ClaimJoined
import GoSem.ClaimMapViews
import Derived.JoinedTies
import Derived.KernelRfl
namespace Go.Proofs.Ytpnfmaphlfobpaa
/- THE CELL 'sum', in the pinned program and in every row, IS THE sha256 OF THE DUMP (.gsa) THAT YtpnfmaphlfobpaaProg.lean LOADS. Nothing in Lean hashes anything: it is a label: what it is worth is what the hold of that sum in a sandbox is worth. -/
noncomputable def Try.pinned : Pinned := { name := "ytpnfmaphlfobpaa", sum := "0858c2eb9f7ab2086360bf39283a55effa4560712471622a129c5b6a1b759b44", checked := Try.checked }
namespace Rows
def none {H : Type} : Left H := { results := [], args := [] }

/-- 'bailiwicklaw20.LogPrefix': WHATEVER THE INPUT: true; the input reads as it did. -/
def logPrefixSpec : ChangeSpec := { name := "logPrefix", fn := fun _ => fun
  | [d1, d2, d3] => { results := [.lit (.bool true)], args := [d1, d2, d3] }
  | _ => none }
def logPrefixRow : OpenClaim := { program := "ytpnfmaphlfobpaa", sum := "0858c2eb9f7ab2086360bf39283a55effa4560712471622a129c5b6a1b759b44", func := "bailiwick/bailiwicklaw20.LogPrefix", spec := "logPrefix", apart := false }
def LogPrefixSaid : Prop := logPrefixRow.holds Try.pinned (OpenSpec.ofChange logPrefixSpec)

/-- ITS FALSE NEIGHBOUR: 'it returns false'. Refute it at one input. -/
def logPrefixWrong : ChangeSpec := { name := "logPrefix", fn := fun _ => fun
  | [d1, d2, d3] => { results := [.lit (.bool false)], args := [d1, d2, d3] }
  | _ => none }
def LogPrefixWrongFalsely : Prop := logPrefixRow.holds Try.pinned (OpenSpec.ofChange logPrefixWrong)

/-- 'bailiwicklaw20.LogSpoilt': WHATEVER THE INPUT: true; the input reads as it did. -/
def logSpoiltSpec : ChangeSpec := { name := "logSpoilt", fn := fun _ => fun
  | [d1, d2, d3] => { results := [.lit (.bool true)], args := [d1, d2, d3] }
  | _ => none }
def logSpoiltRow : OpenClaim := { program := "ytpnfmaphlfobpaa", sum := "0858c2eb9f7ab2086360bf39283a55effa4560712471622a129c5b6a1b759b44", func := "bailiwick/bailiwicklaw20.LogSpoilt", spec := "logSpoilt", apart := false }
def LogSpoiltSaid : Prop := logSpoiltRow.holds Try.pinned (OpenSpec.ofChange logSpoiltSpec)

/-- ITS FALSE NEIGHBOUR: 'it returns false'. Refute it at one input. -/
def logSpoiltWrong : ChangeSpec := { name := "logSpoilt", fn := fun _ => fun
  | [d1, d2, d3] => { results := [.lit (.bool false)], args := [d1, d2, d3] }
  | _ => none }
def LogSpoiltWrongFalsely : Prop := logSpoiltRow.holds Try.pinned (OpenSpec.ofChange logSpoiltWrong)

/-- 'bailiwicklaw20.LogRight': WHATEVER THE INPUT: true; the input reads as it did. -/
def logRightSpec : ChangeSpec := { name := "logRight", fn := fun _ => fun
  | [d1, d2] => { results := [.lit (.bool true)], args := [d1, d2] }
  | _ => none }
def logRightRow : OpenClaim := { program := "ytpnfmaphlfobpaa", sum := "0858c2eb9f7ab2086360bf39283a55effa4560712471622a129c5b6a1b759b44", func := "bailiwick/bailiwicklaw20.LogRight", spec := "logRight", apart := false }
def LogRightSaid : Prop := logRightRow.holds Try.pinned (OpenSpec.ofChange logRightSpec)

/-- ITS FALSE NEIGHBOUR: 'it returns false'. Refute it at one input. -/
def logRightWrong : ChangeSpec := { name := "logRight", fn := fun _ => fun
  | [d1, d2] => { results := [.lit (.bool false)], args := [d1, d2] }
  | _ => none }
def LogRightWrongFalsely : Prop := logRightRow.holds Try.pinned (OpenSpec.ofChange logRightWrong)

/-- 'bailiwicklaw20.LogGood': WHATEVER THE INPUT: true; the input reads as it did. -/
def logGoodSpec : ChangeSpec := { name := "logGood", fn := fun _ => fun
  | [d1, d2] => { results := [.lit (.bool true)], args := [d1, d2] }
  | _ => none }
def logGoodRow : OpenClaim := { program := "ytpnfmaphlfobpaa", sum := "0858c2eb9f7ab2086360bf39283a55effa4560712471622a129c5b6a1b759b44", func := "bailiwick/bailiwicklaw20.LogGood", spec := "logGood", apart := false }
def LogGoodSaid : Prop := logGoodRow.holds Try.pinned (OpenSpec.ofChange logGoodSpec)

/-- ITS FALSE NEIGHBOUR: 'it returns false'. Refute it at one input. -/
def logGoodWrong : ChangeSpec := { name := "logGood", fn := fun _ => fun
  | [d1, d2] => { results := [.lit (.bool false)], args := [d1, d2] }
  | _ => none }
def LogGoodWrongFalsely : Prop := logGoodRow.holds Try.pinned (OpenSpec.ofChange logGoodWrong)

/-- 'bailiwicklaw20.LogJoins': WHATEVER THE INPUT: true; the input reads as it did. -/
def logJoinsSpec : ChangeSpec := { name := "logJoins", fn := fun _ => fun
  | [d1, d2] => { results := [.lit (.bool true)], args := [d1, d2] }
  | _ => none }
def logJoinsRow : OpenClaim := { program := "ytpnfmaphlfobpaa", sum := "0858c2eb9f7ab2086360bf39283a55effa4560712471622a129c5b6a1b759b44", func := "bailiwick/bailiwicklaw20.LogJoins", spec := "logJoins", apart := false }
def LogJoinsSaid : Prop := logJoinsRow.holds Try.pinned (OpenSpec.ofChange logJoinsSpec)

/-- ITS FALSE NEIGHBOUR: 'it returns false'. Refute it at one input. -/
def logJoinsWrong : ChangeSpec := { name := "logJoins", fn := fun _ => fun
  | [d1, d2] => { results := [.lit (.bool false)], args := [d1, d2] }
  | _ => none }
def LogJoinsWrongFalsely : Prop := logJoinsRow.holds Try.pinned (OpenSpec.ofChange logJoinsWrong)

/- THE SECOND FORM. 'bulk': how many values and letters a reading holds, each counted each time it is reached (what is shared counts as often as it is met; a slice's spare places count too). A statement '..UptoSaid' is the law's where the arguments, and the package variables that the reading takes, are together of bulk at most 1048576: NARROWER than '..Said'. Prove '..Said' where nothing that the law and all that it calls make is longer than what came in: it says more and counts as full. Else prove '..UptoSaid'. A law counts once. -/
mutual
def uptoBulk {H : Type} : DataW H → Nat
  | .lit (.string bytes) => bytes.length + 1
  | .lit _ => 1
  | .nil => 1
  | .ptr d => uptoBulk d + 1
  | .slice elems spare => uptoBulkAll elems + uptoBulkAll spare + 1
  | .agg parts => uptoBulkAll parts + 1
  | .iface _ d => uptoBulk d + 1
  | .map entries => uptoBulkEntries entries + 1
  | .held _ => 1
def uptoBulkAll {H : Type} : List (DataW H) → Nat
  | [] => 0
  | d :: r => uptoBulk d + uptoBulkAll r
def uptoBulkEntries {H : Type} : List (Lit × DataW H) → Nat
  | [] => 0
  | x :: r => uptoBulkEntry x + uptoBulkEntries r
def uptoBulkEntry {H : Type} : Lit × DataW H → Nat
  | (.string bytes, d) => bytes.length + uptoBulk d + 1
  | (_, d) => uptoBulk d + 1
 end
def uptoSmall : (H : Type) → List (DataW H) → Bool := fun _ ds => decide (uptoBulkAll ds ≤ 1048576)
def OpenSpec.upto (s : _root_.Go.ChangeSpec) : _root_.Go.OpenSpec := { _root_.Go.OpenSpec.ofChange s with cond := some uptoSmall }

/-- 'bailiwicklaw20.LogPrefix', WHERE WHAT IT READS IS OF BULK AT MOST 1048576: true; the input reads as it did. -/
def logPrefixUptoRow : OpenClaim := { program := "ytpnfmaphlfobpaa", sum := "0858c2eb9f7ab2086360bf39283a55effa4560712471622a129c5b6a1b759b44", func := "bailiwick/bailiwicklaw20.LogPrefix", spec := "logPrefix", apart := false, narrowed := true }
def LogPrefixUptoSaid : Prop := logPrefixUptoRow.holds Try.pinned (OpenSpec.upto logPrefixSpec)

/-- 'bailiwicklaw20.LogSpoilt', WHERE WHAT IT READS IS OF BULK AT MOST 1048576: true; the input reads as it did. -/
def logSpoiltUptoRow : OpenClaim := { program := "ytpnfmaphlfobpaa", sum := "0858c2eb9f7ab2086360bf39283a55effa4560712471622a129c5b6a1b759b44", func := "bailiwick/bailiwicklaw20.LogSpoilt", spec := "logSpoilt", apart := false, narrowed := true }
def LogSpoiltUptoSaid : Prop := logSpoiltUptoRow.holds Try.pinned (OpenSpec.upto logSpoiltSpec)

/-- 'bailiwicklaw20.LogRight', WHERE WHAT IT READS IS OF BULK AT MOST 1048576: true; the input reads as it did. -/
def logRightUptoRow : OpenClaim := { program := "ytpnfmaphlfobpaa", sum := "0858c2eb9f7ab2086360bf39283a55effa4560712471622a129c5b6a1b759b44", func := "bailiwick/bailiwicklaw20.LogRight", spec := "logRight", apart := false, narrowed := true }
def LogRightUptoSaid : Prop := logRightUptoRow.holds Try.pinned (OpenSpec.upto logRightSpec)

/-- 'bailiwicklaw20.LogGood', WHERE WHAT IT READS IS OF BULK AT MOST 1048576: true; the input reads as it did. -/
def logGoodUptoRow : OpenClaim := { program := "ytpnfmaphlfobpaa", sum := "0858c2eb9f7ab2086360bf39283a55effa4560712471622a129c5b6a1b759b44", func := "bailiwick/bailiwicklaw20.LogGood", spec := "logGood", apart := false, narrowed := true }
def LogGoodUptoSaid : Prop := logGoodUptoRow.holds Try.pinned (OpenSpec.upto logGoodSpec)

/-- 'bailiwicklaw20.LogJoins', WHERE WHAT IT READS IS OF BULK AT MOST 1048576: true; the input reads as it did. -/
def logJoinsUptoRow : OpenClaim := { program := "ytpnfmaphlfobpaa", sum := "0858c2eb9f7ab2086360bf39283a55effa4560712471622a129c5b6a1b759b44", func := "bailiwick/bailiwicklaw20.LogJoins", spec := "logJoins", apart := false, narrowed := true }
def LogJoinsUptoSaid : Prop := logJoinsUptoRow.holds Try.pinned (OpenSpec.upto logJoinsSpec)

end Rows
end Go.Proofs.Ytpnfmaphlfobpaa
