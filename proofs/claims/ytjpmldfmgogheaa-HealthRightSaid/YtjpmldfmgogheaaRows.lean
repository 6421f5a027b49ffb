/-
  No cell of these rows narrows 'for every input' (looked for: loops, veiled, ifaces, maps, wideKeys, modest, calm, conditions, laid).
  DERIVED. THE GIVEN ROWS OF THIS SEAT. 5 by the template 'for every input the law returns true; each argument reads behind the call as it read before'; 0 by the template 'total and deterministic' (their statements: YtjpmldfmgogheaaTotals.lean).
  GIVEN WITH THE SEED: the statements are not yours to turn. If you find one false, say at which input.
  Laid BY PROGRAM, IN A SANDBOX (cutbox-rows.mjs): the forced cells as the released guide's own fill.sh prints them over the translation 27481ef15268fa3c… (all of the seat's roots in one cut). By AI agents, Wed Nov 11 2026. No macro, syntax, notation, axiom, sorry.
-/
import Derived.Test.YtjpmldfmgogheaaChecked
import GoSem.Claim
import GoSem.ClaimJoined
import GoSem.ClaimMapViews
import Derived.JoinedTies
import Derived.KernelRfl
namespace Go.Proofs.Ytjpmldfmgogheaa
/- THE CELL 'sum', in the pinned program and in every row, IS THE sha256 OF THE DUMP (.gsa) THAT YtjpmldfmgogheaaProg.lean LOADS. Nothing in Lean hashes anything: it is a label: what it is worth is what the hold of that sum in a sandbox is worth. -/
noncomputable def Try.pinned : Pinned := { name := "ytjpmldfmgogheaa", sum := "27481ef15268fa3c92d37a44cd1b3083f67a9c259d5c6a61dbcb61358030c7ac", checked := Try.checked }
namespace Rows
def none {H : Type} : Left H := { results := [], args := [] }

/-- 'bailiwicklaw06.HealthRight': WHATEVER THE INPUT: true; the input reads as it did. -/
def healthRightSpec : ChangeSpec := { name := "healthRight", fn := fun _ => fun
  | [d1, d2, d3, d4] => { results := [.lit (.bool true)], args := [d1, d2, d3, d4] }
  | _ => none }
def healthRightRow : OpenClaim := { program := "ytjpmldfmgogheaa", sum := "27481ef15268fa3c92d37a44cd1b3083f67a9c259d5c6a61dbcb61358030c7ac", func := "bailiwick/bailiwicklaw06.HealthRight", spec := "healthRight", inPlace := ["internal/bytealg.IndexByteString", "internal/bytealg.IndexString"], unfollowed := true, recurses := true, named := ["internal/bytealg.MaxLen"], apart := false }
def HealthRightSaid : Prop := healthRightRow.holds Try.pinned (OpenSpec.ofChange healthRightSpec)

/-- ITS FALSE NEIGHBOUR: 'it returns false'. Refute it at one input. -/
def healthRightWrong : ChangeSpec := { name := "healthRight", fn := fun _ => fun
  | [d1, d2, d3, d4] => { results := [.lit (.bool false)], args := [d1, d2, d3, d4] }
  | _ => none }
def HealthRightWrongFalsely : Prop := healthRightRow.holds Try.pinned (OpenSpec.ofChange healthRightWrong)

/-- 'bailiwicklaw06.HealthAll': WHATEVER THE INPUT: true; the input reads as it did. -/
def healthAllSpec : ChangeSpec := { name := "healthAll", fn := fun _ => fun
  | [d] => { results := [.lit (.bool true)], args := [d] }
  | _ => none }
def healthAllRow : OpenClaim := { program := "ytjpmldfmgogheaa", sum := "27481ef15268fa3c92d37a44cd1b3083f67a9c259d5c6a61dbcb61358030c7ac", func := "bailiwick/bailiwicklaw06.HealthAll", spec := "healthAll", inPlace := ["internal/bytealg.IndexByteString", "internal/bytealg.IndexString"], unfollowed := true, recurses := true, named := ["internal/bytealg.MaxLen"], apart := false }
def HealthAllSaid : Prop := healthAllRow.holds Try.pinned (OpenSpec.ofChange healthAllSpec)

/-- ITS FALSE NEIGHBOUR: 'it returns false'. Refute it at one input. -/
def healthAllWrong : ChangeSpec := { name := "healthAll", fn := fun _ => fun
  | [d] => { results := [.lit (.bool false)], args := [d] }
  | _ => none }
def HealthAllWrongFalsely : Prop := healthAllRow.holds Try.pinned (OpenSpec.ofChange healthAllWrong)

/-- 'bailiwicklaw05.GraphNodes': WHATEVER THE INPUT: true; the input reads as it did. -/
def graphNodesSpec : ChangeSpec := { name := "graphNodes", fn := fun _ => fun
  | [d] => { results := [.lit (.bool true)], args := [d] }
  | _ => none }
def graphNodesRow : OpenClaim := { program := "ytjpmldfmgogheaa", sum := "27481ef15268fa3c92d37a44cd1b3083f67a9c259d5c6a61dbcb61358030c7ac", func := "bailiwick/bailiwicklaw05.GraphNodes", spec := "graphNodes", inPlace := ["internal/bytealg.IndexByteString", "internal/bytealg.IndexString"], unfollowed := true, recurses := true, named := ["internal/bytealg.MaxLen"], apart := false }
def GraphNodesSaid : Prop := graphNodesRow.holds Try.pinned (OpenSpec.ofChange graphNodesSpec)

/-- ITS FALSE NEIGHBOUR: 'it returns false'. Refute it at one input. -/
def graphNodesWrong : ChangeSpec := { name := "graphNodes", fn := fun _ => fun
  | [d] => { results := [.lit (.bool false)], args := [d] }
  | _ => none }
def GraphNodesWrongFalsely : Prop := graphNodesRow.holds Try.pinned (OpenSpec.ofChange graphNodesWrong)

/-- 'bailiwicklaw05.GraphUnder': WHATEVER THE INPUT: true; the input reads as it did. -/
def graphUnderSpec : ChangeSpec := { name := "graphUnder", fn := fun _ => fun
  | [d1, d2, d3] => { results := [.lit (.bool true)], args := [d1, d2, d3] }
  | _ => none }
def graphUnderRow : OpenClaim := { program := "ytjpmldfmgogheaa", sum := "27481ef15268fa3c92d37a44cd1b3083f67a9c259d5c6a61dbcb61358030c7ac", func := "bailiwick/bailiwicklaw05.GraphUnder", spec := "graphUnder", inPlace := ["internal/bytealg.IndexByteString", "internal/bytealg.IndexString"], unfollowed := true, recurses := true, named := ["internal/bytealg.MaxLen"], apart := false }
def GraphUnderSaid : Prop := graphUnderRow.holds Try.pinned (OpenSpec.ofChange graphUnderSpec)

/-- ITS FALSE NEIGHBOUR: 'it returns false'. Refute it at one input. -/
def graphUnderWrong : ChangeSpec := { name := "graphUnder", fn := fun _ => fun
  | [d1, d2, d3] => { results := [.lit (.bool false)], args := [d1, d2, d3] }
  | _ => none }
def GraphUnderWrongFalsely : Prop := graphUnderRow.holds Try.pinned (OpenSpec.ofChange graphUnderWrong)

/-- 'bailiwicklaw06.HealthWorse': WHATEVER THE INPUT: true; the input reads as it did. -/
def healthWorseSpec : ChangeSpec := { name := "healthWorse", fn := fun _ => fun
  | [d1, d2, d3, d4, d5] => { results := [.lit (.bool true)], args := [d1, d2, d3, d4, d5] }
  | _ => none }
def healthWorseRow : OpenClaim := { program := "ytjpmldfmgogheaa", sum := "27481ef15268fa3c92d37a44cd1b3083f67a9c259d5c6a61dbcb61358030c7ac", func := "bailiwick/bailiwicklaw06.HealthWorse", spec := "healthWorse", inPlace := ["internal/bytealg.IndexByteString", "internal/bytealg.IndexString"], unfollowed := true, recurses := true, named := ["internal/bytealg.MaxLen"], apart := false }
def HealthWorseSaid : Prop := healthWorseRow.holds Try.pinned (OpenSpec.ofChange healthWorseSpec)

/-- ITS FALSE NEIGHBOUR: 'it returns false'. Refute it at one input. -/
def healthWorseWrong : ChangeSpec := { name := "healthWorse", fn := fun _ => fun
  | [d1, d2, d3, d4, d5] => { results := [.lit (.bool false)], args := [d1, d2, d3, d4, d5] }
  | _ => none }
def HealthWorseWrongFalsely : Prop := healthWorseRow.holds Try.pinned (OpenSpec.ofChange healthWorseWrong)

/- THE SECOND FORM. 'bulk': how many values and letters a reading holds, each counted each time it is reached (what is shared counts as often as it is met; a slice's spare places count too). A statement '..UptoSaid' is the law's where the arguments, and the package variables that the reading takes, are together of bulk at most 1048576: NARROWER than '..Said'. Prove '..Said' where nothing that the law and all that it calls make is longer than what came in: it says more and counts as full. Else prove '..UptoSaid'. A law counts once. -/
mutual
def uptoBulk {H : Type} : DataW H → Nat
  | .lit (.string bytes) => bytes.length + 1
  | .lit _ => 1
  | .nil => 1
  | .ptr d => uptoBulk d + 1
  | .slice elems spare => uptoBulkAll elems + uptoBulkAll spare + 1
  | .agg parts => uptoBulkAll parts + 1
  | .iface _ d => uptoBulk d + 1
  | .map entries => uptoBulkEntries entries + 1
  | .held _ => 1
def uptoBulkAll {H : Type} : List (DataW H) → Nat
  | [] => 0
  | d :: r => uptoBulk d + uptoBulkAll r
def uptoBulkEntries {H : Type} : List (Lit × DataW H) → Nat
  | [] => 0
  | x :: r => uptoBulkEntry x + uptoBulkEntries r
def uptoBulkEntry {H : Type} : Lit × DataW H → Nat
  | (.string bytes, d) => bytes.length + uptoBulk d + 1
  | (_, d) => uptoBulk d + 1
 end
def uptoSmall : (H : Type) → List (DataW H) → Bool := fun _ ds => decide (uptoBulkAll ds ≤ 1048576)
def OpenSpec.upto (s : _root_.Go.ChangeSpec) : _root_.Go.OpenSpec := { _root_.Go.OpenSpec.ofChange s with cond := some uptoSmall }

/-- 'bailiwicklaw06.HealthRight', WHERE WHAT IT READS IS OF BULK AT MOST 1048576: true; the input reads as it did. -/
def healthRightUptoRow : OpenClaim := { program := "ytjpmldfmgogheaa", sum := "27481ef15268fa3c92d37a44cd1b3083f67a9c259d5c6a61dbcb61358030c7ac", func := "bailiwick/bailiwicklaw06.HealthRight", spec := "healthRight", inPlace := ["internal/bytealg.IndexByteString", "internal/bytealg.IndexString"], unfollowed := true, recurses := true, named := ["internal/bytealg.MaxLen"], apart := false, narrowed := true }
def HealthRightUptoSaid : Prop := healthRightUptoRow.holds Try.pinned (OpenSpec.upto healthRightSpec)

/-- 'bailiwicklaw06.HealthAll', WHERE WHAT IT READS IS OF BULK AT MOST 1048576: true; the input reads as it did. -/
def healthAllUptoRow : OpenClaim := { program := "ytjpmldfmgogheaa", sum := "27481ef15268fa3c92d37a44cd1b3083f67a9c259d5c6a61dbcb61358030c7ac", func := "bailiwick/bailiwicklaw06.HealthAll", spec := "healthAll", inPlace := ["internal/bytealg.IndexByteString", "internal/bytealg.IndexString"], unfollowed := true, recurses := true, named := ["internal/bytealg.MaxLen"], apart := false, narrowed := true }
def HealthAllUptoSaid : Prop := healthAllUptoRow.holds Try.pinned (OpenSpec.upto healthAllSpec)

/-- 'bailiwicklaw05.GraphNodes', WHERE WHAT IT READS IS OF BULK AT MOST 1048576: true; the input reads as it did. -/
def graphNodesUptoRow : OpenClaim := { program := "ytjpmldfmgogheaa", sum := "27481ef15268fa3c92d37a44cd1b3083f67a9c259d5c6a61dbcb61358030c7ac", func := "bailiwick/bailiwicklaw05.GraphNodes", spec := "graphNodes", inPlace := ["internal/bytealg.IndexByteString", "internal/bytealg.IndexString"], unfollowed := true, recurses := true, named := ["internal/bytealg.MaxLen"], apart := false, narrowed := true }
def GraphNodesUptoSaid : Prop := graphNodesUptoRow.holds Try.pinned (OpenSpec.upto graphNodesSpec)

/-- 'bailiwicklaw05.GraphUnder', WHERE WHAT IT READS IS OF BULK AT MOST 1048576: true; the input reads as it did. -/
def graphUnderUptoRow : OpenClaim := { program := "ytjpmldfmgogheaa", sum := "27481ef15268fa3c92d37a44cd1b3083f67a9c259d5c6a61dbcb61358030c7ac", func := "bailiwick/bailiwicklaw05.GraphUnder", spec := "graphUnder", inPlace := ["internal/bytealg.IndexByteString", "internal/bytealg.IndexString"], unfollowed := true, recurses := true, named := ["internal/bytealg.MaxLen"], apart := false, narrowed := true }
def GraphUnderUptoSaid : Prop := graphUnderUptoRow.holds Try.pinned (OpenSpec.upto graphUnderSpec)

/-- 'bailiwicklaw06.HealthWorse', WHERE WHAT IT READS IS OF BULK AT MOST 1048576: true; the input reads as it did. -/
def healthWorseUptoRow : OpenClaim := { program := "ytjpmldfmgogheaa", sum := "27481ef15268fa3c92d37a44cd1b3083f67a9c259d5c6a61dbcb61358030c7ac", func := "bailiwick/bailiwicklaw06.HealthWorse", spec := "healthWorse", inPlace := ["internal/bytealg.IndexByteString", "internal/bytealg.IndexString"], unfollowed := true, recurses := true, named := ["internal/bytealg.MaxLen"], apart := false, narrowed := true }
def HealthWorseUptoSaid : Prop := healthWorseUptoRow.holds Try.pinned (OpenSpec.upto healthWorseSpec)

end Rows
end Go.Proofs.Ytjpmldfmgogheaa
