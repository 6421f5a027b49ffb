/-
  No cell of these rows narrows 'for every input' (looked for: loops, veiled, ifaces, maps, wideKeys, modest, calm, conditions, laid).
  DERIVED. THE GIVEN ROWS OF THIS SEAT. 5 by the template 'for every input the law returns true; each argument reads behind the call as it read before'; 0 by the template 'total and deterministic' (their statements: YtpjcicbohgcehaaTotals.lean).
  GIVEN WITH THE SEED: the statements are not yours to turn. If you find one false, say at which input.
  Laid BY PROGRAM, IN A SANDBOX (cutbox-rows.mjs): the forced cells as the released guide's own fill.sh prints them over the translation 19f7658370a14e3d… (all of the seat's roots in one cut). By AI agents, Wed Nov 11 2026. No macro, syntax, notation, axiom, sorry.
-/
import Derived.Test.YtpjcicbohgcehaaChecked
import GoSem.Claim
import GoSem.ClaimJoined
import GoSem.ClaimMapViews
import Derived.JoinedTies
import Derived.KernelRfl
namespace Go.Proofs.Ytpjcicbohgcehaa
/- THE CELL 'sum', in the pinned program and in every row, IS THE sha256 OF THE DUMP (.gsa) THAT YtpjcicbohgcehaaProg.lean LOADS. Nothing in Lean hashes anything: it is a label: what it is worth is what the hold of that sum in a sandbox is worth. -/
noncomputable def Try.pinned : Pinned := { name := "ytpjcicbohgcehaa", sum := "19f7658370a14e3dac76992f2728c9734a9a884826d89dad3f15e24ce6f59665", checked := Try.checked }
namespace Rows
def none {H : Type} : Left H := { results := [], args := [] }

/-- 'bailiwicklaw15.ShareRanks': WHATEVER THE INPUT: true; the input reads as it did. -/
def shareRanksSpec : ChangeSpec := { name := "shareRanks", fn := fun _ => fun
  | [d1, d2] => { results := [.lit (.bool true)], args := [d1, d2] }
  | _ => none }
def shareRanksRow : OpenClaim := { program := "ytpjcicbohgcehaa", sum := "19f7658370a14e3dac76992f2728c9734a9a884826d89dad3f15e24ce6f59665", func := "bailiwick/bailiwicklaw15.ShareRanks", spec := "shareRanks", inPlace := ["math.Float64bits", "math.Float64frombits"], unfollowed := true, recurses := true, apart := false }
def ShareRanksSaid : Prop := shareRanksRow.holds Try.pinned (OpenSpec.ofChange shareRanksSpec)

/-- ITS FALSE NEIGHBOUR: 'it returns false'. Refute it at one input. -/
def shareRanksWrong : ChangeSpec := { name := "shareRanks", fn := fun _ => fun
  | [d1, d2] => { results := [.lit (.bool false)], args := [d1, d2] }
  | _ => none }
def ShareRanksWrongFalsely : Prop := shareRanksRow.holds Try.pinned (OpenSpec.ofChange shareRanksWrong)

/-- 'bailiwicklaw15.ShareOrder': WHATEVER THE INPUT: true; the input reads as it did. -/
def shareOrderSpec : ChangeSpec := { name := "shareOrder", fn := fun _ => fun
  | [d] => { results := [.lit (.bool true)], args := [d] }
  | _ => none }
def shareOrderRow : OpenClaim := { program := "ytpjcicbohgcehaa", sum := "19f7658370a14e3dac76992f2728c9734a9a884826d89dad3f15e24ce6f59665", func := "bailiwick/bailiwicklaw15.ShareOrder", spec := "shareOrder", inPlace := ["math.Float64bits", "math.Float64frombits"], unfollowed := true, recurses := true, apart := false }
def ShareOrderSaid : Prop := shareOrderRow.holds Try.pinned (OpenSpec.ofChange shareOrderSpec)

/-- ITS FALSE NEIGHBOUR: 'it returns false'. Refute it at one input. -/
def shareOrderWrong : ChangeSpec := { name := "shareOrder", fn := fun _ => fun
  | [d] => { results := [.lit (.bool false)], args := [d] }
  | _ => none }
def ShareOrderWrongFalsely : Prop := shareOrderRow.holds Try.pinned (OpenSpec.ofChange shareOrderWrong)

/-- 'bailiwicklaw15.ShareScales': WHATEVER THE INPUT: true; the input reads as it did. -/
def shareScalesSpec : ChangeSpec := { name := "shareScales", fn := fun _ => fun
  | [d1, d2, d3, d4, d5] => { results := [.lit (.bool true)], args := [d1, d2, d3, d4, d5] }
  | _ => none }
def shareScalesRow : OpenClaim := { program := "ytpjcicbohgcehaa", sum := "19f7658370a14e3dac76992f2728c9734a9a884826d89dad3f15e24ce6f59665", func := "bailiwick/bailiwicklaw15.ShareScales", spec := "shareScales", inPlace := ["math.Float64bits", "math.Float64frombits"], unfollowed := true, recurses := true, apart := false }
def ShareScalesSaid : Prop := shareScalesRow.holds Try.pinned (OpenSpec.ofChange shareScalesSpec)

/-- ITS FALSE NEIGHBOUR: 'it returns false'. Refute it at one input. -/
def shareScalesWrong : ChangeSpec := { name := "shareScales", fn := fun _ => fun
  | [d1, d2, d3, d4, d5] => { results := [.lit (.bool false)], args := [d1, d2, d3, d4, d5] }
  | _ => none }
def ShareScalesWrongFalsely : Prop := shareScalesRow.holds Try.pinned (OpenSpec.ofChange shareScalesWrong)

/-- 'bailiwicklaw15.ShareRight': WHATEVER THE INPUT: true; the input reads as it did. -/
def shareRightSpec : ChangeSpec := { name := "shareRight", fn := fun _ => fun
  | [d1, d2, d3, d4] => { results := [.lit (.bool true)], args := [d1, d2, d3, d4] }
  | _ => none }
def shareRightRow : OpenClaim := { program := "ytpjcicbohgcehaa", sum := "19f7658370a14e3dac76992f2728c9734a9a884826d89dad3f15e24ce6f59665", func := "bailiwick/bailiwicklaw15.ShareRight", spec := "shareRight", inPlace := ["math.Float64bits", "math.Float64frombits"], unfollowed := true, recurses := true, apart := false }
def ShareRightSaid : Prop := shareRightRow.holds Try.pinned (OpenSpec.ofChange shareRightSpec)

/-- ITS FALSE NEIGHBOUR: 'it returns false'. Refute it at one input. -/
def shareRightWrong : ChangeSpec := { name := "shareRight", fn := fun _ => fun
  | [d1, d2, d3, d4] => { results := [.lit (.bool false)], args := [d1, d2, d3, d4] }
  | _ => none }
def ShareRightWrongFalsely : Prop := shareRightRow.holds Try.pinned (OpenSpec.ofChange shareRightWrong)

/-- 'bailiwicklaw15.ShareFades': WHATEVER THE INPUT: true; the input reads as it did. -/
def shareFadesSpec : ChangeSpec := { name := "shareFades", fn := fun _ => fun
  | [d1, d2, d3, d4] => { results := [.lit (.bool true)], args := [d1, d2, d3, d4] }
  | _ => none }
def shareFadesRow : OpenClaim := { program := "ytpjcicbohgcehaa", sum := "19f7658370a14e3dac76992f2728c9734a9a884826d89dad3f15e24ce6f59665", func := "bailiwick/bailiwicklaw15.ShareFades", spec := "shareFades", inPlace := ["math.Float64bits", "math.Float64frombits"], unfollowed := true, recurses := true, apart := false }
def ShareFadesSaid : Prop := shareFadesRow.holds Try.pinned (OpenSpec.ofChange shareFadesSpec)

/-- ITS FALSE NEIGHBOUR: 'it returns false'. Refute it at one input. -/
def shareFadesWrong : ChangeSpec := { name := "shareFades", fn := fun _ => fun
  | [d1, d2, d3, d4] => { results := [.lit (.bool false)], args := [d1, d2, d3, d4] }
  | _ => none }
def ShareFadesWrongFalsely : Prop := shareFadesRow.holds Try.pinned (OpenSpec.ofChange shareFadesWrong)

/- THE SECOND FORM. 'bulk': how many values and letters a reading holds, each counted each time it is reached (what is shared counts as often as it is met; a slice's spare places count too). A statement '..UptoSaid' is the law's where the arguments, and the package variables that the reading takes, are together of bulk at most 1048576: NARROWER than '..Said'. Prove '..Said' where nothing that the law and all that it calls make is longer than what came in: it says more and counts as full. Else prove '..UptoSaid'. A law counts once. -/
mutual
def uptoBulk {H : Type} : DataW H → Nat
  | .lit (.string bytes) => bytes.length + 1
  | .lit _ => 1
  | .nil => 1
  | .ptr d => uptoBulk d + 1
  | .slice elems spare => uptoBulkAll elems + uptoBulkAll spare + 1
  | .agg parts => uptoBulkAll parts + 1
  | .iface _ d => uptoBulk d + 1
  | .map entries => uptoBulkEntries entries + 1
  | .held _ => 1
def uptoBulkAll {H : Type} : List (DataW H) → Nat
  | [] => 0
  | d :: r => uptoBulk d + uptoBulkAll r
def uptoBulkEntries {H : Type} : List (Lit × DataW H) → Nat
  | [] => 0
  | x :: r => uptoBulkEntry x + uptoBulkEntries r
def uptoBulkEntry {H : Type} : Lit × DataW H → Nat
  | (.string bytes, d) => bytes.length + uptoBulk d + 1
  | (_, d) => uptoBulk d + 1
 end
def uptoSmall : (H : Type) → List (DataW H) → Bool := fun _ ds => decide (uptoBulkAll ds ≤ 1048576)
def OpenSpec.upto (s : _root_.Go.ChangeSpec) : _root_.Go.OpenSpec := { _root_.Go.OpenSpec.ofChange s with cond := some uptoSmall }

/-- 'bailiwicklaw15.ShareRanks', WHERE WHAT IT READS IS OF BULK AT MOST 1048576: true; the input reads as it did. -/
def shareRanksUptoRow : OpenClaim := { program := "ytpjcicbohgcehaa", sum := "19f7658370a14e3dac76992f2728c9734a9a884826d89dad3f15e24ce6f59665", func := "bailiwick/bailiwicklaw15.ShareRanks", spec := "shareRanks", inPlace := ["math.Float64bits", "math.Float64frombits"], unfollowed := true, recurses := true, apart := false, narrowed := true }
def ShareRanksUptoSaid : Prop := shareRanksUptoRow.holds Try.pinned (OpenSpec.upto shareRanksSpec)

/-- 'bailiwicklaw15.ShareOrder', WHERE WHAT IT READS IS OF BULK AT MOST 1048576: true; the input reads as it did. -/
def shareOrderUptoRow : OpenClaim := { program := "ytpjcicbohgcehaa", sum := "19f7658370a14e3dac76992f2728c9734a9a884826d89dad3f15e24ce6f59665", func := "bailiwick/bailiwicklaw15.ShareOrder", spec := "shareOrder", inPlace := ["math.Float64bits", "math.Float64frombits"], unfollowed := true, recurses := true, apart := false, narrowed := true }
def ShareOrderUptoSaid : Prop := shareOrderUptoRow.holds Try.pinned (OpenSpec.upto shareOrderSpec)

/-- 'bailiwicklaw15.ShareScales', WHERE WHAT IT READS IS OF BULK AT MOST 1048576: true; the input reads as it did. -/
def shareScalesUptoRow : OpenClaim := { program := "ytpjcicbohgcehaa", sum := "19f7658370a14e3dac76992f2728c9734a9a884826d89dad3f15e24ce6f59665", func := "bailiwick/bailiwicklaw15.ShareScales", spec := "shareScales", inPlace := ["math.Float64bits", "math.Float64frombits"], unfollowed := true, recurses := true, apart := false, narrowed := true }
def ShareScalesUptoSaid : Prop := shareScalesUptoRow.holds Try.pinned (OpenSpec.upto shareScalesSpec)

/-- 'bailiwicklaw15.ShareRight', WHERE WHAT IT READS IS OF BULK AT MOST 1048576: true; the input reads as it did. -/
def shareRightUptoRow : OpenClaim := { program := "ytpjcicbohgcehaa", sum := "19f7658370a14e3dac76992f2728c9734a9a884826d89dad3f15e24ce6f59665", func := "bailiwick/bailiwicklaw15.ShareRight", spec := "shareRight", inPlace := ["math.Float64bits", "math.Float64frombits"], unfollowed := true, recurses := true, apart := false, narrowed := true }
def ShareRightUptoSaid : Prop := shareRightUptoRow.holds Try.pinned (OpenSpec.upto shareRightSpec)

/-- 'bailiwicklaw15.ShareFades', WHERE WHAT IT READS IS OF BULK AT MOST 1048576: true; the input reads as it did. -/
def shareFadesUptoRow : OpenClaim := { program := "ytpjcicbohgcehaa", sum := "19f7658370a14e3dac76992f2728c9734a9a884826d89dad3f15e24ce6f59665", func := "bailiwick/bailiwicklaw15.ShareFades", spec := "shareFades", inPlace := ["math.Float64bits", "math.Float64frombits"], unfollowed := true, recurses := true, apart := false, narrowed := true }
def ShareFadesUptoSaid : Prop := shareFadesUptoRow.holds Try.pinned (OpenSpec.upto shareFadesSpec)

end Rows
end Go.Proofs.Ytpjcicbohgcehaa
