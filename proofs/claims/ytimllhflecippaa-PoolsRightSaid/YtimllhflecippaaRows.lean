/-
  No cell of these rows narrows 'for every input' (looked for: loops, veiled, ifaces, maps, wideKeys, modest, calm, conditions, laid).
  DERIVED. THE GIVEN ROWS OF THIS SEAT. 11 by the template 'for every input the law returns true; each argument reads behind the call as it read before'; 0 by the template 'total and deterministic' (their statements: YtimllhflecippaaTotals.lean).
  GIVEN WITH THE SEED: the statements are not yours to turn. If you find one false, say at which input.
  Laid BY PROGRAM, IN A SANDBOX (cutbox-rows.mjs): the forced cells as the released guide's own fill.sh prints them over the translation b36d279e71833ae7… (all of the seat's roots in one cut). By AI agents, Wed Nov 11 2026. No macro, syntax, notation, axiom, sorry.
-/
import Derived.Test.YtimllhflecippaaChecked
import GoSem.Claim
import GoSem.ClaimJoined
import GoSem.ClaimMapViews
import Derived.JoinedTies
import Derived.KernelRfl
namespace Go.Proofs.Ytimllhflecippaa
/- THE CELL 'sum', in the pinned program and in every row, IS THE sha256 OF THE DUMP (.gsa) THAT YtimllhflecippaaProg.lean LOADS. Nothing in Lean hashes anything: it is a label: what it is worth is what the hold of that sum in a sandbox is worth. -/
noncomputable def Try.pinned : Pinned := { name := "ytimllhflecippaa", sum := "b36d279e71833ae747abb3f24b473c48bf8c18ad631730d8c150a6d495ca67ff", checked := Try.checked }
namespace Rows
def none {H : Type} : Left H := { results := [], args := [] }

/-- 'bailiwicklaw03.StepFirst': WHATEVER THE INPUT: true; the input reads as it did. -/
def stepFirstSpec : ChangeSpec := { name := "stepFirst", fn := fun _ => fun
  | [d1, d2, d3, d4] => { results := [.lit (.bool true)], args := [d1, d2, d3, d4] }
  | _ => none }
def stepFirstRow : OpenClaim := { program := "ytimllhflecippaa", sum := "b36d279e71833ae747abb3f24b473c48bf8c18ad631730d8c150a6d495ca67ff", func := "bailiwick/bailiwicklaw03.StepFirst", spec := "stepFirst", unfollowed := true, recurses := true, apart := false }
def StepFirstSaid : Prop := stepFirstRow.holds Try.pinned (OpenSpec.ofChange stepFirstSpec)

/-- ITS FALSE NEIGHBOUR: 'it returns false'. Refute it at one input. -/
def stepFirstWrong : ChangeSpec := { name := "stepFirst", fn := fun _ => fun
  | [d1, d2, d3, d4] => { results := [.lit (.bool false)], args := [d1, d2, d3, d4] }
  | _ => none }
def StepFirstWrongFalsely : Prop := stepFirstRow.holds Try.pinned (OpenSpec.ofChange stepFirstWrong)

/-- 'bailiwicklaw03.StepHolds': WHATEVER THE INPUT: true; the input reads as it did. -/
def stepHoldsSpec : ChangeSpec := { name := "stepHolds", fn := fun _ => fun
  | [d1, d2, d3, d4, d5] => { results := [.lit (.bool true)], args := [d1, d2, d3, d4, d5] }
  | _ => none }
def stepHoldsRow : OpenClaim := { program := "ytimllhflecippaa", sum := "b36d279e71833ae747abb3f24b473c48bf8c18ad631730d8c150a6d495ca67ff", func := "bailiwick/bailiwicklaw03.StepHolds", spec := "stepHolds", unfollowed := true, recurses := true, apart := false }
def StepHoldsSaid : Prop := stepHoldsRow.holds Try.pinned (OpenSpec.ofChange stepHoldsSpec)

/-- ITS FALSE NEIGHBOUR: 'it returns false'. Refute it at one input. -/
def stepHoldsWrong : ChangeSpec := { name := "stepHolds", fn := fun _ => fun
  | [d1, d2, d3, d4, d5] => { results := [.lit (.bool false)], args := [d1, d2, d3, d4, d5] }
  | _ => none }
def StepHoldsWrongFalsely : Prop := stepHoldsRow.holds Try.pinned (OpenSpec.ofChange stepHoldsWrong)

/-- 'bailiwicklaw03.StepTwice': WHATEVER THE INPUT: true; the input reads as it did. -/
def stepTwiceSpec : ChangeSpec := { name := "stepTwice", fn := fun _ => fun
  | [d1, d2, d3, d4, d5, d6] => { results := [.lit (.bool true)], args := [d1, d2, d3, d4, d5, d6] }
  | _ => none }
def stepTwiceRow : OpenClaim := { program := "ytimllhflecippaa", sum := "b36d279e71833ae747abb3f24b473c48bf8c18ad631730d8c150a6d495ca67ff", func := "bailiwick/bailiwicklaw03.StepTwice", spec := "stepTwice", unfollowed := true, recurses := true, apart := false }
def StepTwiceSaid : Prop := stepTwiceRow.holds Try.pinned (OpenSpec.ofChange stepTwiceSpec)

/-- ITS FALSE NEIGHBOUR: 'it returns false'. Refute it at one input. -/
def stepTwiceWrong : ChangeSpec := { name := "stepTwice", fn := fun _ => fun
  | [d1, d2, d3, d4, d5, d6] => { results := [.lit (.bool false)], args := [d1, d2, d3, d4, d5, d6] }
  | _ => none }
def StepTwiceWrongFalsely : Prop := stepTwiceRow.holds Try.pinned (OpenSpec.ofChange stepTwiceWrong)

/-- 'bailiwicklaw03.StepRight': WHATEVER THE INPUT: true; the input reads as it did. -/
def stepRightSpec : ChangeSpec := { name := "stepRight", fn := fun _ => fun
  | [d1, d2, d3, d4] => { results := [.lit (.bool true)], args := [d1, d2, d3, d4] }
  | _ => none }
def stepRightRow : OpenClaim := { program := "ytimllhflecippaa", sum := "b36d279e71833ae747abb3f24b473c48bf8c18ad631730d8c150a6d495ca67ff", func := "bailiwick/bailiwicklaw03.StepRight", spec := "stepRight", unfollowed := true, recurses := true, apart := false }
def StepRightSaid : Prop := stepRightRow.holds Try.pinned (OpenSpec.ofChange stepRightSpec)

/-- ITS FALSE NEIGHBOUR: 'it returns false'. Refute it at one input. -/
def stepRightWrong : ChangeSpec := { name := "stepRight", fn := fun _ => fun
  | [d1, d2, d3, d4] => { results := [.lit (.bool false)], args := [d1, d2, d3, d4] }
  | _ => none }
def StepRightWrongFalsely : Prop := stepRightRow.holds Try.pinned (OpenSpec.ofChange stepRightWrong)

/-- 'bailiwicklaw03.StepTakes': WHATEVER THE INPUT: true; the input reads as it did. -/
def stepTakesSpec : ChangeSpec := { name := "stepTakes", fn := fun _ => fun
  | [d1, d2, d3, d4, d5] => { results := [.lit (.bool true)], args := [d1, d2, d3, d4, d5] }
  | _ => none }
def stepTakesRow : OpenClaim := { program := "ytimllhflecippaa", sum := "b36d279e71833ae747abb3f24b473c48bf8c18ad631730d8c150a6d495ca67ff", func := "bailiwick/bailiwicklaw03.StepTakes", spec := "stepTakes", unfollowed := true, recurses := true, apart := false }
def StepTakesSaid : Prop := stepTakesRow.holds Try.pinned (OpenSpec.ofChange stepTakesSpec)

/-- ITS FALSE NEIGHBOUR: 'it returns false'. Refute it at one input. -/
def stepTakesWrong : ChangeSpec := { name := "stepTakes", fn := fun _ => fun
  | [d1, d2, d3, d4, d5] => { results := [.lit (.bool false)], args := [d1, d2, d3, d4, d5] }
  | _ => none }
def StepTakesWrongFalsely : Prop := stepTakesRow.holds Try.pinned (OpenSpec.ofChange stepTakesWrong)

/-- 'bailiwicklaw04.PoolsNew': WHATEVER THE INPUT: true; the input reads as it did. -/
def poolsNewSpec : ChangeSpec := { name := "poolsNew", fn := fun _ => fun
  | [d1, d2] => { results := [.lit (.bool true)], args := [d1, d2] }
  | _ => none }
def poolsNewRow : OpenClaim := { program := "ytimllhflecippaa", sum := "b36d279e71833ae747abb3f24b473c48bf8c18ad631730d8c150a6d495ca67ff", func := "bailiwick/bailiwicklaw04.PoolsNew", spec := "poolsNew", unfollowed := true, recurses := true, apart := false }
def PoolsNewSaid : Prop := poolsNewRow.holds Try.pinned (OpenSpec.ofChange poolsNewSpec)

/-- ITS FALSE NEIGHBOUR: 'it returns false'. Refute it at one input. -/
def poolsNewWrong : ChangeSpec := { name := "poolsNew", fn := fun _ => fun
  | [d1, d2] => { results := [.lit (.bool false)], args := [d1, d2] }
  | _ => none }
def PoolsNewWrongFalsely : Prop := poolsNewRow.holds Try.pinned (OpenSpec.ofChange poolsNewWrong)

/-- 'bailiwicklaw04.PoolsSeeks': WHATEVER THE INPUT: true; the input reads as it did. -/
def poolsSeeksSpec : ChangeSpec := { name := "poolsSeeks", fn := fun _ => fun
  | [d1, d2, d3, d4] => { results := [.lit (.bool true)], args := [d1, d2, d3, d4] }
  | _ => none }
def poolsSeeksRow : OpenClaim := { program := "ytimllhflecippaa", sum := "b36d279e71833ae747abb3f24b473c48bf8c18ad631730d8c150a6d495ca67ff", func := "bailiwick/bailiwicklaw04.PoolsSeeks", spec := "poolsSeeks", unfollowed := true, recurses := true, apart := false }
def PoolsSeeksSaid : Prop := poolsSeeksRow.holds Try.pinned (OpenSpec.ofChange poolsSeeksSpec)

/-- ITS FALSE NEIGHBOUR: 'it returns false'. Refute it at one input. -/
def poolsSeeksWrong : ChangeSpec := { name := "poolsSeeks", fn := fun _ => fun
  | [d1, d2, d3, d4] => { results := [.lit (.bool false)], args := [d1, d2, d3, d4] }
  | _ => none }
def PoolsSeeksWrongFalsely : Prop := poolsSeeksRow.holds Try.pinned (OpenSpec.ofChange poolsSeeksWrong)

/-- 'bailiwicklaw04.PoolsOne': WHATEVER THE INPUT: true; the input reads as it did. -/
def poolsOneSpec : ChangeSpec := { name := "poolsOne", fn := fun _ => fun
  | [d1, d2, d3, d4] => { results := [.lit (.bool true)], args := [d1, d2, d3, d4] }
  | _ => none }
def poolsOneRow : OpenClaim := { program := "ytimllhflecippaa", sum := "b36d279e71833ae747abb3f24b473c48bf8c18ad631730d8c150a6d495ca67ff", func := "bailiwick/bailiwicklaw04.PoolsOne", spec := "poolsOne", unfollowed := true, recurses := true, apart := false }
def PoolsOneSaid : Prop := poolsOneRow.holds Try.pinned (OpenSpec.ofChange poolsOneSpec)

/-- ITS FALSE NEIGHBOUR: 'it returns false'. Refute it at one input. -/
def poolsOneWrong : ChangeSpec := { name := "poolsOne", fn := fun _ => fun
  | [d1, d2, d3, d4] => { results := [.lit (.bool false)], args := [d1, d2, d3, d4] }
  | _ => none }
def PoolsOneWrongFalsely : Prop := poolsOneRow.holds Try.pinned (OpenSpec.ofChange poolsOneWrong)

/-- 'bailiwicklaw04.PoolsRight': WHATEVER THE INPUT: true; the input reads as it did. -/
def poolsRightSpec : ChangeSpec := { name := "poolsRight", fn := fun _ => fun
  | [d1, d2, d3, d4] => { results := [.lit (.bool true)], args := [d1, d2, d3, d4] }
  | _ => none }
def poolsRightRow : OpenClaim := { program := "ytimllhflecippaa", sum := "b36d279e71833ae747abb3f24b473c48bf8c18ad631730d8c150a6d495ca67ff", func := "bailiwick/bailiwicklaw04.PoolsRight", spec := "poolsRight", unfollowed := true, recurses := true, apart := false }
def PoolsRightSaid : Prop := poolsRightRow.holds Try.pinned (OpenSpec.ofChange poolsRightSpec)

/-- ITS FALSE NEIGHBOUR: 'it returns false'. Refute it at one input. -/
def poolsRightWrong : ChangeSpec := { name := "poolsRight", fn := fun _ => fun
  | [d1, d2, d3, d4] => { results := [.lit (.bool false)], args := [d1, d2, d3, d4] }
  | _ => none }
def PoolsRightWrongFalsely : Prop := poolsRightRow.holds Try.pinned (OpenSpec.ofChange poolsRightWrong)

/-- 'bailiwicklaw04.PoolsFirst': WHATEVER THE INPUT: true; the input reads as it did. -/
def poolsFirstSpec : ChangeSpec := { name := "poolsFirst", fn := fun _ => fun
  | [d1, d2, d3, d4, d5] => { results := [.lit (.bool true)], args := [d1, d2, d3, d4, d5] }
  | _ => none }
def poolsFirstRow : OpenClaim := { program := "ytimllhflecippaa", sum := "b36d279e71833ae747abb3f24b473c48bf8c18ad631730d8c150a6d495ca67ff", func := "bailiwick/bailiwicklaw04.PoolsFirst", spec := "poolsFirst", unfollowed := true, recurses := true, apart := false }
def PoolsFirstSaid : Prop := poolsFirstRow.holds Try.pinned (OpenSpec.ofChange poolsFirstSpec)

/-- ITS FALSE NEIGHBOUR: 'it returns false'. Refute it at one input. -/
def poolsFirstWrong : ChangeSpec := { name := "poolsFirst", fn := fun _ => fun
  | [d1, d2, d3, d4, d5] => { results := [.lit (.bool false)], args := [d1, d2, d3, d4, d5] }
  | _ => none }
def PoolsFirstWrongFalsely : Prop := poolsFirstRow.holds Try.pinned (OpenSpec.ofChange poolsFirstWrong)

/-- 'bailiwicklaw04.PoolsBack': WHATEVER THE INPUT: true; the input reads as it did. -/
def poolsBackSpec : ChangeSpec := { name := "poolsBack", fn := fun _ => fun
  | [d1, d2, d3, d4, d5] => { results := [.lit (.bool true)], args := [d1, d2, d3, d4, d5] }
  | _ => none }
def poolsBackRow : OpenClaim := { program := "ytimllhflecippaa", sum := "b36d279e71833ae747abb3f24b473c48bf8c18ad631730d8c150a6d495ca67ff", func := "bailiwick/bailiwicklaw04.PoolsBack", spec := "poolsBack", unfollowed := true, recurses := true, apart := false }
def PoolsBackSaid : Prop := poolsBackRow.holds Try.pinned (OpenSpec.ofChange poolsBackSpec)

/-- ITS FALSE NEIGHBOUR: 'it returns false'. Refute it at one input. -/
def poolsBackWrong : ChangeSpec := { name := "poolsBack", fn := fun _ => fun
  | [d1, d2, d3, d4, d5] => { results := [.lit (.bool false)], args := [d1, d2, d3, d4, d5] }
  | _ => none }
def PoolsBackWrongFalsely : Prop := poolsBackRow.holds Try.pinned (OpenSpec.ofChange poolsBackWrong)

/- THE SECOND FORM. 'bulk': how many values and letters a reading holds, each counted each time it is reached (what is shared counts as often as it is met; a slice's spare places count too). A statement '..UptoSaid' is the law's where the arguments, and the package variables that the reading takes, are together of bulk at most 1048576: NARROWER than '..Said'. Prove '..Said' where nothing that the law and all that it calls make is longer than what came in: it says more and counts as full. Else prove '..UptoSaid'. A law counts once. -/
mutual
def uptoBulk {H : Type} : DataW H → Nat
  | .lit (.string bytes) => bytes.length + 1
  | .lit _ => 1
  | .nil => 1
  | .ptr d => uptoBulk d + 1
  | .slice elems spare => uptoBulkAll elems + uptoBulkAll spare + 1
  | .agg parts => uptoBulkAll parts + 1
  | .iface _ d => uptoBulk d + 1
  | .map entries => uptoBulkEntries entries + 1
  | .held _ => 1
def uptoBulkAll {H : Type} : List (DataW H) → Nat
  | [] => 0
  | d :: r => uptoBulk d + uptoBulkAll r
def uptoBulkEntries {H : Type} : List (Lit × DataW H) → Nat
  | [] => 0
  | x :: r => uptoBulkEntry x + uptoBulkEntries r
def uptoBulkEntry {H : Type} : Lit × DataW H → Nat
  | (.string bytes, d) => bytes.length + uptoBulk d + 1
  | (_, d) => uptoBulk d + 1
 end
def uptoSmall : (H : Type) → List (DataW H) → Bool := fun _ ds => decide (uptoBulkAll ds ≤ 1048576)
def OpenSpec.upto (s : _root_.Go.ChangeSpec) : _root_.Go.OpenSpec := { _root_.Go.OpenSpec.ofChange s with cond := some uptoSmall }

/-- 'bailiwicklaw03.StepFirst', WHERE WHAT IT READS IS OF BULK AT MOST 1048576: true; the input reads as it did. -/
def stepFirstUptoRow : OpenClaim := { program := "ytimllhflecippaa", sum := "b36d279e71833ae747abb3f24b473c48bf8c18ad631730d8c150a6d495ca67ff", func := "bailiwick/bailiwicklaw03.StepFirst", spec := "stepFirst", unfollowed := true, recurses := true, apart := false, narrowed := true }
def StepFirstUptoSaid : Prop := stepFirstUptoRow.holds Try.pinned (OpenSpec.upto stepFirstSpec)

/-- 'bailiwicklaw03.StepHolds', WHERE WHAT IT READS IS OF BULK AT MOST 1048576: true; the input reads as it did. -/
def stepHoldsUptoRow : OpenClaim := { program := "ytimllhflecippaa", sum := "b36d279e71833ae747abb3f24b473c48bf8c18ad631730d8c150a6d495ca67ff", func := "bailiwick/bailiwicklaw03.StepHolds", spec := "stepHolds", unfollowed := true, recurses := true, apart := false, narrowed := true }
def StepHoldsUptoSaid : Prop := stepHoldsUptoRow.holds Try.pinned (OpenSpec.upto stepHoldsSpec)

/-- 'bailiwicklaw03.StepTwice', WHERE WHAT IT READS IS OF BULK AT MOST 1048576: true; the input reads as it did. -/
def stepTwiceUptoRow : OpenClaim := { program := "ytimllhflecippaa", sum := "b36d279e71833ae747abb3f24b473c48bf8c18ad631730d8c150a6d495ca67ff", func := "bailiwick/bailiwicklaw03.StepTwice", spec := "stepTwice", unfollowed := true, recurses := true, apart := false, narrowed := true }
def StepTwiceUptoSaid : Prop := stepTwiceUptoRow.holds Try.pinned (OpenSpec.upto stepTwiceSpec)

/-- 'bailiwicklaw03.StepRight', WHERE WHAT IT READS IS OF BULK AT MOST 1048576: true; the input reads as it did. -/
def stepRightUptoRow : OpenClaim := { program := "ytimllhflecippaa", sum := "b36d279e71833ae747abb3f24b473c48bf8c18ad631730d8c150a6d495ca67ff", func := "bailiwick/bailiwicklaw03.StepRight", spec := "stepRight", unfollowed := true, recurses := true, apart := false, narrowed := true }
def StepRightUptoSaid : Prop := stepRightUptoRow.holds Try.pinned (OpenSpec.upto stepRightSpec)

/-- 'bailiwicklaw03.StepTakes', WHERE WHAT IT READS IS OF BULK AT MOST 1048576: true; the input reads as it did. -/
def stepTakesUptoRow : OpenClaim := { program := "ytimllhflecippaa", sum := "b36d279e71833ae747abb3f24b473c48bf8c18ad631730d8c150a6d495ca67ff", func := "bailiwick/bailiwicklaw03.StepTakes", spec := "stepTakes", unfollowed := true, recurses := true, apart := false, narrowed := true }
def StepTakesUptoSaid : Prop := stepTakesUptoRow.holds Try.pinned (OpenSpec.upto stepTakesSpec)

/-- 'bailiwicklaw04.PoolsNew', WHERE WHAT IT READS IS OF BULK AT MOST 1048576: true; the input reads as it did. -/
def poolsNewUptoRow : OpenClaim := { program := "ytimllhflecippaa", sum := "b36d279e71833ae747abb3f24b473c48bf8c18ad631730d8c150a6d495ca67ff", func := "bailiwick/bailiwicklaw04.PoolsNew", spec := "poolsNew", unfollowed := true, recurses := true, apart := false, narrowed := true }
def PoolsNewUptoSaid : Prop := poolsNewUptoRow.holds Try.pinned (OpenSpec.upto poolsNewSpec)

/-- 'bailiwicklaw04.PoolsSeeks', WHERE WHAT IT READS IS OF BULK AT MOST 1048576: true; the input reads as it did. -/
def poolsSeeksUptoRow : OpenClaim := { program := "ytimllhflecippaa", sum := "b36d279e71833ae747abb3f24b473c48bf8c18ad631730d8c150a6d495ca67ff", func := "bailiwick/bailiwicklaw04.PoolsSeeks", spec := "poolsSeeks", unfollowed := true, recurses := true, apart := false, narrowed := true }
def PoolsSeeksUptoSaid : Prop := poolsSeeksUptoRow.holds Try.pinned (OpenSpec.upto poolsSeeksSpec)

/-- 'bailiwicklaw04.PoolsOne', WHERE WHAT IT READS IS OF BULK AT MOST 1048576: true; the input reads as it did. -/
def poolsOneUptoRow : OpenClaim := { program := "ytimllhflecippaa", sum := "b36d279e71833ae747abb3f24b473c48bf8c18ad631730d8c150a6d495ca67ff", func := "bailiwick/bailiwicklaw04.PoolsOne", spec := "poolsOne", unfollowed := true, recurses := true, apart := false, narrowed := true }
def PoolsOneUptoSaid : Prop := poolsOneUptoRow.holds Try.pinned (OpenSpec.upto poolsOneSpec)

/-- 'bailiwicklaw04.PoolsRight', WHERE WHAT IT READS IS OF BULK AT MOST 1048576: true; the input reads as it did. -/
def poolsRightUptoRow : OpenClaim := { program := "ytimllhflecippaa", sum := "b36d279e71833ae747abb3f24b473c48bf8c18ad631730d8c150a6d495ca67ff", func := "bailiwick/bailiwicklaw04.PoolsRight", spec := "poolsRight", unfollowed := true, recurses := true, apart := false, narrowed := true }
def PoolsRightUptoSaid : Prop := poolsRightUptoRow.holds Try.pinned (OpenSpec.upto poolsRightSpec)

/-- 'bailiwicklaw04.PoolsFirst', WHERE WHAT IT READS IS OF BULK AT MOST 1048576: true; the input reads as it did. -/
def poolsFirstUptoRow : OpenClaim := { program := "ytimllhflecippaa", sum := "b36d279e71833ae747abb3f24b473c48bf8c18ad631730d8c150a6d495ca67ff", func := "bailiwick/bailiwicklaw04.PoolsFirst", spec := "poolsFirst", unfollowed := true, recurses := true, apart := false, narrowed := true }
def PoolsFirstUptoSaid : Prop := poolsFirstUptoRow.holds Try.pinned (OpenSpec.upto poolsFirstSpec)

/-- 'bailiwicklaw04.PoolsBack', WHERE WHAT IT READS IS OF BULK AT MOST 1048576: true; the input reads as it did. -/
def poolsBackUptoRow : OpenClaim := { program := "ytimllhflecippaa", sum := "b36d279e71833ae747abb3f24b473c48bf8c18ad631730d8c150a6d495ca67ff", func := "bailiwick/bailiwicklaw04.PoolsBack", spec := "poolsBack", unfollowed := true, recurses := true, apart := false, narrowed := true }
def PoolsBackUptoSaid : Prop := poolsBackUptoRow.holds Try.pinned (OpenSpec.upto poolsBackSpec)

end Rows
end Go.Proofs.Ytimllhflecippaa
