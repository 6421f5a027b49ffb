/- Specs: spec.Right; match.may; the reference's. -/
import Derived.Test.YtfcojlagmmgagaaDoorGrK
import Derived.Test.YtfcojlagmmgagaaDoorReC
import Derived.Test.YtfcojlagmmgagaaDoorAbV
namespace Go.Proofs.YtfcojlagmmgagaaDoor.Ab
open Go.RowKit
set_option linter.unusedVariables false
set_option linter.unusedSimpArgs false

structure Spec where
  nodes : Int
  cores : Int
  gpus : Int
  tag : ByteArray
  whole : Bool
  long : Int
  prio : Int
  deriving Inhabited
def specCells (s : Spec) : List SV := [iv s.nodes, iv s.cores, iv s.gpus, sv' s.tag, bv s.whole, iv s.long, iv s.prio]
def specSV (s : Spec) : SV := .agg (specCells s)
attribute [go_sem] specSV specCells
def SpecOk (s : Spec) : Prop := (Lit.int .i64 s.nodes).wf = true ∧ (Lit.int .i64 s.cores).wf = true ∧ (Lit.int .i64 s.gpus).wf = true ∧ s.tag.size ≤ 140737488351232 ∧ (Lit.int .i64 s.long).wf = true ∧ (Lit.int .i64 s.prio).wf = true
theorem SpecOk_mk {p : Int × Int × Int × ByteArray × Bool × Int × Int × Unit} (h : (Lit.int .i64 p.1).wf = true ∧ (Lit.int .i64 p.2.1).wf = true ∧ (Lit.int .i64 p.2.2.1).wf = true ∧ p.2.2.2.1.size ≤ 140737488351232 ∧ True ∧ (Lit.int .i64 p.2.2.2.2.2.1).wf = true ∧ (Lit.int .i64 p.2.2.2.2.2.2.1).wf = true ∧ True) :
    SpecOk ⟨p.1, p.2.1, p.2.2.1, p.2.2.2.1, p.2.2.2.2.1, p.2.2.2.2.2.1, p.2.2.2.2.2.2.1⟩ := ⟨h.1, h.2.1, h.2.2.1, h.2.2.2.1, h.2.2.2.2.2.1, h.2.2.2.2.2.2.1⟩
def inR (n a b : Int) : Bool := decide (a ≤ n) && decide (n ≤ b)
theorem within_c (n a b : Int) : ACalls Tryd.prog 66 [iv n, iv a, iv b] (· = .one (.sv (bv (inR n a b)))) := by
  refine ACalls.of_bodyS (fun _ _ => Tryd.call66 _ _) Tryd.func66 rfl Tryd.ntmps66 (by simp) ?_
  refine Tr.ex ?_
  unfold inR
  by_cases h : a ≤ n <;> simp [go_sem, h]
theorem within64_c (n a b : Int) : ACalls Tryd.prog 67 [iv n, iv a, iv b] (· = .one (.sv (bv (inR n a b)))) := by
  refine ACalls.of_bodyS (fun _ _ => Tryd.call67 _ _) Tryd.func67 rfl Tryd.ntmps67 (by simp) ?_
  refine Tr.ex ?_
  unfold inR
  by_cases h : a ≤ n <;> simp [go_sem, h]
/-- Is it a spec that may be asked for? -/
def isSpec (s : Spec) : Bool := (inR s.nodes 1 64 && inR s.cores 0 64 && inR s.gpus 0 64) && (s.whole || decide (0 < s.cores) || decide (0 < s.gpus)) && isTag s.tag && inR s.long 1 1099511627776 && inR s.prio (-1000) 1000
set_option maxHeartbeats 8000000 in
set_option maxRecDepth 100000 in
theorem sRight_c (s : Spec) (hs : s.tag.size ≤ 140737488351232) : ACalls Tryd.prog 26 [specSV s] (· = .one (.sv (bv (isSpec s)))) := by
  refine ACalls.of_bodyS (fun _ _ => Tryd.call26 _ _) Tryd.func26 rfl Tryd.ntmps26 (by simp) ?_
  refine Tr.ex ?_
  unfold isSpec
  cases hw : s.whole <;> by_cases hc : 0 < s.cores <;> by_cases hg : 0 < s.gpus
  all_goals
    simp [go_sem, hw, hc, hg]
    refine OpW.fn true (within_c s.nodes 1 64) rfl rfl (by simp [go_sem]) (by rintro _ r rfl; simp [go_sem]) ?_
    rintro r rfl
    cases h1 : inR s.nodes 1 64 with
    | false => simp [go_sem, hw, hc, hg]
    | true =>
      simp [go_sem, hw, hc, hg]
      refine OpW.fn true (within_c s.cores 0 64) rfl rfl (by simp [go_sem]) (by rintro _ r rfl; simp [go_sem]) ?_
      rintro r rfl
      cases h2 : inR s.cores 0 64 with
      | false => simp [go_sem, hw, hc, hg]
      | true =>
        simp [go_sem, hw, hc, hg]
        refine OpW.fn true (within_c s.gpus 0 64) rfl rfl (by simp [go_sem]) (by rintro _ r rfl; simp [go_sem]) ?_
        rintro r rfl
        cases h3 : inR s.gpus 0 64 with
        | false => simp [go_sem, hw, hc, hg]
        | true =>
          simp [go_sem, hw, hc, hg]
          try
            refine OpW.fn true (Tag_c s.tag (by omega)) rfl rfl (by simp [go_sem]) (by rintro _ r rfl; simp [go_sem]) ?_
            rintro r rfl
            cases h4 : isTag s.tag with
            | false => simp [go_sem]
            | true =>
              simp [go_sem]
              refine OpW.fn true (within64_c s.long 1 1099511627776) rfl rfl (by simp [go_sem]) (by rintro _ r rfl; simp [go_sem]) ?_
              rintro r rfl
              cases h5 : inR s.long 1 1099511627776 with
              | false => simp [go_sem]
              | true =>
                simp [go_sem]
                refine OpW.fn true (within_c s.prio (-1000) 1000) rfl rfl (by simp [go_sem]) (by rintro _ r rfl; simp [go_sem]) ?_
                rintro r rfl
                simp [go_sem]
def mayB (g : List Thing) (free : List Int) (s : Spec) : Bool := isGraph g && isSet free && isSpec s
theorem may_c (g : List Thing) (free : List Int) (s : Spec) (hg : g.length ≤ 140737488355328) (ht : Things g) (hf : free.length ≤ 140737488355328) (hs : s.tag.size ≤ 140737488351232) : ACalls Tryd.prog 58 [things g, ints free, specSV s] (· = .one (.sv (bv (mayB g free s)))) := by
  refine ACalls.of_bodyS (fun _ _ => Tryd.call58 _ _) Tryd.func58 rfl Tryd.ntmps58 (by simp) ?_
  refine Tr.ex ?_
  unfold mayB
  simp [go_sem]
  refine OpW.fn true (gRight_c g hg ht) rfl rfl (by simp [go_sem]) (by rintro _ r rfl; simp [go_sem]) ?_
  rintro r rfl
  cases h1 : isGraph g with
  | false => simp [go_sem]
  | true =>
    simp [go_sem]
    refine OpW.fn true (setRight_c free hf) rfl rfl (by simp [go_sem]) (by rintro _ r rfl; simp [go_sem]) ?_
    rintro r rfl
    cases h2 : isSet free with
    | false => simp [go_sem]
    | true =>
      simp [go_sem]
      refine OpW.fn true (sRight_c s hs) rfl rfl (by simp [go_sem]) (by rintro _ r rfl; simp [go_sem]) ?_
      rintro r rfl
      simp [go_sem]
set_option maxHeartbeats 8000000 in
set_option maxRecDepth 100000 in
theorem rSpec_c (s : Spec) (hs : s.tag.size ≤ 140737488351232) : ACalls Tryd.prog 94 [specSV s] (· = .one (.sv (bv (isSpec s)))) := by
  refine ACalls.of_bodyS (fun _ _ => Tryd.call94 _ _) Tryd.func94 rfl Tryd.ntmps94 (by simp) ?_
  refine Tr.ex ?_
  unfold isSpec inR
  by_cases a1 : 1 ≤ s.nodes
  case neg =>
    have b1 : s.nodes < 1 := by omega
    simp [go_sem, a1, b1]
  have b1 : ¬ s.nodes < 1 := by omega
  by_cases a2 : s.nodes ≤ 64
  case neg =>
    have b2 : 64 < s.nodes := by omega
    simp [go_sem, b1, b2, a2]
  have b2 : ¬ 64 < s.nodes := by omega
  by_cases a3 : 0 ≤ s.cores
  case neg =>
    have b3 : s.cores < 0 := by omega
    simp [go_sem, b1, b2, a3, b3]
  have b3 : ¬ s.cores < 0 := by omega
  by_cases a4 : s.cores ≤ 64
  case neg =>
    have b4 : 64 < s.cores := by omega
    simp [go_sem, b1, b2, b3, a4, b4]
  have b4 : ¬ 64 < s.cores := by omega
  by_cases a5 : 0 ≤ s.gpus
  case neg =>
    have b5 : s.gpus < 0 := by omega
    simp [go_sem, b1, b2, b3, b4, a5, b5]
  have b5 : ¬ s.gpus < 0 := by omega
  by_cases a6 : s.gpus ≤ 64
  case neg =>
    have b6 : 64 < s.gpus := by omega
    simp [go_sem, b1, b2, b3, b4, b5, a6, b6]
  have b6 : ¬ 64 < s.gpus := by omega
  have r1 : decide (1 ≤ s.nodes) = true := by simpa using a1
  have r2 : decide (s.nodes ≤ 64) = true := by simpa using a2
  have r3 : decide (0 ≤ s.cores) = true := by simpa using a3
  have r4 : decide (s.cores ≤ 64) = true := by simpa using a4
  have r5 : decide (0 ≤ s.gpus) = true := by simpa using a5
  have r6 : decide (s.gpus ≤ 64) = true := by simpa using a6
  rw [r1, r2, r3, r4, r5, r6]
  by_cases z1 : s.cores = 0
  · by_cases z2 : s.gpus = 0
    · cases hw : s.whole with
      | false => simp [go_sem, z1, z2, hw, b1, b2]
      | true =>
        simp [go_sem, z1, z2, hw, b1, b2]
        refine OpW.fn true (rTag_c s.tag (by omega)) rfl rfl (by simp [go_sem]) (by rintro _ r rfl; simp [go_sem]) ?_
        rintro r rfl
        cases hq : isTag s.tag with
        | false => simp [go_sem]
        | true =>
          by_cases c1 : 1 ≤ s.long
          case neg => simp [go_sem, c1]
          by_cases c2 : s.long ≤ 1099511627776
          case neg => simp [go_sem, c1, c2]
          by_cases c3 : -1000 ≤ s.prio
          case neg => simp [go_sem, c1, c2, c3]
          by_cases c4 : s.prio ≤ 1000 <;> simp [go_sem, c1, c2, c3, c4]
    · have e2 : (s.gpus == 0) = false := by simpa using z2
      have p2 : 0 < s.gpus := by omega
      simp [go_sem, z1, e2, p2, b1, b2, b5, b6]
      refine OpW.fn true (rTag_c s.tag (by omega)) rfl rfl (by simp [go_sem]) (by rintro _ r rfl; simp [go_sem]) ?_
      rintro r rfl
      cases hq : isTag s.tag with
      | false => simp [go_sem]
      | true =>
        by_cases c1 : 1 ≤ s.long
        case neg => simp [go_sem, c1]
        by_cases c2 : s.long ≤ 1099511627776
        case neg => simp [go_sem, c1, c2]
        by_cases c3 : -1000 ≤ s.prio
        case neg => simp [go_sem, c1, c2, c3]
        by_cases c4 : s.prio ≤ 1000 <;> simp [go_sem, c1, c2, c3, c4]
  · have e1 : (s.cores == 0) = false := by simpa using z1
    have p1 : 0 < s.cores := by omega
    simp [go_sem, e1, p1, b1, b2, b3, b4, b5, b6]
    refine OpW.fn true (rTag_c s.tag (by omega)) rfl rfl (by simp [go_sem]) (by rintro _ r rfl; simp [go_sem]) ?_
    rintro r rfl
    cases hq : isTag s.tag with
    | false => simp [go_sem]
    | true =>
      by_cases c1 : 1 ≤ s.long
      case neg => simp [go_sem, c1]
      by_cases c2 : s.long ≤ 1099511627776
      case neg => simp [go_sem, c1, c2]
      by_cases c3 : -1000 ≤ s.prio
      case neg => simp [go_sem, c1, c2, c3]
      by_cases c4 : s.prio ≤ 1000 <;> simp [go_sem, c1, c2, c3, c4]
theorem rmay_c (g : List Thing) (free : List Int) (s : Spec) (hg : g.length ≤ 140737488355328) (ht : Things g) (hf : free.length ≤ 140737488355328) (hs : s.tag.size ≤ 140737488351232) : ACalls Tryd.prog 61 [things g, ints free, specSV s] (· = .one (.sv (bv (mayB g free s)))) := by
  refine ACalls.of_bodyS (fun _ _ => Tryd.call61 _ _) Tryd.func61 rfl Tryd.ntmps61 (by simp) ?_
  refine Tr.ex ?_
  unfold mayB
  simp [go_sem]
  refine OpW.fn true (rRight_c g hg ht) rfl rfl (by simp [go_sem]) (by rintro _ r rfl; simp [go_sem]) ?_
  rintro r rfl
  cases h1 : isGraph g with
  | false => simp [go_sem]
  | true =>
    simp [go_sem]
    refine OpW.fn true (r1Right_c free hf) rfl rfl (by simp [go_sem]) (by rintro _ r rfl; simp [go_sem]) ?_
    rintro r rfl
    cases h2 : isSet free with
    | false => simp [go_sem]
    | true =>
      simp [go_sem]
      refine OpW.fn true (rSpec_c s hs) rfl rfl (by simp [go_sem]) (by rintro _ r rfl; simp [go_sem]) ?_
      rintro r rfl
      simp [go_sem]
end Go.Proofs.YtfcojlagmmgagaaDoor.Ab
