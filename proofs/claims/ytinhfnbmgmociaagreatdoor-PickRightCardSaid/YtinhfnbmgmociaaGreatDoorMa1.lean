/- Specs: spec.Right; match.may; the reference's. match.seek: what is free, and what is under each node. match: kind, here, Suits, Many, Find, Could. match: Suits, Many, Find, Could. match: what is got, in plain words. match: with more that is free, with no tag, with parts of nodes; what is got under each node. match: Find, Could. ref01.Which (either); ref09. -/
import Derived.Test.YtinhfnbmgmociaaGreatDoorGr2
import Derived.Test.YtinhfnbmgmociaaGreatDoorAb3
import Derived.Test.YtinhfnbmgmociaaGreatDoorGr1
namespace Go.Proofs.YtinhfnbmgmociaaGreatDoor.Ab
open Go.RowKit
set_option linter.unusedVariables false
set_option linter.unusedSimpArgs false

structure Spec where
  nodes : Int
  cores : Int
  gpus : Int
  tag : ByteArray
  whole : Bool
  long : Int
  prio : Int
  deriving Inhabited
def specCells (s : Spec) : List SV := [iv s.nodes, iv s.cores, iv s.gpus, sv' s.tag, bv s.whole, iv s.long, iv s.prio]
def specSV (s : Spec) : SV := .agg (specCells s)
attribute [go_sem] specSV specCells
def SpecOk (s : Spec) : Prop := (Lit.int .i64 s.nodes).wf = true ∧ (Lit.int .i64 s.cores).wf = true ∧ (Lit.int .i64 s.gpus).wf = true ∧ s.tag.size ≤ 140737488351232 ∧ (Lit.int .i64 s.long).wf = true ∧ (Lit.int .i64 s.prio).wf = true
theorem SpecOk_mk {p : Int × Int × Int × ByteArray × Bool × Int × Int × Unit} (h : (Lit.int .i64 p.1).wf = true ∧ (Lit.int .i64 p.2.1).wf = true ∧ (Lit.int .i64 p.2.2.1).wf = true ∧ p.2.2.2.1.size ≤ 140737488351232 ∧ True ∧ (Lit.int .i64 p.2.2.2.2.2.1).wf = true ∧ (Lit.int .i64 p.2.2.2.2.2.2.1).wf = true ∧ True) :
    SpecOk ⟨p.1, p.2.1, p.2.2.1, p.2.2.2.1, p.2.2.2.2.1, p.2.2.2.2.2.1, p.2.2.2.2.2.2.1⟩ := ⟨h.1, h.2.1, h.2.2.1, h.2.2.2.1, h.2.2.2.2.2.1, h.2.2.2.2.2.2.1⟩
def inR (n a b : Int) : Bool := decide (a ≤ n) && decide (n ≤ b)
theorem within_c (n a b : Int) : ACalls Tryz.prog 65 [iv n, iv a, iv b] (· = .one (.sv (bv (inR n a b)))) := by
  refine ACalls.of_bodyS (fun _ _ => Tryz.call65 _ _) Tryz.func65 rfl Tryz.ntmps65 (by simp) ?_
  refine Tr.ex ?_
  unfold inR
  by_cases h : a ≤ n <;> simp [go_sem, h]
theorem within64_c (n a b : Int) : ACalls Tryz.prog 67 [iv n, iv a, iv b] (· = .one (.sv (bv (inR n a b)))) := by
  refine ACalls.of_bodyS (fun _ _ => Tryz.call67 _ _) Tryz.func67 rfl Tryz.ntmps67 (by simp) ?_
  refine Tr.ex ?_
  unfold inR
  by_cases h : a ≤ n <;> simp [go_sem, h]
/-- Is it a spec that may be asked for? -/
def isSpec (s : Spec) : Bool := (inR s.nodes 1 64 && inR s.cores 0 64 && inR s.gpus 0 64) && (s.whole || decide (0 < s.cores) || decide (0 < s.gpus)) && isTag s.tag && inR s.long 1 1099511627776 && inR s.prio (-1000) 1000
set_option maxHeartbeats 8000000 in
set_option maxRecDepth 100000 in
theorem sRight_c (s : Spec) (hs : s.tag.size ≤ 140737488351232) : ACalls Tryz.prog 41 [specSV s] (· = .one (.sv (bv (isSpec s)))) := by
  refine ACalls.of_bodyS (fun _ _ => Tryz.call41 _ _) Tryz.func41 rfl Tryz.ntmps41 (by simp) ?_
  refine Tr.ex ?_
  unfold isSpec
  cases hw : s.whole <;> by_cases hc : 0 < s.cores <;> by_cases hg : 0 < s.gpus
  all_goals
    simp [go_sem, hw, hc, hg]
    refine OpW.fn true (within_c s.nodes 1 64) rfl rfl (by simp [go_sem]) (by rintro _ r rfl; simp [go_sem]) ?_
    rintro r rfl
    cases h1 : inR s.nodes 1 64 with
    | false => simp [go_sem, hw, hc, hg]
    | true =>
      simp [go_sem, hw, hc, hg]
      refine OpW.fn true (within_c s.cores 0 64) rfl rfl (by simp [go_sem]) (by rintro _ r rfl; simp [go_sem]) ?_
      rintro r rfl
      cases h2 : inR s.cores 0 64 with
      | false => simp [go_sem, hw, hc, hg]
      | true =>
        simp [go_sem, hw, hc, hg]
        refine OpW.fn true (within_c s.gpus 0 64) rfl rfl (by simp [go_sem]) (by rintro _ r rfl; simp [go_sem]) ?_
        rintro r rfl
        cases h3 : inR s.gpus 0 64 with
        | false => simp [go_sem, hw, hc, hg]
        | true =>
          simp [go_sem, hw, hc, hg]
          try
            refine OpW.fn true (Tag_c s.tag (by omega)) rfl rfl (by simp [go_sem]) (by rintro _ r rfl; simp [go_sem]) ?_
            rintro r rfl
            cases h4 : isTag s.tag with
            | false => simp [go_sem]
            | true =>
              simp [go_sem]
              refine OpW.fn true (within64_c s.long 1 1099511627776) rfl rfl (by simp [go_sem]) (by rintro _ r rfl; simp [go_sem]) ?_
              rintro r rfl
              cases h5 : inR s.long 1 1099511627776 with
              | false => simp [go_sem]
              | true =>
                simp [go_sem]
                refine OpW.fn true (within_c s.prio (-1000) 1000) rfl rfl (by simp [go_sem]) (by rintro _ r rfl; simp [go_sem]) ?_
                rintro r rfl
                simp [go_sem]
def mayB (g : List Thing) (free : List Int) (s : Spec) : Bool := isGraph g && isSet free && isSpec s
theorem may_c (g : List Thing) (free : List Int) (s : Spec) (hg : g.length ≤ 140737488355328) (ht : Things g) (hf : free.length ≤ 140737488355328) (hs : s.tag.size ≤ 140737488351232) : ACalls Tryz.prog 78 [things g, ints free, specSV s] (· = .one (.sv (bv (mayB g free s)))) := by
  refine ACalls.of_bodyS (fun _ _ => Tryz.call78 _ _) Tryz.func78 rfl Tryz.ntmps78 (by simp) ?_
  refine Tr.ex ?_
  unfold mayB
  simp [go_sem]
  refine OpW.fn true (gRight_c g hg ht) rfl rfl (by simp [go_sem]) (by rintro _ r rfl; simp [go_sem]) ?_
  rintro r rfl
  cases h1 : isGraph g with
  | false => simp [go_sem]
  | true =>
    simp [go_sem]
    refine OpW.fn true (setRight_c free hf) rfl rfl (by simp [go_sem]) (by rintro _ r rfl; simp [go_sem]) ?_
    rintro r rfl
    cases h2 : isSet free with
    | false => simp [go_sem]
    | true =>
      simp [go_sem]
      refine OpW.fn true (sRight_c s hs) rfl rfl (by simp [go_sem]) (by rintro _ r rfl; simp [go_sem]) ?_
      rintro r rfl
      simp [go_sem]
set_option maxHeartbeats 8000000 in
set_option maxRecDepth 100000 in
theorem rSpec_c (s : Spec) (hs : s.tag.size ≤ 140737488351232) : ACalls Tryz.prog 47 [specSV s] (· = .one (.sv (bv (isSpec s)))) := by
  refine ACalls.of_bodyS (fun _ _ => Tryz.call47 _ _) Tryz.func47 rfl Tryz.ntmps47 (by simp) ?_
  refine Tr.ex ?_
  unfold isSpec inR
  by_cases a1 : 1 ≤ s.nodes
  case neg =>
    have b1 : s.nodes < 1 := by omega
    simp [go_sem, a1, b1]
  have b1 : ¬ s.nodes < 1 := by omega
  by_cases a2 : s.nodes ≤ 64
  case neg =>
    have b2 : 64 < s.nodes := by omega
    simp [go_sem, b1, b2, a2]
  have b2 : ¬ 64 < s.nodes := by omega
  by_cases a3 : 0 ≤ s.cores
  case neg =>
    have b3 : s.cores < 0 := by omega
    simp [go_sem, b1, b2, a3, b3]
  have b3 : ¬ s.cores < 0 := by omega
  by_cases a4 : s.cores ≤ 64
  case neg =>
    have b4 : 64 < s.cores := by omega
    simp [go_sem, b1, b2, b3, a4, b4]
  have b4 : ¬ 64 < s.cores := by omega
  by_cases a5 : 0 ≤ s.gpus
  case neg =>
    have b5 : s.gpus < 0 := by omega
    simp [go_sem, b1, b2, b3, b4, a5, b5]
  have b5 : ¬ s.gpus < 0 := by omega
  by_cases a6 : s.gpus ≤ 64
  case neg =>
    have b6 : 64 < s.gpus := by omega
    simp [go_sem, b1, b2, b3, b4, b5, a6, b6]
  have b6 : ¬ 64 < s.gpus := by omega
  have r1 : decide (1 ≤ s.nodes) = true := by simpa using a1
  have r2 : decide (s.nodes ≤ 64) = true := by simpa using a2
  have r3 : decide (0 ≤ s.cores) = true := by simpa using a3
  have r4 : decide (s.cores ≤ 64) = true := by simpa using a4
  have r5 : decide (0 ≤ s.gpus) = true := by simpa using a5
  have r6 : decide (s.gpus ≤ 64) = true := by simpa using a6
  rw [r1, r2, r3, r4, r5, r6]
  by_cases z1 : s.cores = 0
  · by_cases z2 : s.gpus = 0
    · cases hw : s.whole with
      | false => simp [go_sem, z1, z2, hw, b1, b2]
      | true =>
        simp [go_sem, z1, z2, hw, b1, b2]
        refine OpW.fn true (rTag_c s.tag (by omega)) rfl rfl (by simp [go_sem]) (by rintro _ r rfl; simp [go_sem]) ?_
        rintro r rfl
        cases hq : isTag s.tag with
        | false => simp [go_sem]
        | true =>
          by_cases c1 : 1 ≤ s.long
          case neg => simp [go_sem, c1]
          by_cases c2 : s.long ≤ 1099511627776
          case neg => simp [go_sem, c1, c2]
          by_cases c3 : -1000 ≤ s.prio
          case neg => simp [go_sem, c1, c2, c3]
          by_cases c4 : s.prio ≤ 1000 <;> simp [go_sem, c1, c2, c3, c4]
    · have e2 : (s.gpus == 0) = false := by simpa using z2
      have p2 : 0 < s.gpus := by omega
      simp [go_sem, z1, e2, p2, b1, b2, b5, b6]
      refine OpW.fn true (rTag_c s.tag (by omega)) rfl rfl (by simp [go_sem]) (by rintro _ r rfl; simp [go_sem]) ?_
      rintro r rfl
      cases hq : isTag s.tag with
      | false => simp [go_sem]
      | true =>
        by_cases c1 : 1 ≤ s.long
        case neg => simp [go_sem, c1]
        by_cases c2 : s.long ≤ 1099511627776
        case neg => simp [go_sem, c1, c2]
        by_cases c3 : -1000 ≤ s.prio
        case neg => simp [go_sem, c1, c2, c3]
        by_cases c4 : s.prio ≤ 1000 <;> simp [go_sem, c1, c2, c3, c4]
  · have e1 : (s.cores == 0) = false := by simpa using z1
    have p1 : 0 < s.cores := by omega
    simp [go_sem, e1, p1, b1, b2, b3, b4, b5, b6]
    refine OpW.fn true (rTag_c s.tag (by omega)) rfl rfl (by simp [go_sem]) (by rintro _ r rfl; simp [go_sem]) ?_
    rintro r rfl
    cases hq : isTag s.tag with
    | false => simp [go_sem]
    | true =>
      by_cases c1 : 1 ≤ s.long
      case neg => simp [go_sem, c1]
      by_cases c2 : s.long ≤ 1099511627776
      case neg => simp [go_sem, c1, c2]
      by_cases c3 : -1000 ≤ s.prio
      case neg => simp [go_sem, c1, c2, c3]
      by_cases c4 : s.prio ≤ 1000 <;> simp [go_sem, c1, c2, c3, c4]
theorem rmay_c (g : List Thing) (free : List Int) (s : Spec) (hg : g.length ≤ 140737488355328) (ht : Things g) (hf : free.length ≤ 140737488355328) (hs : s.tag.size ≤ 140737488351232) : ACalls Tryz.prog 92 [things g, ints free, specSV s] (· = .one (.sv (bv (mayB g free s)))) := by
  refine ACalls.of_bodyS (fun _ _ => Tryz.call92 _ _) Tryz.func92 rfl Tryz.ntmps92 (by simp) ?_
  refine Tr.ex ?_
  unfold mayB
  simp [go_sem]
  refine OpW.fn true (rRight_c g hg ht) rfl rfl (by simp [go_sem]) (by rintro _ r rfl; simp [go_sem]) ?_
  rintro r rfl
  cases h1 : isGraph g with
  | false => simp [go_sem]
  | true =>
    simp [go_sem]
    refine OpW.fn true (r1Right_c free hf) rfl rfl (by simp [go_sem]) (by rintro _ r rfl; simp [go_sem]) ?_
    rintro r rfl
    cases h2 : isSet free with
    | false => simp [go_sem]
    | true =>
      simp [go_sem]
      refine OpW.fn true (rSpec_c s hs) rfl rfl (by simp [go_sem]) (by rintro _ r rfl; simp [go_sem]) ?_
      rintro r rfl
      simp [go_sem]
end Go.Proofs.YtinhfnbmgmociaaGreatDoor.Ab

namespace Go.Proofs.YtinhfnbmgmociaaGreatDoor.Ab
open Go.RowKit
set_option linter.unusedVariables false
set_option linter.unusedSimpArgs false

/-- The cores and gpus that are told to be under a thing, of the first i things. -/
def kidsTo (g : List Thing) (i u : Nat) : List Int := ((List.range i).filter fun j => decide (2 < (th g j).kind) && (th g j).up == (u : Int)).map Int.ofNat
def insL (n : Nat) (free : List Int) : List Bool := (List.range n).map fun j : Nat => decide (((j : Nat) : Int) ∈ free)
def seekSV (g : List Thing) (free : List Int) (s : Spec) : SV :=
  .ref (.agg ([things g, .lst ((insL g.length free).map bv), .lst ((List.range g.length).map fun u => ints (kidsTo g g.length u))] ++ specCells s)) 0
theorem insL_nil (n : Nat) : (insL n []).map bv = List.replicate n (.val (.bool false)) := by
  unfold insL
  apply List.ext_getElem?
  intro j
  by_cases hj : j < n
  · rw [List.getElem?_replicate, if_pos hj]; simp [bv, hj]
  · rw [List.getElem?_replicate, if_neg hj, List.getElem?_eq_none (by simp; omega)]
theorem insL_in {n : Nat} {l : List Int} {x : Int} (h0 : 0 ≤ x) (h1 : x < n) : ((insL n l).map bv).set x.toNat (.val (.bool true)) = (insL n (l ++ [x])).map bv := by
  unfold insL
  apply List.ext_getElem?
  intro j
  rw [List.getElem?_set]
  by_cases hj : j < n
  · simp only [List.getElem?_map, List.getElem?_range hj, Option.map_some, List.length_map, List.length_range]
    by_cases hx : x.toNat = j
    · have : (j : Int) = x := by omega
      rw [if_pos hx, if_pos (by omega)]
      simp [this, bv]
    · have : ¬ (j : Int) = x := by omega
      rw [if_neg hx]
      simp [this]
  · have h2 : ¬ x.toNat = j := by omega
    rw [if_neg h2]
    rw [List.getElem?_eq_none (by simp; omega), List.getElem?_eq_none (by simp; omega)]
theorem insL_out {n : Nat} {l : List Int} {x : Int} (h1 : ¬ x < n) : insL n (l ++ [x]) = insL n l := by
  unfold insL
  apply List.map_congr_left
  intro j hj
  have := List.mem_range.1 hj
  have : ¬ (j : Int) = x := by omega
  simp [this]
theorem insL_len (n : Nat) (l : List Int) : (insL n l).length = n := by simp [insL]
theorem kidsTo_succ (g : List Thing) (i u : Nat) : kidsTo g (i + 1) u = if 2 < (th g i).kind ∧ (th g i).up = (u : Int) then kidsTo g i u ++ [(i : Int)] else kidsTo g i u := by
  unfold kidsTo
  rw [List.range_succ, List.filter_append, List.map_append]
  by_cases h : 2 < (th g i).kind ∧ (th g i).up = (u : Int)
  · rw [if_pos h]; simp [h.1, h.2]
  · rw [if_neg h]
    have : (decide (2 < (th g i).kind) && (th g i).up == (u : Int)) = false := by
      rw [Bool.eq_false_iff]; intro hb; simp only [Bool.and_eq_true, decide_eq_true_eq, beq_iff_eq] at hb; exact h hb
    simp [this]
theorem th_get {g : List Thing} {i : Nat} {x : Thing} (h : g[i]? = some x) : th g i = x := by
  unfold th; rw [List.getD_eq_getElem?_getD, h]; rfl
set_option maxHeartbeats 4000000 in
set_option maxRecDepth 100000 in
theorem seek_c (g : List Thing) (free : List Int) (s : Spec) (hg : isGraph g = true) (ht : Things g) (hf : isSet free = true) (hl : free.length ≤ 140737488355328) : ACalls Tryz.prog 79 [things g, ints free, specSV s] (· = .one (.sv (seekSV g free s))) := by
  refine ACalls.of_bodyS (fun _ _ => Tryz.call79 _ _) Tryz.func79 rfl Tryz.ntmps79 (by simp) ?_
  refine Tr.ex ?_
  have hlen := isGraph_len hg
  simp [go_sem]
  refine DrawW.rdN [15, 18, 21] (by simp [go_sem]) rfl ?_
  simp [go_sem]
  refine OpD.make (k1 := .i64) (k2 := .i64) (n := g.length) rfl rfl (by simp [go_sem]) (by simp [go_sem]) (by simp [go_sem]) (by simp [go_sem]) (by simp [go_sem]; rfl) (by simp [go_sem]; rfl) (by omega) (by simp [go_sem]; omega) (by simp [go_sem]) (by simp [go_sem]) ?_
  simp [go_sem]
  refine OpD.makeB (k1 := .i64) (k2 := .i64) (n := g.length) rfl rfl (by simp [go_sem]) (by simp [go_sem]) (by simp [go_sem]) (by simp [go_sem]) (by simp [go_sem]; rfl) (by simp [go_sem]) (by simp [go_sem]) (by omega) (by simp [go_sem]; omega) ?_
  simp [go_sem]
  refine OpD.buildV rfl rfl (by simp [go_sem]) (by simp [go_sem]; rfl) (by simp [go_sem]; rfl) (by simp [go_sem, vfill]; rfl) (by simp [go_sem]) ?_
  simp [go_sem]
  refine OpD.box rfl rfl (by simp [go_sem]) (by simp [go_sem]) (by simp [go_sem]; rfl) (by simp [go_sem]; rfl) ?_
  simp [go_sem]
  refine ⟨by kernel_rfl, ?_⟩
  refine LoopW.of (fun i : Nat => ⟨69, [(0, .sv (things g)), (6, .sv (.val (.pointer none))), (7, .box 21 0), (22, .sv (ints free)), (23, .sv (iv free.length)), (24, .sv (iv i))],
      [(15, .row 1 ((insL g.length (free.take i)).map bv)), (18, .box (List.replicate g.length .nil)), (21, .box ([.sv (things g), .own 15, .sl 18 g.length] ++ (specCells s).map .sv))]⟩)
    (fun i => i ≤ free.length) (fun i => free.length - i) 0 (by omega) (Ent.chk (by simp [go_sem, insL_nil])) ?_
  intro i hi
  by_cases hlt : i < free.length
  · have hlt' : (i : Int) < free.length := by omega
    obtain ⟨x, hx⟩ : ∃ x, free[i]? = some x := ⟨_, List.getElem?_eq_getElem hlt⟩
    have hw : IntKind.i64.wrap ((i : Int) + 1) = (i : Int) + 1 := by rw [i64w] <;> omega
    have hb := isSet_mem hf x (List.mem_of_getElem? hx)
    have htk : free.take (i + 1) = free.take i ++ [x] := by rw [List.take_succ_eq_append_getElem hlt, gE hx]
    by_cases hxl : x < g.length
    · have hxn : x.toNat < g.length := by omega
      have hset := insL_in (l := free.take i) hb.1 hxl
      simp [go_sem, hlt, hlt', hx, gE hx, hxl, hb.1, insL_len, hxn]
      exact ⟨i + 1, by omega, by omega, Ent.chk (by simp [go_sem, hw, htk, hset])⟩
    · have hout := insL_out (l := free.take i) hxl
      simp [go_sem, hlt, hlt', hx, gE hx, hxl]
      exact ⟨i + 1, by omega, by omega, Ent.chk (by simp [go_sem, hw, htk, hout])⟩
  · have hil : i = free.length := by omega
    subst hil
    simp [go_sem]
    refine LoopW.ent (Ent.thawAll (t := 18) (n := g.length) (sz := 1) (by simp [go_sem]) (by decide) (by omega) (fun j hj => by
      have n1 : ¬ 15 = 2000 + j := by omega
      have n2 : ¬ 18 = 2000 + j := by omega
      have n3 : ¬ 21 = 2000 + j := by omega
      simp [go_sem, holdsL_nils, n1, n2, n3]; omega) (by decide)) ?_
    refine LoopW.halt ?_
    refine LoopW.of (fun i : Nat => ⟨69, [(6, .sv (.val (.pointer none))), (7, .box 21 0), (39, .sv (things g)), (40, .sv (iv g.length)), (41, .sv (iv i))],
        dyn g.length (fun j => .row 1 ((kidsTo g i j).map iv)) ++ [(15, .row 1 ((insL g.length free).map bv)), (18, .box (ownsL g.length)), (21, .box ([.sv (things g), .own 15, .sl 18 g.length] ++ (specCells s).map .sv))]⟩)
      (fun i => i ≤ g.length) (fun i => g.length - i) 0 (by omega) (Ent.chkD (K := fun _ => .row 1 []) rfl rfl (by simp [go_sem])) ?_
    · intro i hi
      by_cases hlt : i < g.length
      · have hlt' : (i : Int) < g.length := by omega
        obtain ⟨x, hx⟩ : ∃ x, g[i]? = some x := ⟨_, List.getElem?_eq_getElem hlt⟩
        have hw : IntKind.i64.wrap ((i : Int) + 1) = (i : Int) + 1 := by rw [i64w] <;> omega
        by_cases hk : 2 < x.kind
        · have h0 : 0 < i := by
            rcases Nat.eq_zero_or_pos i with h | h
            · subst h
              have := (isGraph_root hg).1
              rw [th_get hx] at this; omega
            · exact h
          have hup := isGraph_up hg h0 hlt
          rw [th_get hx] at hup
          obtain ⟨u, hu⟩ : ∃ u : Nat, x.up = u := ⟨x.up.toNat, by omega⟩
          have hun : u < g.length := by omega
          have n11 : ¬ 11 = 2000 + u := by omega
          have n15 : ¬ 15 = 2000 + u := by omega
          have n18 : ¬ 18 = 2000 + u := by omega
          have n21 : ¬ 21 = 2000 + u := by omega
          simp [go_sem, hlt, hlt', hx, gE hx, hk, lk_dynS, up_dynS, rm_dynS, holdsL_owns, any_dyn]
          refine DrawW.pull u hun (by simp) (by simp [go_sem, lk_dynS, holdsL_owns, any_dyn]) (by simp [go_sem, n11, n15, n18, n21]) ?_
          simp [go_sem, renL_owns hun, n11, n15, n18, n21]
          obtain ⟨C, hC⟩ : ∃ C, C = (ownsL g.length).set u (.own 900) := ⟨_, rfl⟩
          have hCl : C.length = g.length := by rw [hC]; simp [ownsL]
          have hCu : C[u]? = some (.own 900) := by rw [hC, List.getElem?_set, if_pos rfl, if_pos (by simpa [ownsL] using hun)]
          have hCd : C.drop u = .own 900 :: C.drop (u + 1) := by
            rw [List.drop_eq_getElem_cons (by omega), gE hCu]
          have hCh : ∀ t, t < 900 → AV.holdsL t C = false := fun t ht => by
            rw [hC]
            exact holdsL_set (by omega) (fun j _ => by omega)
          rw [← hC]
          have hun' : (u : Int) < g.length := by omega
          refine DrawW.rdN [64, 65] (by simp [go_sem, lk_dynXS, any_dynX, hCh]) rfl ?_
          simp [go_sem, lk_dynXS, up_dynXS, rm_dynXS, hu, hun, hun', hCd, hCu, hCl]
          refine OpD.bslice rfl rfl (by simp [go_sem]) (by simp [go_sem]) (by simp [go_sem]; rfl) (by simp [go_sem]; rfl) (by simp [go_sem]) (by simp [go_sem]) (by decide) (by simp [go_sem]) (by simp [go_sem]; rfl) ?_
          simp [go_sem, lk_dynXS, up_dynXS, rm_dynXS]
          have hkl : (kidsTo g i u).length ≤ 256 := by
            unfold kidsTo
            have := List.length_filter_le (fun j => decide (2 < (th g j).kind) && (th g j).up == (u : Int)) (List.range i)
            simp only [List.length_map, List.length_range] at this ⊢
            omega
          refine OpD.append (t := 900) (xs := (kidsTo g i u).map iv) (ys := [iv i]) rfl rfl (by simp [go_sem]) (by simp [go_sem]) (by simp [go_sem]; rfl) (by simp [go_sem]; rfl) (by simp [go_sem]) (by simp [go_sem]) (by simp [go_sem]) (by simp [go_sem, lk_dynXS]) (by simp [go_sem]; rfl) (by simp [go_sem, lk_dynXS]) (by simp [go_sem]) (by simp [go_sem]; omega) ?_
          have hun1 : u + 1 ≤ g.length := hun
          simp [go_sem, lk_dynXS, up_dynXS, rm_dynXS, hun, hun', hun1, hCd, hCu, hCl]
          refine ⟨by kernel_rfl, i + 1, by omega, by omega, ?_⟩
          have hK : ∀ j, j ≠ u → (kidsTo g (i + 1) j).map iv = (kidsTo g i j).map iv := fun j hj => by
            rw [kidsTo_succ, th_get hx, if_neg (fun h => hj (by have := h.2; omega))]
          have hKu : kidsTo g (i + 1) u = kidsTo g i u ++ [(i : Int)] := by rw [kidsTo_succ, th_get hx, if_pos ⟨hk, hu⟩]
          have hC65 : C.take u ++ AV.own 65 :: C.drop (u + 1) = (ownsL g.length).set u (.own 65) := by
            have := List.set_eq_take_append_cons_drop (l := C) (i := u) (a := AV.own 65)
            rw [if_pos (by omega)] at this
            rw [← this, hC, List.set_set]
          have hback : AV.renL 65 (2000 + u) ((ownsL g.length).set u (.own 65)) = ownsL g.length := renL_back hun (by decide)
          rw [hC65]
          refine Ent.push (t := 65) (sz := 1) (f := fun j => (kidsTo g i j).map iv) (f' := fun j => (kidsTo g (i + 1) j).map iv) hun rfl rfl (by decide) (by simp [go_sem, hKu]) hK ?_ (by simp [go_sem, hw, hback])
          have hh := holdsL_set (n := g.length) (u := u) (t := 2000 + u) (s := 65) (by omega) (fun j hj => by omega)
          have n64 : ¬ 64 = 2000 + u := by omega
          have n65 : ¬ 65 = 2000 + u := by omega
          have n900 : ¬ 900 = 2000 + u := by omega
          simp [go_sem, lk_dynXU, any_dynX, hh, n11, n15, n18, n21, n64, n65, n900]
          omega
        · have hK : ∀ j, kidsTo g (i + 1) j = kidsTo g i j := fun j => by rw [kidsTo_succ, th_get hx, if_neg (fun h => hk h.1)]
          simp [go_sem, hlt, hlt', hx, gE hx, hk, lk_dynS, up_dynS, rm_dynS, holdsL_owns, any_dyn]
          refine ⟨i + 1, by omega, by omega, ?_⟩
          simp only [hK]
          exact Ent.chkD (K := fun j => .row 1 ((kidsTo g i j).map iv)) rfl rfl (by simp [go_sem, hw])
      · have hil : i = g.length := by omega
        subst hil
        simp [go_sem, lk_dynS]
        refine HaltW.ent (Ent.rows (b := 18) (r' := [(15, .row 1 ((insL g.length free).map bv)), (21, .box ([.sv (things g), .own 15, .sl 18 g.length] ++ (specCells s).map .sv))]) (by decide) (fun j hj => ?_) (fun j hj t o ho => ?_) (fun t o ho => ?_)) ?_
        · have n15 : ¬ 15 = 2000 + j := by omega
          have n18 : ¬ 18 = 2000 + j := by omega
          have n21 : ¬ 21 = 2000 + j := by omega
          simp [go_sem, n15, n18, n21]
        · have n15 : ¬ 15 = 2000 + j := by omega
          have n18 : ¬ 18 = 2000 + j := by omega
          simp only [lk] at ho
          split at ho
          · rename_i e; subst e
            simp only [Option.some.injEq] at ho; subst ho
            exact ⟨by decide, rfl⟩
          · split at ho
            · rename_i e; subst e
              simp only [Option.some.injEq] at ho; subst ho
              exact ⟨by decide, by simp [go_sem, n15, n18]⟩
            · cases ho
        · simp only [lk] at ho ⊢
          by_cases h18 : 18 = t
          · subst h18; simpa using ho
          · by_cases h15 : 15 = t
            · subst h15; simpa using ho
            · by_cases h21 : 21 = t
              · subst h21; simpa [go_sem] using ho
              · simp [h18, h15, h21] at ho
        refine HaltW.ent (Ent.freeze 18 (Ent.freeze 15 (Ent.freeze 21 (Ent.refl _)))) (HaltW.go ?_)
        have hs := svs_map (fun i => ints (kidsTo g g.length i)) (List.range g.length)
        simp only [ints] at hs
        simp [go_sem, hs, seekSV]
end Go.Proofs.YtinhfnbmgmociaaGreatDoor.Ab

namespace Go.Proofs.YtinhfnbmgmociaaGreatDoor.Ab
open Go.RowKit
set_option linter.unusedVariables false
set_option linter.unusedSimpArgs false

def kidsL (g : List Thing) (u : Nat) : List Int := kidsTo g g.length u
/-- The free things of a kind under a node, of some. -/
def ofKind (g : List Thing) (free : List Int) (k : Int) (l : List Int) : List Int := l.filter fun n => decide (n ∈ free) && (th g n.toNat).kind == k
theorem kidsL_mem {g : List Thing} {u : Nat} {n : Int} (h : n ∈ kidsL g u) : 0 ≤ n ∧ n < g.length ∧ 2 < (th g n.toNat).kind ∧ (th g n.toNat).up = u := by
  unfold kidsL kidsTo at h
  obtain ⟨i, hi, rfl⟩ := List.mem_map.1 h
  simp only [List.mem_filter, List.mem_range, Bool.and_eq_true, decide_eq_true_eq, beq_iff_eq] at hi
  exact ⟨Int.natCast_nonneg i, by have := hi.1; simp only [Int.ofNat_eq_natCast]; omega, hi.2.1, hi.2.2⟩
theorem kidsL_len (g : List Thing) (u : Nat) : (kidsL g u).length ≤ g.length := by
  unfold kidsL kidsTo
  rw [List.length_map]
  exact Nat.le_trans (List.length_filter_le _ _) (by simp)
set_option maxHeartbeats 4000000 in
set_option maxRecDepth 100000 in
theorem kind_c (g : List Thing) (free : List Int) (s : Spec) (u : Nat) (k most : Int) (hg : isGraph g = true) (hu : u < g.length) (hm : 0 ≤ most) : ACalls Tryz.prog 107 [seekSV g free s, iv u, iv k, iv most] (· = .one (.sv (ints ((ofKind g free k (kidsL g u)).take most.toNat)))) := by
  refine ACalls.of_bodyS (fun _ _ => Tryz.call107 _ _) Tryz.func107 rfl Tryz.ntmps107 (by simp) ?_
  refine Tr.ex ?_
  have hlen := isGraph_len hg
  have hu' : (u : Int) < g.length := by omega
  have hk : ((List.range g.length).map fun u => ints (kidsTo g g.length u))[u]? = some (ints (kidsL g u)) := by
    rw [List.getElem?_map, List.getElem?_range hu]; rfl
  have hkl := kidsL_len g u
  have hkm : ∀ n ∈ kidsL g u, 0 ≤ n ∧ n < g.length := fun n hn => ⟨(kidsL_mem hn).1, (kidsL_mem hn).2.1⟩
  generalize hks : kidsL g u = ks at *
  have hkt : kidsTo g g.length u = ks := hks
  simp [go_sem, seekSV, hu, hu', hk, hkt]
  refine LoopW.ent (Ent.thaw 9 9 1 (by simp [go_sem]) (by simp [go_sem]) (by decide) (Ent.refl _)) ?_
  refine LoopW.of (fun i : Nat => ⟨55, [(0, .sv (seekSV g free s)), (2, .sv (iv k)), (3, .sv (iv most)), (8, .nil), (9, .own 9), (18, .sv (ints ks)), (19, .sv (iv ks.length)), (20, .sv (iv i))],
      [(9, .row 1 (((ofKind g free k (ks.take i)).take most.toNat).map iv))]⟩)
    (fun i => i ≤ ks.length) (fun i => ks.length - i) 0 (by omega) (Ent.chk (by simp [go_sem, seekSV, ofKind])) ?_
  intro i hi
  by_cases hlt : i < ks.length
  · have hlt' : (i : Int) < ks.length := by omega
    obtain ⟨n, hx⟩ : ∃ x, ks[i]? = some x := ⟨_, List.getElem?_eq_getElem hlt⟩
    have hw : IntKind.i64.wrap ((i : Int) + 1) = (i : Int) + 1 := by rw [i64w] <;> omega
    obtain ⟨hn0, hn1⟩ := hkm n (List.mem_of_getElem? hx)
    have hnn : n.toNat < g.length := by omega
    obtain ⟨x, hgx⟩ : ∃ x, g[n.toNat]? = some x := ⟨_, List.getElem?_eq_getElem hnn⟩
    have hin : ((insL g.length free).map bv)[n.toNat]? = some (bv (decide (n ∈ free))) := by
      unfold insL
      have : ((n.toNat : Nat) : Int) = n := by omega
      simp [List.getElem?_range hnn, this]
    have htk : ofKind g free k (ks.take (i + 1)) = if n ∈ free ∧ x.kind = k then ofKind g free k (ks.take i) ++ [n] else ofKind g free k (ks.take i) := by
      unfold ofKind
      rw [List.take_succ_eq_append_getElem hlt, gE hx, List.filter_append]
      have h3 : (th g n.toNat).kind = x.kind := by rw [th_get hgx]
      by_cases h1 : n ∈ free ∧ x.kind = k
      · rw [if_pos h1]; simp [h1.1, h1.2, h3]
      · rw [if_neg h1]
        have : (decide (n ∈ free) && (th g n.toNat).kind == k) = false := by
          rw [Bool.eq_false_iff]; intro hb
          simp only [Bool.and_eq_true, decide_eq_true_eq, beq_iff_eq, h3] at hb
          exact h1 hb
        simp [this]
    have hol : (ofKind g free k (ks.take i)).length ≤ 256 := by
      unfold ofKind
      have := List.length_filter_le (fun n => decide (n ∈ free) && (th g n.toNat).kind == k) (ks.take i)
      have h2 : (ks.take i).length ≤ ks.length := List.length_take_le' _ _
      omega
    generalize ofKind g free k (ks.take i) = out at *
    by_cases c1 : ((out.take most.toNat).length : Int) < most
    · have c1' : out.length < most.toNat := by rw [List.length_take] at c1; omega
      have ho : out.take most.toNat = out := List.take_of_length_le (by omega)
      rw [ho] at c1
      have hom : (out.map iv).take most.toNat = out.map iv := by rw [← List.map_take, ho]
      by_cases c2 : n ∈ free
      · by_cases c3 : x.kind = k
        · simp [go_sem, seekSV, hlt, hlt', hx, gE hx, ho, hom, c1, c2, c3, hn0, hn1, hnn, hin, gE hin, hgx, gE hgx, insL_len]
          refine ⟨by omega, i + 1, by omega, by omega, ?_⟩
          have ho2 : (out ++ [n]).take most.toNat = out ++ [n] := List.take_of_length_le (by simp; omega)
          refine Ent.rename2 52 9 (by simp [go_sem]) (Ent.chk ?_)
          have ho3 : ((out ++ [n]).map iv).take most.toNat = (out ++ [n]).map iv := by rw [← List.map_take, ho2]
          rw [htk, if_pos ⟨c2, c3⟩, ho3]
          simp [go_sem, hw]
        · have e3 : (x.kind == k) = false := by simpa using c3
          simp [go_sem, seekSV, hlt, hlt', hx, gE hx, ho, hom, c1, c2, e3, hn0, hn1, hnn, hin, gE hin, hgx, gE hgx, insL_len]
          refine ⟨i + 1, by omega, by omega, Ent.chk ?_⟩
          rw [htk, if_neg (fun h => c3 h.2), hom]
          simp [go_sem, hw]
      · simp [go_sem, seekSV, hlt, hlt', hx, gE hx, ho, hom, c1, c2, hn0, hn1, hnn, hin, gE hin, insL_len]
        refine ⟨i + 1, by omega, by omega, Ent.chk ?_⟩
        rw [htk, if_neg (fun h => c2 h.1), hom]
        simp [go_sem, hw]
    · have hge : most.toNat ≤ out.length := by rw [List.length_take] at c1; omega
      have hst : (if n ∈ free ∧ x.kind = k then out ++ [n] else out).take most.toNat = out.take most.toNat := by
        split
        · exact List.take_append_of_le_length hge
        · rfl
      have c1m : ¬ ((min most.toNat out.length : Nat) : Int) < most := by rw [List.length_take] at c1; exact c1
      simp [go_sem, seekSV, hlt, hlt', hx, gE hx, c1, c1m, hn0, hn1]
      refine ⟨i + 1, by omega, by omega, Ent.chk ?_⟩
      have hst2 : ((if n ∈ free ∧ x.kind = k then out ++ [n] else out).map iv).take most.toNat = (out.map iv).take most.toNat := by rw [← List.map_take, ← List.map_take, hst]
      rw [htk, hst2]
      simp [go_sem, hw]
  · have hil : i = ks.length := by omega
    subst hil
    simp [go_sem, seekSV]
/-- What a spec gets in a node. -/
def coresL (g : List Thing) (free : List Int) (s : Spec) (u : Nat) : List Int := (ofKind g free 3 (kidsL g u)).take s.cores.toNat
def gpusL (g : List Thing) (free : List Int) (s : Spec) (u : Nat) : List Int := (ofKind g free 4 (kidsL g u)).take s.gpus.toNat
def nodeOk (g : List Thing) (free : List Int) (s : Spec) (u : Nat) : Bool := (th g u).kind == 2 && decide ((u : Int) ∈ free) && (s.tag.toList == [] || (th g u).tag.toList == s.tag.toList)
def hereL (g : List Thing) (free : List Int) (s : Spec) (u : Nat) : List Int × Bool :=
  if nodeOk g free s u = true then
    (if (coresL g free s u).length < s.cores ∨ (gpusL g free s u).length < s.gpus then ([], false)
    else if s.whole = true then (if (kidsL g u).all (fun n => decide (n ∈ free)) = true then ((u : Int) :: kidsL g u, true) else ([], false))
    else (joinL (coresL g free s u) (gpusL g free s u), true))
  else ([], false)
attribute [go_sem] seekSV
set_option maxHeartbeats 8000000 in
set_option maxRecDepth 100000 in
theorem here_c (g : List Thing) (free : List Int) (s : Spec) (u : Nat) (hg : isGraph g = true) (hu : u < g.length) (hs : isSpec s = true) : ACalls Tryz.prog 80 [seekSV g free s, iv u] (· = .many [.sv (ints (hereL g free s u).1), .sv (bv (hereL g free s u).2)]) := by
  refine ACalls.of_bodyS (fun _ _ => Tryz.call80 _ _) Tryz.func80 rfl Tryz.ntmps80 (by simp) ?_
  refine Tr.ex ?_
  have hlen := isGraph_len hg
  have hu' : (u : Int) < g.length := by omega
  obtain ⟨x, hgx⟩ : ∃ x, g[u]? = some x := ⟨_, List.getElem?_eq_getElem hu⟩
  have hx := th_get hgx
  have hin : ((insL g.length free).map bv)[u]? = some (bv (decide ((u : Int) ∈ free))) := by
    unfold insL
    simp [List.getElem?_range hu]
  simp [go_sem, seekSV, hu, hu', hgx, gE hgx]
  refine DrawW.rd rfl ?_
  unfold hereL nodeOk
  rw [hx]
  by_cases c1 : x.kind = 2
  case neg =>
    have e1 : (x.kind == 2) = false := by simpa using c1
    simp [go_sem, bne, e1]
    show _ = true
    kernel_rfl
  have e1 : (x.kind == 2) = true := by simpa using c1
  by_cases c2 : (u : Int) ∈ free
  case neg =>
    simp [go_sem, bne, e1, c2, hu, hu', hin, gE hin, insL_len]
    show _ = true
    kernel_rfl
  have hc0 : 0 ≤ s.cores := by unfold isSpec inR at hs; simp only [Bool.and_eq_true, decide_eq_true_eq] at hs; omega
  have hp0 : 0 ≤ s.gpus := by unfold isSpec inR at hs; simp only [Bool.and_eq_true, decide_eq_true_eq] at hs; omega
  have hkc : ACalls Tryz.prog 107 [seekSV g free s, iv u, iv 3, iv s.cores] (· = .one (.sv (ints (coresL g free s u)))) := kind_c g free s u 3 s.cores hg hu hc0
  have hkg : ACalls Tryz.prog 107 [seekSV g free s, iv u, iv 4, iv s.gpus] (· = .one (.sv (ints (gpusL g free s u)))) := kind_c g free s u 4 s.gpus hg hu hp0
  have hcl : (coresL g free s u).length ≤ 256 := by
    unfold coresL ofKind
    have h1 := List.length_filter_le (fun n => decide (n ∈ free) && (th g n.toNat).kind == 3) (kidsL g u)
    have h2 := kidsL_len g u
    rw [List.length_take]; omega
  have hgl : (gpusL g free s u).length ≤ 256 := by
    unfold gpusL ofKind
    have h1 := List.length_filter_le (fun n => decide (n ∈ free) && (th g n.toNat).kind == 4) (kidsL g u)
    have h2 := kidsL_len g u
    rw [List.length_take]; omega
  generalize coresL g free s u = cs at *
  generalize gpusL g free s u = gs at *
  cases c3 : (s.tag.toList == [])
  case' true =>
    simp [go_sem, bne, e1, c2, c3, hu, hu', hin, gE hin, insL_len]
    refine ⟨by kernel_rfl, ?_⟩
  case' false =>
    cases c4 : (x.tag.toList == s.tag.toList)
    case' false =>
      simp [go_sem, bne, e1, c2, c3, c4, hu, hu', hin, gE hin, insL_len]
      refine (show _ = true from ?_)
      kernel_rfl
    case' true =>
      simp [go_sem, bne, e1, c2, c3, c4, hu, hu', hin, gE hin, insL_len]
      refine ⟨by kernel_rfl, ?_⟩
  all_goals
    refine DrawW.rd rfl ?_
    simp [go_sem]
    refine OpD.call false (hkc) rfl rfl (by simp [go_sem]) (fun h => by cases h) (by simp [go_sem]) (by simp [go_sem]) ?_
    simp [go_sem]
    refine OpD.call false (hkg) rfl rfl (by simp [go_sem]) (fun h => by cases h) (by simp [go_sem]) (by simp [go_sem]) ?_
    simp [go_sem]
    refine ⟨by kernel_rfl, ?_⟩
    by_cases d1 : (cs.length : Int) < s.cores
    · simp [go_sem, d1]
    by_cases d2 : (gs.length : Int) < s.gpus
    · simp [go_sem, d1, d2]
    cases hw : s.whole with
    | false =>
      simp [go_sem, d1, d2, hw]
      refine OpW.fn false (Join_c cs gs (by omega) (by omega)) rfl rfl (by simp [go_sem]) (fun h => by cases h) ?_
      rintro r rfl
      simp [go_sem]
    | true =>
      have hr : (List.range g.length)[u]? = some u := List.getElem?_range hu
      have hkt : kidsTo g g.length u = kidsL g u := rfl
      have hkm : ∀ n ∈ kidsL g u, 0 ≤ n ∧ n < g.length := fun n hn => ⟨(kidsL_mem hn).1, (kidsL_mem hn).2.1⟩
      have hkl := kidsL_len g u
      simp [go_sem, d1, d2, hw, hu, hu', hr, hkt]
      generalize kidsL g u = ks at *
      refine LoopW.of (fun i : Nat => ⟨123, [(0, .sv (seekSV g free s)), (1, .sv (iv u)), (4, .nil), (5, .sv (bv false)), (98, .sv (ints ks)), (99, .sv (iv ks.length)), (100, .sv (iv i))], []⟩)
        (fun i => i ≤ ks.length ∧ ∀ n ∈ ks.take i, n ∈ free) (fun i => ks.length - i) 0 ⟨by omega, by simp⟩ (Ent.chk (by simp [go_sem, hw])) ?_
      rintro i ⟨hi, hp⟩
      by_cases hlt : i < ks.length
      · have hlt' : (i : Int) < ks.length := by omega
        obtain ⟨n, hn⟩ : ∃ x, ks[i]? = some x := ⟨_, List.getElem?_eq_getElem hlt⟩
        have hw1 : IntKind.i64.wrap ((i : Int) + 1) = (i : Int) + 1 := by rw [i64w] <;> omega
        obtain ⟨hn0, hn1⟩ := hkm n (List.mem_of_getElem? hn)
        have hnn : n.toNat < g.length := by omega
        have hin2 : ((insL g.length free).map bv)[n.toNat]? = some (bv (decide (n ∈ free))) := by
          unfold insL
          have : ((n.toNat : Nat) : Int) = n := by omega
          simp [List.getElem?_range hnn, this]
        by_cases f1 : n ∈ free
        · simp [go_sem, hw, hlt, hlt', hn, gE hn, hn0, hn1, hnn, hin2, gE hin2, f1, insL_len]
          refine ⟨i + 1, ⟨by omega, ?_⟩, by omega, Ent.chk (by simp [go_sem, hw, hw1])⟩
          rw [List.take_succ_eq_append_getElem hlt, gE hn]
          intro m hm
          rcases List.mem_append.1 hm with h | h
          · exact hp m h
          · simp at h; subst h; exact f1
        · have hno : ¬ ∀ x ∈ ks, x ∈ free := fun h => f1 (h n (List.mem_of_getElem? hn))
          simp [go_sem, hw, hlt, hlt', hn, gE hn, hn0, hn1, hnn, hin2, gE hin2, f1, hno, insL_len]
      · have hil : i = ks.length := by omega
        subst hil
        rw [List.take_length] at hp
        have hall : ∀ x ∈ ks, x ∈ free := hp
        have hif : (if ∀ x ∈ ks, x ∈ free then ((u : Int) :: ks, true) else ([], false)) = ((u : Int) :: ks, true) := if_pos hall
        rw [hif]
        simp [go_sem, hw, hu, hu', hr, hkt]
        omega
end Go.Proofs.YtinhfnbmgmociaaGreatDoor.Ab

namespace Go.Proofs.YtinhfnbmgmociaaGreatDoor.Ab
open Go.RowKit
set_option linter.unusedVariables false
set_option linter.unusedSimpArgs false

def suitsL (g : List Thing) (free : List Int) (s : Spec) (n : Int) : Bool := mayB g free s && decide (0 ≤ n) && decide (n < g.length) && (hereL g free s n.toNat).2
def manyTo (g : List Thing) (free : List Int) (s : Spec) (i : Nat) : Nat := ((List.range i).filter fun u => (hereL g free s u).2).length
theorem manyTo_succ (g : List Thing) (free : List Int) (s : Spec) (i : Nat) : manyTo g free s (i + 1) = if (hereL g free s i).2 = true then manyTo g free s i + 1 else manyTo g free s i := by
  unfold manyTo
  rw [List.range_succ, List.filter_append, List.length_append]
  cases h : (hereL g free s i).2 <;> simp [h]
theorem manyTo_le (g : List Thing) (free : List Int) (s : Spec) (i : Nat) : manyTo g free s i ≤ i := by
  unfold manyTo
  exact Nat.le_trans (List.length_filter_le _ _) (by simp)
def manyL (g : List Thing) (free : List Int) (s : Spec) : Nat := if mayB g free s = true then manyTo g free s g.length else 0
end Go.Proofs.YtinhfnbmgmociaaGreatDoor.Ab

namespace Go.Proofs.YtinhfnbmgmociaaGreatDoor.Ab
open Go.RowKit
set_option linter.unusedVariables false
set_option linter.unusedSimpArgs false

theorem take_snoc {α : Type} (l : List α) (x : α) (k : Nat) : (l ++ [x]).take k = if l.length < k then l.take k ++ [x] else l.take k := by
  by_cases h : l.length < k
  · rw [if_pos h, List.take_of_length_le (by simp; omega), List.take_of_length_le (by omega)]
  · rw [if_neg h, List.take_append_of_le_length (by omega)]
theorem set_filter {l : List Int} (p : Int → Bool) (h : isSet l = true) : isSet (l.filter p) = true := by
  rw [isSet_iff] at h ⊢
  exact ⟨h.1.sublist List.filter_sublist, fun n hn => h.2 n (List.mem_filter.1 hn).1⟩
theorem set_sub {l m : List Int} (hs : m.Sublist l) (h : isSet l = true) : isSet m = true := by
  rw [isSet_iff] at h ⊢
  exact ⟨h.1.sublist hs, fun n hn => h.2 n (hs.subset hn)⟩
theorem kidsL_eq (g : List Thing) (u : Nat) : kidsL g u = rangeF (fun j => decide (2 < (th g j).kind) && (th g j).up == (u : Int)) g.length := rfl
theorem kidsL_set {g : List Thing} (hg : isGraph g = true) (u : Nat) : isSet (kidsL g u) = true := by
  rw [kidsL_eq]; exact rangeF_set _ (isGraph_len hg).2
theorem kidsL_iff {g : List Thing} {u : Nat} {n : Int} : n ∈ kidsL g u ↔ 0 ≤ n ∧ n < g.length ∧ 2 < (th g n.toNat).kind ∧ (th g n.toNat).up = u := by
  rw [kidsL_eq, mem_rangeF]; simp
theorem kidsL_gt {g : List Thing} (hg : isGraph g = true) {u : Nat} {n : Int} (h : n ∈ kidsL g u) : (u : Int) < n := by
  rw [kidsL_iff] at h
  have := isGraph_le hg (i := n.toNat) (by omega)
  omega
theorem ofKind_set {g : List Thing} {free : List Int} {k : Int} {l : List Int} (h : isSet l = true) : isSet (ofKind g free k l) = true := set_filter _ h
theorem coresL_set {g : List Thing} (hg : isGraph g = true) (free : List Int) (s : Spec) (u : Nat) : isSet (coresL g free s u) = true := isSet_take (ofKind_set (kidsL_set hg u))
theorem gpusL_set {g : List Thing} (hg : isGraph g = true) (free : List Int) (s : Spec) (u : Nat) : isSet (gpusL g free s u) = true := isSet_take (ofKind_set (kidsL_set hg u))
theorem ofKind_mem {g : List Thing} {free : List Int} {k : Int} {l : List Int} {n : Int} : n ∈ ofKind g free k l ↔ n ∈ l ∧ n ∈ free ∧ (th g n.toNat).kind = k := by unfold ofKind; simp
/-- What is under a node: it and its cores and gpus. -/
theorem under_node {g : List Thing} (hg : isGraph g = true) {u : Nat} (hu : u < g.length) (h2 : (th g u).kind = 2) : underL g u = (u : Int) :: kidsL g u := by
  have hth : thereB g u = true := thereB_iff.2 ⟨by omega, by omega, hg⟩
  refine sorted_ext (isSet_iff.1 (underL_set g u)).1 (List.pairwise_cons.2 ⟨fun n hn => kidsL_gt hg hn, (isSet_iff.1 (kidsL_set hg u)).1⟩) fun n => ?_
  rw [underL_mem, List.mem_cons, kidsL_iff]
  simp only [Int.toNat_natCast]
  constructor
  · rintro ⟨_, h0, hn, hin⟩
    by_cases e : u = n.toNat
    · left; omega
    · right
      have hl := inU_level hg (k := n.toNat) (by omega) hin e
      have hr := kind_rng hg (i := n.toNat) (by omega)
      have h3 : (th g n.toNat).kind = 3 ∨ (th g n.toNat).kind = 4 := by
        rw [h2] at hl; unfold level at hl
        rcases hr with h | h | h | h | h
        · rw [h] at hl; exact absurd hl (by decide)
        · rw [h] at hl; exact absurd hl (by decide)
        · rw [h] at hl; exact absurd hl (by decide)
        · exact .inl h
        · exact .inr h
      exact ⟨h0, hn, by omega, (leaf_node hg (by omega) h3 h2).1 hin⟩
  · rintro (rfl | ⟨h0, hn, hk, hup⟩)
    · exact ⟨hth, by omega, by omega, by simp [inU_refl]⟩
    · have hr := kind_rng hg (i := n.toNat) (by omega)
      have h3 : (th g n.toNat).kind = 3 ∨ (th g n.toNat).kind = 4 := by omega
      exact ⟨hth, h0, hn, (leaf_node hg (by omega) h3 h2).2 hup⟩
theorem nodeOk_iff {g : List Thing} {free : List Int} {s : Spec} {u : Nat} : nodeOk g free s u = true ↔ (th g u).kind = 2 ∧ (u : Int) ∈ free ∧ (s.tag.toList = [] ∨ (th g u).tag.toList = s.tag.toList) := by
  unfold nodeOk; simp [and_assoc]
theorem nat_lt_take {a : List Int} {c : Int} (hc : 0 ≤ c) : ((a.take c.toNat).length : Int) < c ↔ (a.length : Int) < c := by
  rw [List.length_take]; omega
theorem here_ok {g : List Thing} {free : List Int} {s : Spec} {u : Nat} (hc : 0 ≤ s.cores) (hp : 0 ≤ s.gpus) : (hereL g free s u).2 = true ↔
    nodeOk g free s u = true ∧ s.cores ≤ ((ofKind g free 3 (kidsL g u)).length : Int) ∧ s.gpus ≤ ((ofKind g free 4 (kidsL g u)).length : Int) ∧ (s.whole = true → ∀ n ∈ kidsL g u, n ∈ free) := by
  unfold hereL coresL gpusL
  simp only [nat_lt_take hc, nat_lt_take hp]
  cases h : nodeOk g free s u with
  | false => simp
  | true =>
    simp only [if_true, true_and]
    by_cases h1 : ((ofKind g free 3 (kidsL g u)).length : Int) < s.cores
    · rw [if_pos (.inl h1)]; simp; omega
    · by_cases h2 : ((ofKind g free 4 (kidsL g u)).length : Int) < s.gpus
      · rw [if_pos (.inr h2)]; simp; omega
      · rw [if_neg (by omega)]
        have e1 : s.cores ≤ ((ofKind g free 3 (kidsL g u)).length : Int) := by omega
        have e2 : s.gpus ≤ ((ofKind g free 4 (kidsL g u)).length : Int) := by omega
        simp only [e1, e2, true_and]
        cases hw : s.whole with
        | false => simp
        | true =>
          simp only [if_true, true_implies, List.all_eq_true, decide_eq_true_eq]
          by_cases ha : ∀ n ∈ kidsL g u, n ∈ free
          · rw [if_pos ha]; simpa using ha
          · rw [if_neg ha]; simpa using ha
theorem here_no {g : List Thing} {free : List Int} {s : Spec} {u : Nat} (h : (hereL g free s u).2 = false) : (hereL g free s u).1 = [] := by
  revert h; unfold hereL
  split
  · split
    · intro _; rfl
    · split
      · split
        · intro h; cases h
        · intro _; rfl
      · intro h; cases h
  · intro _; rfl
theorem here_whole {g : List Thing} {free : List Int} {s : Spec} {u : Nat} (h : (hereL g free s u).2 = true) (hw : s.whole = true) : (hereL g free s u).1 = (u : Int) :: kidsL g u := by
  revert h; unfold hereL; rw [hw]
  simp only [if_true]
  split
  · split
    · intro h; cases h
    · split
      · intro _; rfl
      · intro h; cases h
  · intro h; cases h
theorem here_part {g : List Thing} {free : List Int} {s : Spec} {u : Nat} (h : (hereL g free s u).2 = true) (hw : s.whole = false) : (hereL g free s u).1 = joinL (coresL g free s u) (gpusL g free s u) := by
  revert h; unfold hereL; rw [hw]
  simp only [Bool.false_eq_true, if_false]
  split
  · split
    · intro h; cases h
    · intro _; rfl
  · intro h; cases h
theorem here_node {g : List Thing} {free : List Int} {s : Spec} {u : Nat} (h : (hereL g free s u).2 = true) : nodeOk g free s u = true := by
  revert h; unfold hereL
  split
  · rename_i h; intro _; exact h
  · intro h; cases h
theorem here_set {g : List Thing} (hg : isGraph g = true) {u : Nat} (hu : u < g.length) (free : List Int) (s : Spec) : isSet (hereL g free s u).1 = true := by
  cases h : (hereL g free s u).2 with
  | false => rw [here_no h]; rfl
  | true =>
    cases hw : s.whole with
    | true => rw [here_whole h hw, ← under_node hg hu (nodeOk_iff.1 (here_node h)).1]; exact underL_set _ _
    | false => rw [here_part h hw]; exact joinL_set _ _
theorem cores_sub {g : List Thing} {free : List Int} {s : Spec} {u : Nat} {n : Int} (h : n ∈ coresL g free s u) : n ∈ kidsL g u ∧ n ∈ free ∧ (th g n.toNat).kind = 3 := ofKind_mem.1 (List.mem_of_mem_take h)
theorem gpus_sub {g : List Thing} {free : List Int} {s : Spec} {u : Nat} {n : Int} (h : n ∈ gpusL g free s u) : n ∈ kidsL g u ∧ n ∈ free ∧ (th g n.toNat).kind = 4 := ofKind_mem.1 (List.mem_of_mem_take h)
/-- What is got in a node is free, and under it. -/
theorem here_mem {g : List Thing} (hg : isGraph g = true) {free : List Int} {s : Spec} {u : Nat} (hc : 0 ≤ s.cores) (hp : 0 ≤ s.gpus) {n : Int} (hn : n ∈ (hereL g free s u).1) : n ∈ free ∧ (n = u ∨ n ∈ kidsL g u) := by
  cases h : (hereL g free s u).2 with
  | false => rw [here_no h] at hn; cases hn
  | true =>
    cases hw : s.whole with
    | true =>
      rw [here_whole h hw] at hn
      have h2 := nodeOk_iff.1 (here_node h)
      have h3 := ((here_ok hc hp).1 h).2.2.2 hw
      rcases List.mem_cons.1 hn with rfl | hn
      · exact ⟨h2.2.1, .inl rfl⟩
      · exact ⟨h3 n hn, .inr hn⟩
    | false =>
      rw [here_part h hw, joinL_mem (coresL_set hg _ _ _) (gpusL_set hg _ _ _)] at hn
      rcases hn with hn | hn
      · exact ⟨(cores_sub hn).2.1, .inr (cores_sub hn).1⟩
      · exact ⟨(gpus_sub hn).2.1, .inr (gpus_sub hn).1⟩
/-- The nodes that are taken, of the first i things. -/
def selTo (g : List Thing) (free : List Int) (s : Spec) (i : Nat) : List Nat := ((List.range i).filter fun u => (hereL g free s u).2).take s.nodes.toNat
def outOf (g : List Thing) (free : List Int) (s : Spec) (l : List Nat) : List Int := l.foldl (fun o u => joinL o (hereL g free s u).1) []
def outTo (g : List Thing) (free : List Int) (s : Spec) (i : Nat) : List Int := outOf g free s (selTo g free s i)
def findL (g : List Thing) (free : List Int) (s : Spec) : List Int × Bool :=
  if mayB g free s = true then (if ((selTo g free s g.length).length : Int) < s.nodes then ([], false) else (outTo g free s g.length, true)) else ([], false)
theorem selTo_succ (g : List Thing) (free : List Int) (s : Spec) (i : Nat) : selTo g free s (i + 1) = if (hereL g free s i).2 = true ∧ (selTo g free s i).length < s.nodes.toNat then selTo g free s i ++ [i] else selTo g free s i := by
  unfold selTo
  rw [List.range_succ, List.filter_append]
  cases h : (hereL g free s i).2 with
  | false => simp [h]
  | true =>
    simp only [List.filter_cons, h, if_true, List.filter_nil, true_and]
    rw [take_snoc]
    have : ((List.take s.nodes.toNat (List.filter (fun u => (hereL g free s u).2) (List.range i))).length < s.nodes.toNat) ↔ (List.filter (fun u => (hereL g free s u).2) (List.range i)).length < s.nodes.toNat := by rw [List.length_take]; omega
    by_cases hl : (List.filter (fun u => (hereL g free s u).2) (List.range i)).length < s.nodes.toNat
    · rw [if_pos hl, if_pos (this.2 hl)]
    · rw [if_neg hl, if_neg (fun h => hl (this.1 h))]
theorem selTo_le (g : List Thing) (free : List Int) (s : Spec) (i : Nat) : (selTo g free s i).length ≤ s.nodes.toNat ∧ (selTo g free s i).length ≤ i := by
  unfold selTo
  have := List.length_filter_le (fun u => (hereL g free s u).2) (List.range i)
  rw [List.length_range] at this
  rw [List.length_take]; omega
theorem selTo_many (g : List Thing) (free : List Int) (s : Spec) (i : Nat) : (selTo g free s i).length = min s.nodes.toNat (manyTo g free s i) := by
  unfold selTo manyTo; rw [List.length_take]
theorem selTo_stay {g : List Thing} {free : List Int} {s : Spec} {i : Nat} (h : (selTo g free s i).length = s.nodes.toNat) : ∀ j, selTo g free s (i + j) = selTo g free s i := by
  intro j
  induction j with
  | zero => rfl
  | succ j ih => rw [← Nat.add_assoc, selTo_succ, ih, if_neg (by omega)]
theorem selTo_mem {g : List Thing} {free : List Int} {s : Spec} {i u : Nat} (h : u ∈ selTo g free s i) : u < i ∧ (hereL g free s u).2 = true := by
  have := List.mem_of_mem_take h
  simp only [List.mem_filter, List.mem_range] at this
  exact this
theorem selTo_nodup (g : List Thing) (free : List Int) (s : Spec) (i : Nat) : (selTo g free s i).Nodup :=
  List.Nodup.sublist ((List.take_sublist _ _).trans List.filter_sublist) List.nodup_range
theorem outOf_snoc (g : List Thing) (free : List Int) (s : Spec) (l : List Nat) (u : Nat) : outOf g free s (l ++ [u]) = joinL (outOf g free s l) (hereL g free s u).1 := by unfold outOf; rw [List.foldl_append]; rfl
theorem outTo_succ (g : List Thing) (free : List Int) (s : Spec) (i : Nat) : outTo g free s (i + 1) = if (hereL g free s i).2 = true ∧ (selTo g free s i).length < s.nodes.toNat then joinL (outTo g free s i) (hereL g free s i).1 else outTo g free s i := by
  unfold outTo
  rw [selTo_succ]
  split
  · rw [outOf_snoc]
  · rfl
theorem outTo_zero (g : List Thing) (free : List Int) (s : Spec) : outTo g free s 0 = [] := by unfold outTo selTo outOf; simp
theorem outTo_set (g : List Thing) (free : List Int) (s : Spec) : ∀ i, isSet (outTo g free s i) = true := by
  intro i
  induction i with
  | zero => rw [outTo_zero]; rfl
  | succ i ih => rw [outTo_succ]; split; exact joinL_set _ _; exact ih
theorem outTo_mem {g : List Thing} (hg : isGraph g = true) {free : List Int} {s : Spec} {n : Int} : ∀ {i : Nat}, i ≤ g.length → (n ∈ outTo g free s i ↔ ∃ u ∈ selTo g free s i, n ∈ (hereL g free s u).1) := by
  intro i
  induction i with
  | zero => intro _; unfold outTo selTo outOf; simp
  | succ i ih =>
    intro hi
    rw [outTo_succ, selTo_succ]
    split
    · rw [joinL_mem (outTo_set _ _ _ _) (here_set hg (by omega) _ _), ih (by omega)]
      constructor
      · rintro (⟨u, hu, hn⟩ | hn)
        · exact ⟨u, List.mem_append.2 (.inl hu), hn⟩
        · exact ⟨i, List.mem_append.2 (.inr (List.mem_singleton.2 rfl)), hn⟩
      · rintro ⟨u, hu, hn⟩
        rcases List.mem_append.1 hu with hu | hu
        · exact .inl ⟨u, hu, hn⟩
        · rw [List.mem_singleton.1 hu] at hn; exact .inr hn
    · exact ih (by omega)
end Go.Proofs.YtinhfnbmgmociaaGreatDoor.Ab

namespace Go.Proofs.YtinhfnbmgmociaaGreatDoor.Ab
open Go.RowKit
set_option linter.unusedVariables false
set_option linter.unusedSimpArgs false

theorem ofKind_mono {g : List Thing} {a b : List Int} (h : ∀ n, n ∈ a → n ∈ b) (k : Int) (l : List Int) : (ofKind g a k l).length ≤ (ofKind g b k l).length := by
  unfold ofKind
  rw [← List.countP_eq_length_filter, ← List.countP_eq_length_filter]
  refine List.countP_mono_left fun x _ hx => ?_
  simp only [Bool.and_eq_true, decide_eq_true_eq, beq_iff_eq] at hx ⊢
  exact ⟨h _ hx.1, hx.2⟩
theorem here_mono {g : List Thing} {a b : List Int} {s : Spec} {u : Nat} (hc : 0 ≤ s.cores) (hp : 0 ≤ s.gpus) (h : ∀ n, n ∈ a → n ∈ b) (ho : (hereL g a s u).2 = true) : (hereL g b s u).2 = true := by
  rw [here_ok hc hp] at ho ⊢
  obtain ⟨h1, h2, h3, h4⟩ := ho
  rw [nodeOk_iff] at h1 ⊢
  have m3 := ofKind_mono (g := g) h 3 (kidsL g u)
  have m4 := ofKind_mono (g := g) h 4 (kidsL g u)
  exact ⟨⟨h1.1, h _ h1.2.1, h1.2.2⟩, by omega, by omega, fun hw n hn => h _ (h4 hw n hn)⟩
theorem ofKind_congr {g : List Thing} {a b : List Int} {k : Int} {l : List Int} (h : ∀ n ∈ l, (n ∈ a ↔ n ∈ b)) : ofKind g a k l = ofKind g b k l := by
  unfold ofKind
  refine List.filter_congr fun n hn => ?_
  rw [decide_eq_decide.2 (h n hn)]
theorem here_congr {g : List Thing} {a b : List Int} {s : Spec} {u : Nat} (h : ∀ n ∈ (u : Int) :: kidsL g u, (n ∈ a ↔ n ∈ b)) : hereL g a s u = hereL g b s u := by
  have h1 := h u List.mem_cons_self
  have h2 : ∀ n ∈ kidsL g u, (n ∈ a ↔ n ∈ b) := fun n hn => h n (List.mem_cons_of_mem _ hn)
  unfold hereL coresL gpusL nodeOk
  rw [ofKind_congr h2, ofKind_congr h2, decide_eq_decide.2 h1]
  have e : ((kidsL g u).all fun n => decide (n ∈ a)) = ((kidsL g u).all fun n => decide (n ∈ b)) := by
    rw [Bool.eq_iff_iff]
    simp only [List.all_eq_true, decide_eq_true_eq]
    exact ⟨fun hh n hn => (h2 n hn).1 (hh n hn), fun hh n hn => (h2 n hn).2 (hh n hn)⟩
  rw [e]
def noTag (s : Spec) : Spec := { s with tag := ⟨#[]⟩ }
theorem here_noTag {g : List Thing} {a : List Int} {s : Spec} {u : Nat} (hc : 0 ≤ s.cores) (hp : 0 ≤ s.gpus) : (hereL g a s u).2 = true ↔ (hereL g a (noTag s) u).2 = true ∧ (s.tag.toList = [] ∨ (th g u).tag.toList = s.tag.toList) := by
  rw [here_ok hc hp, here_ok (s := noTag s) hc hp, nodeOk_iff, nodeOk_iff]
  have e : (noTag s).tag.toList = [] := by show (ByteArray.mk #[]).toList = []; kernel_rfl
  rw [e]
  unfold noTag
  constructor
  · rintro ⟨⟨h1, h2, h3⟩, h4⟩
    exact ⟨⟨⟨h1, h2, .inl rfl⟩, h4⟩, h3⟩
  · rintro ⟨⟨⟨h1, h2, _⟩, h4⟩, h3⟩
    exact ⟨⟨h1, h2, h3⟩, h4⟩
def inPart (s : Spec) (b : Bool) : Spec := { s with whole := b }
theorem here_part_of {g : List Thing} {a : List Int} {s : Spec} {u : Nat} (hc : 0 ≤ s.cores) (hp : 0 ≤ s.gpus) (h : (hereL g a (inPart s true) u).2 = true) : (hereL g a (inPart s false) u).2 = true := by
  rw [here_ok (s := inPart s true) hc hp] at h
  rw [here_ok (s := inPart s false) hc hp]
  rw [nodeOk_iff] at h ⊢
  refine ⟨h.1, h.2.1, h.2.2.1, fun hw => ?_⟩
  unfold inPart at hw; cases hw
theorem manyTo_mono {g : List Thing} {a b : List Int} {s t : Spec} {i : Nat} (h : ∀ u, u < i → (hereL g a s u).2 = true → (hereL g b t u).2 = true) : manyTo g a s i ≤ manyTo g b t i := by
  unfold manyTo
  rw [← List.countP_eq_length_filter, ← List.countP_eq_length_filter]
  exact List.countP_mono_left fun x hx hp => h x (List.mem_range.1 hx) hp
theorem manyTo_nodes {g : List Thing} (hg : isGraph g = true) (a : List Int) (s : Spec) : manyTo g a s g.length ≤ (nodesL g).length := by
  unfold manyTo nodesL
  rw [if_pos hg, List.length_map, ← List.countP_eq_length_filter, ← List.countP_eq_length_filter]
  refine List.countP_mono_left fun x hx hp => ?_
  have := (nodeOk_iff.1 (here_node hp)).1
  simpa using this
/-- Is it had? As many nodes suit as are asked for. -/
theorem findL_ok {g : List Thing} {free : List Int} {s : Spec} : (findL g free s).2 = true ↔ mayB g free s = true ∧ s.nodes ≤ (manyTo g free s g.length : Int) := by
  unfold findL
  have h := selTo_many g free s g.length
  cases hm : mayB g free s with
  | false => simp
  | true =>
    simp only [if_true, true_and]
    by_cases hl : ((selTo g free s g.length).length : Int) < s.nodes
    · rw [if_pos hl]; simp; omega
    · rw [if_neg hl]; simp; omega
theorem findL_no {g : List Thing} {free : List Int} {s : Spec} (h : (findL g free s).2 = false) : (findL g free s).1 = [] := by
  revert h; unfold findL
  split
  · split
    · intro _; rfl
    · intro h; cases h
  · intro _; rfl
theorem findL_yes {g : List Thing} {free : List Int} {s : Spec} (h : (findL g free s).2 = true) : (findL g free s).1 = outTo g free s g.length ∧ ((selTo g free s g.length).length : Int) = s.nodes := by
  have hk := findL_ok.1 h
  have h2 := selTo_le g free s g.length
  have h3 := selTo_many g free s g.length
  unfold findL
  rw [if_pos hk.1, if_neg (by omega)]
  refine ⟨rfl, ?_⟩
  have : (0 : Int) ≤ s.nodes := by
    have := hk.1; unfold mayB isSpec inR at this
    simp only [Bool.and_eq_true, decide_eq_true_eq] at this; omega
  omega
theorem findL_set (g : List Thing) (free : List Int) (s : Spec) : isSet (findL g free s).1 = true := by
  cases h : (findL g free s).2 with
  | false => rw [findL_no h]; rfl
  | true => rw [(findL_yes h).1]; exact outTo_set _ _ _ _
theorem spec_nn {s : Spec} (h : isSpec s = true) : 0 ≤ s.cores ∧ 0 ≤ s.gpus ∧ 1 ≤ s.nodes ∧ s.nodes ≤ 64 ∧ s.cores ≤ 64 ∧ s.gpus ≤ 64 := by
  unfold isSpec inR at h
  simp only [Bool.and_eq_true, decide_eq_true_eq] at h; omega
theorem mayB_iff {g : List Thing} {free : List Int} {s : Spec} : mayB g free s = true ↔ isGraph g = true ∧ isSet free = true ∧ isSpec s = true := by unfold mayB; simp [and_assoc]
theorem kids_apart {g : List Thing} {u v : Nat} {n : Int} (h1 : n ∈ kidsL g u) (h2 : n ∈ kidsL g v) : u = v := by
  rw [kidsL_iff] at h1 h2; omega
theorem kids_node {g : List Thing} {u : Nat} {n : Int} (h1 : n ∈ kidsL g u) : 2 < (th g n.toNat).kind := (kidsL_iff.1 h1).2.2.1
/-- What is got, and under a node: what is got in it, or nothing. -/
theorem got_under {g : List Thing} (hg : isGraph g = true) {free : List Int} {s : Spec} (hs : isSpec s = true) {a : Nat} (ha : a < g.length) (h2 : (th g a).kind = 2) (n : Int) :
    (n ∈ outTo g free s g.length ∧ n ∈ underL g a) ↔ (a ∈ selTo g free s g.length ∧ n ∈ (hereL g free s a).1) := by
  have hn := spec_nn hs
  rw [outTo_mem hg (Nat.le_refl _), under_node hg ha h2]
  constructor
  · rintro ⟨⟨u, hu, hm⟩, hna⟩
    have hmu := here_mem hg hn.1 hn.2.1 hm
    have hsel := selTo_mem hu
    have h2u := (nodeOk_iff.1 (here_node hsel.2)).1
    have e : u = a := by
      rcases hmu.2 with rfl | hk
      · rcases List.mem_cons.1 hna with e | hk2
        · omega
        · have := kids_node hk2; simp only [Int.toNat_natCast] at this; omega
      · rcases List.mem_cons.1 hna with e | hk2
        · have := kids_node hk; rw [e] at this; simp only [Int.toNat_natCast] at this; omega
        · exact kids_apart hk hk2
    subst e
    exact ⟨hu, hm⟩
  · rintro ⟨hu, hm⟩
    have hmu := here_mem hg hn.1 hn.2.1 hm
    exact ⟨⟨a, hu, hm⟩, List.mem_cons.2 hmu.2⟩
theorem meet_sel {g : List Thing} (hg : isGraph g = true) {free : List Int} {s : Spec} (hs : isSpec s = true) {a : Nat} (ha : a < g.length) (h2 : (th g a).kind = 2) :
    meetL (outTo g free s g.length) (underL g a) = if a ∈ selTo g free s g.length then (hereL g free s a).1 else [] := by
  have hset : isSet (if a ∈ selTo g free s g.length then (hereL g free s a).1 else []) = true := by split; exact here_set hg ha _ _; rfl
  refine set_ext (meetL_set _ _) hset fun n => ?_
  rw [meetL_mem (outTo_set _ _ _ _) (underL_set _ _), got_under hg hs ha h2]
  by_cases h : a ∈ selTo g free s g.length
  · rw [if_pos h]; simp [h]
  · rw [if_neg h]; simp [h]
/-- The nodes that are taken are nodes. -/
theorem sel_nodes {g : List Thing} (hg : isGraph g = true) (free : List Int) (s : Spec) : ((nodesL g).filter fun a => decide (a.toNat ∈ selTo g free s g.length)).length = (selTo g free s g.length).length := by
  have e : ((nodesL g).filter fun a => decide (a.toNat ∈ selTo g free s g.length)) = rangeF (fun i => decide (i ∈ selTo g free s g.length)) g.length := by
    refine sorted_ext (List.Pairwise.sublist List.filter_sublist (nodesL_sorted g)) (rangeF_sorted _ _) fun n => ?_
    rw [List.mem_filter, nodesL_mem, mem_rangeF]
    simp only [decide_eq_true_eq]
    constructor
    · rintro ⟨⟨_, h0, h1, _⟩, h3⟩; exact ⟨h0, h1, h3⟩
    · rintro ⟨h0, h1, h3⟩; exact ⟨⟨hg, h0, h1, (nodeOk_iff.1 (here_node (selTo_mem h3).2)).1⟩, h3⟩
  rw [e]
  unfold rangeF
  rw [List.length_map]
  have hp : ((List.range g.length).filter fun i => decide (i ∈ selTo g free s g.length)).Perm (selTo g free s g.length) := by
    rw [List.perm_ext_iff_of_nodup (List.nodup_range.sublist List.filter_sublist) (selTo_nodup _ _ _ _)]
    intro i
    simp only [List.mem_filter, List.mem_range, decide_eq_true_eq]
    exact ⟨fun h => h.2, fun h => ⟨(selTo_mem h).1, h⟩⟩
  exact hp.length_eq
end Go.Proofs.YtinhfnbmgmociaaGreatDoor.Ab

namespace Go.Proofs.YtinhfnbmgmociaaGreatDoor.Ab
open Go.RowKit
set_option linter.unusedVariables false
set_option linter.unusedSimpArgs false

def leftTo (g : List Thing) (free : List Int) (s : Spec) (i : Nat) : Int := s.nodes - (selTo g free s i).length
theorem leftTo_rng {g : List Thing} {free : List Int} {s : Spec} (hs : isSpec s = true) (i : Nat) : 0 ≤ leftTo g free s i ∧ leftTo g free s i ≤ 64 := by
  have h1 := spec_nn hs
  have h2 := selTo_le g free s i
  unfold leftTo; omega
theorem leftTo_succ {g : List Thing} {free : List Int} {s : Spec} (hs : isSpec s = true) (i : Nat) : leftTo g free s (i + 1) = if (hereL g free s i).2 = true ∧ 0 < leftTo g free s i then leftTo g free s i - 1 else leftTo g free s i := by
  have h1 := spec_nn hs
  unfold leftTo
  rw [selTo_succ]
  by_cases h : (hereL g free s i).2 = true ∧ (selTo g free s i).length < s.nodes.toNat
  · rw [if_pos h, if_pos ⟨h.1, by omega⟩]; simp; omega
  · rw [if_neg h, if_neg (fun h2 => h ⟨h2.1, by omega⟩)]
theorem outTo_left {g : List Thing} {free : List Int} {s : Spec} (hs : isSpec s = true) (i : Nat) : outTo g free s (i + 1) = if (hereL g free s i).2 = true ∧ 0 < leftTo g free s i then joinL (outTo g free s i) (hereL g free s i).1 else outTo g free s i := by
  have h1 := spec_nn hs
  rw [outTo_succ]
  unfold leftTo
  by_cases h : (hereL g free s i).2 = true ∧ (selTo g free s i).length < s.nodes.toNat
  · rw [if_pos h, if_pos ⟨h.1, by omega⟩]
  · rw [if_neg h, if_neg (fun h2 => h ⟨h2.1, by omega⟩)]
theorem left_stay {g : List Thing} {free : List Int} {s : Spec} (hs : isSpec s = true) {i n : Nat} (hi : i ≤ n) (h : leftTo g free s i ≤ 0) : leftTo g free s n = leftTo g free s i ∧ outTo g free s n = outTo g free s i := by
  have h1 := spec_nn hs
  have h2 := selTo_le g free s i
  obtain ⟨k, rfl⟩ := Nat.exists_eq_add_of_le hi
  unfold leftTo at h ⊢
  unfold outTo
  rw [selTo_stay (by omega) k]
  exact ⟨rfl, rfl⟩
theorem findL_eq {g : List Thing} {free : List Int} {s : Spec} : findL g free s = if mayB g free s = true then (if 0 < leftTo g free s g.length then ([], false) else (outTo g free s g.length, true)) else ([], false) := by
  unfold findL leftTo
  by_cases h : ((selTo g free s g.length).length : Int) < s.nodes
  · rw [if_pos h, if_pos (by omega : 0 < s.nodes - ((selTo g free s g.length).length : Int))]
  · rw [if_neg h, if_neg (by omega : ¬ 0 < s.nodes - ((selTo g free s g.length).length : Int))]
theorem here_len (g : List Thing) (free : List Int) (s : Spec) (u : Nat) (hg : g.length ≤ 256) : (hereL g free s u).1.length ≤ 257 := by
  cases h : (hereL g free s u).2 with
  | false => rw [here_no h]; simp
  | true =>
    cases hw : s.whole with
    | true => rw [here_whole h hw]; have := kidsL_len g u; simp; omega
    | false => rw [here_part h hw]; have := set_len (joinL_set (coresL g free s u) (gpusL g free s u)); omega
set_option maxHeartbeats 4000000 in
set_option maxRecDepth 100000 in
theorem Find_c (g : List Thing) (free : List Int) (s : Spec) (hg : g.length ≤ 140737488355328) (ht : Things g) (hf : free.length ≤ 140737488355328) (hs : s.tag.size ≤ 140737488351232) : ACalls Tryz.prog 53 [things g, ints free, specSV s] (· = .many [.sv (ints (findL g free s).1), .sv (bv (findL g free s).2)]) := by
  refine ACalls.of_bodyS (fun _ _ => Tryz.call53 _ _) Tryz.func53 rfl Tryz.ntmps53 (by simp) ?_
  refine Tr.ex ?_
  rw [findL_eq]
  simp [go_sem]
  refine OpW.fn true (may_c g free s hg ht hf hs) rfl rfl (by simp [go_sem]) (by rintro _ r rfl; simp [go_sem]) ?_
  rintro r rfl
  cases hm : mayB g free s with
  | false => simp [go_sem]
  | true =>
    have hm' := hm
    unfold mayB at hm
    simp only [Bool.and_eq_true] at hm
    have hgl := isGraph_len hm.1.1
    simp [go_sem]
    refine OpW.fn false (seek_c g free s hm.1.1 ht hm.1.2 hf) rfl rfl (by simp [go_sem]) (fun h => by cases h) ?_
    rintro r rfl
    simp [go_sem]
    refine LoopW.of (fun i : Nat => ⟨50, [(0, .sv (things g)), (6, .nil), (7, .sv (bv false)), (8, .sv (seekSV g free s)), (9, .sv (ints (outTo g free s i))), (10, .sv (iv (leftTo g free s i))), (11, .sv (iv i))], []⟩)
      (fun i => i ≤ g.length) (fun i => g.length - i) 0 (by omega) ?_ ?_
    · have e : outTo g free s 0 = [] := outTo_zero g free s
      have e2 : leftTo g free s 0 = s.nodes := by unfold leftTo selTo; simp
      rw [e, e2]
      refine Ent.trans (Ent.nilS (d := 9) (by simp [go_sem])) (Ent.chk (by simp [go_sem]))
    rintro i hi
    have hlr := leftTo_rng (g := g) (free := free) hm.2 i
    have hls := leftTo_succ (g := g) (free := free) hm.2 i
    have hos := outTo_left (g := g) (free := free) hm.2 i
    have hol := set_len (outTo_set g free s i)
    have hst := left_stay (g := g) (free := free) hm.2 hi
    by_cases hlt : i < g.length
    · have hlt' : (i : Int) < g.length := by omega
      have hw : IntKind.i64.wrap ((i : Int) + 1) = (i : Int) + 1 := by rw [i64w] <;> omega
      by_cases hl0 : 0 < leftTo g free s i
      · have hw2 : IntKind.i64.wrap (leftTo g free s i - 1) = leftTo g free s i - 1 := by rw [i64w] <;> omega
        simp [go_sem, hlt', hl0]
        refine OpW.fn false (here_c g free s i hm.1.1 hlt hm.2) rfl rfl (by simp [go_sem]) (fun h => by cases h) ?_
        rintro r rfl
        cases hh : (hereL g free s i).2 with
        | true =>
          have hhl := here_len g free s i hgl.2
          rw [hh, if_pos ⟨rfl, hl0⟩] at hls hos
          simp [go_sem]
          refine OpW.fn false (Join_c (outTo g free s i) (hereL g free s i).1 (by omega) (by omega)) rfl rfl (by simp [go_sem]) (fun h => by cases h) ?_
          rintro r rfl
          simp [go_sem]
          exact ⟨i + 1, by omega, by omega, Ent.chk (by simp [go_sem, hw, hw2, hls, hos])⟩
        | false =>
          rw [hh, if_neg (by simp)] at hls hos
          simp [go_sem]
          exact ⟨i + 1, by omega, by omega, Ent.chk (by simp [go_sem, hw, hls, hos])⟩
      · have hst2 := hst (by omega)
        rw [hst2.1, hst2.2, if_neg hl0]
        simp [go_sem, hlt', hl0]
    · have hil : i = g.length := by omega
      subst hil
      by_cases hl0 : 0 < leftTo g free s g.length
      · rw [if_pos hl0]
        simp [go_sem, hl0]
      · rw [if_neg hl0]
        simp [go_sem, hl0]
def couldB (g : List Thing) (s : Spec) : Bool := (findL g (underL g 0) s).2
end Go.Proofs.YtinhfnbmgmociaaGreatDoor.Ab

namespace Go.Proofs.YtinhfnbmgmociaaGreatDoor.Ab
open Go.RowKit
set_option linter.unusedVariables false
set_option linter.unusedSimpArgs false

def orP (a b : List Int) (i : Nat) : Bool := decide ((i : Int) ∈ a) || decide ((i : Int) ∈ b)
set_option maxHeartbeats 4000000 in
set_option maxRecDepth 100000 in
theorem Which0_c (a b : List Int) (ha : a.length ≤ 140737488355328) (hb : b.length ≤ 140737488355328) : ACalls Tryz.prog 94 [ints a, ints b, iv 0] (· = .one (.sv (ints (joinL a b)))) := by
  refine ACalls.of_bodyS (fun _ _ => Tryz.call94 _ _) Tryz.func94 rfl Tryz.ntmps94 (by simp) ?_
  refine Tr.ex ?_
  unfold joinL opL
  simp [go_sem]
  refine OpW.fn true (r1Right_c a ha) rfl rfl (by simp [go_sem]) (by rintro _ r rfl; simp [go_sem]) ?_
  rintro r rfl
  cases h1 : isSet a with
  | false => simp [go_sem]
  | true =>
    simp [go_sem]
    refine OpW.fn true (r1Right_c b hb) rfl rfl (by simp [go_sem]) (by rintro _ r rfl; simp [go_sem]) ?_
    rintro r rfl
    cases h2 : isSet b with
    | false => simp [go_sem]
    | true =>
      simp [go_sem]
      have hz : (fun i : Nat => decide ((i : Int) ∈ a) || decide ((i : Int) ∈ b)) = orP a b := rfl
      rw [hz]
      refine LoopW.of (fun i : Nat => ⟨63, [(0, .sv (ints a)), (1, .sv (ints b)), (2, .sv (iv 0)), (6, .nil), (7, .own 7), (8, .sv (iv i))], [(7, .row 1 ((rangeF (orP a b) i).map iv))]⟩)
        (fun i => i ≤ 256) (fun i => 256 - i) 0 (by omega) (Ent.thaw 7 7 1 (by simp [go_sem]) (by simp [go_sem]) (by decide) (Ent.chk (by simp [go_sem, rangeF_zero]))) ?_
      rintro i hi
      by_cases hlt : i < 256
      · have hlt' : (i : Int) < 256 := by omega
        have hw : IntKind.i64.wrap ((i : Int) + 1) = (i : Int) + 1 := by rw [i64w] <;> omega
        have hs := rangeF_succ (orP a b) i
        have hbl := rangeF_len (orP a b) i
        have ho : orP a b i = (decide ((i : Int) ∈ a) || decide ((i : Int) ∈ b)) := rfl
        simp [go_sem, hlt']
        refine OpW.fn true (rIn_c a i ha) rfl rfl (by simp [go_sem]) (by rintro _ r rfl; simp [go_sem]) ?_
        rintro r rfl
        simp [go_sem]
        refine OpW.fn true (rIn_c b i hb) rfl rfl (by simp [go_sem]) (by rintro _ r rfl; simp [go_sem]) ?_
        rintro r rfl
        cases m1 : decide ((i : Int) ∈ a) <;> cases m2 : decide ((i : Int) ∈ b) <;> rw [m1, m2] at ho <;> rw [ho] at hs
        case' false.false =>
          rw [if_neg (by simp)] at hs
          simp [go_sem]
          exact ⟨i + 1, by omega, by omega, Ent.chk (by simp [go_sem, hw, hs])⟩
        all_goals
          simp only [Bool.or_true, Bool.true_or, Bool.or_self, if_true] at hs
          simp [go_sem]
          exact ⟨by omega, i + 1, by omega, by omega, Ent.rename2 61 7 (by simp [go_sem]) (Ent.chk (by simp [go_sem, hw, hs]))⟩
      · have hil : i = 256 := by omega
        subst hil
        simp [go_sem]
theorem ofKind_snoc (g : List Thing) (free : List Int) (k : Int) (l : List Int) (n : Int) : ofKind g free k (l ++ [n]) = if n ∈ free ∧ (th g n.toNat).kind = k then ofKind g free k l ++ [n] else ofKind g free k l := by
  unfold ofKind
  rw [List.filter_append]
  by_cases h : n ∈ free ∧ (th g n.toNat).kind = k
  · rw [if_pos h]; simp [h.1, h.2]
  · rw [if_neg h]
    have : (decide (n ∈ free) && (th g n.toNat).kind == k) = false := by
      rw [Bool.eq_false_iff]; intro hb
      simp only [Bool.and_eq_true, decide_eq_true_eq, beq_iff_eq] at hb; exact h hb
    simp [this]
/-- What is taken of the first things under a node: a part of them, the first cores and gpus. -/
def taken (g : List Thing) (free : List Int) (s : Spec) (l out : List Int) : Prop := out.Sublist l ∧ ∀ n, n ∈ out ↔ n ∈ (ofKind g free 3 l).take s.cores.toNat ∨ n ∈ (ofKind g free 4 l).take s.gpus.toNat
theorem taken_nil (g : List Thing) (free : List Int) (s : Spec) : taken g free s [] [] := ⟨List.Sublist.refl _, by simp [ofKind]⟩
theorem taken_skip {g : List Thing} {free : List Int} {s : Spec} {l out : List Int} {n : Int} (h : taken g free s l out) (hn : (ofKind g free 3 (l ++ [n])).take s.cores.toNat = (ofKind g free 3 l).take s.cores.toNat) (hn4 : (ofKind g free 4 (l ++ [n])).take s.gpus.toNat = (ofKind g free 4 l).take s.gpus.toNat) : taken g free s (l ++ [n]) out :=
  ⟨h.1.trans (List.sublist_append_left _ _), fun m => by rw [hn, hn4]; exact h.2 m⟩
theorem taken_put {g : List Thing} {free : List Int} {s : Spec} {l out : List Int} {n : Int} (h : taken g free s l out)
    (hn : ((ofKind g free 3 (l ++ [n])).take s.cores.toNat = (ofKind g free 3 l).take s.cores.toNat ++ [n] ∧ (ofKind g free 4 (l ++ [n])).take s.gpus.toNat = (ofKind g free 4 l).take s.gpus.toNat) ∨
      ((ofKind g free 3 (l ++ [n])).take s.cores.toNat = (ofKind g free 3 l).take s.cores.toNat ∧ (ofKind g free 4 (l ++ [n])).take s.gpus.toNat = (ofKind g free 4 l).take s.gpus.toNat ++ [n])) : taken g free s (l ++ [n]) (out ++ [n]) := by
  refine ⟨List.Sublist.append h.1 (List.Sublist.refl _), fun m => ?_⟩
  rcases hn with ⟨h3, h4⟩ | ⟨h3, h4⟩ <;> rw [h3, h4] <;> simp only [List.mem_append, List.mem_singleton, h.2 m]
  · constructor
    · rintro ((h | h) | h)
      · exact .inl (.inl h)
      · exact .inr h
      · exact .inl (.inr h)
    · rintro ((h | h) | h)
      · exact .inl (.inl h)
      · exact .inr h
      · exact .inl (.inr h)
  · rw [or_assoc]
theorem taken_all {g : List Thing} (hg : isGraph g = true) {free : List Int} {s : Spec} {u : Nat} (hu : u < g.length) (h2 : (th g u).kind = 2) {out : List Int} (h : taken g free s (underL g u) out) : out = joinL (coresL g free s u) (gpusL g free s u) := by
  have e : ∀ k, k = 3 ∨ k = 4 → ofKind g free k (underL g u) = ofKind g free k (kidsL g u) := fun k hk => by
    rw [under_node hg hu h2]; unfold ofKind
    rw [List.filter_cons]
    have : ((th g ((u : Int)).toNat).kind == k) = false := by simp only [Int.toNat_natCast, h2]; rcases hk with rfl | rfl <;> rfl
    rw [this]; simp
  refine set_ext (set_sub h.1 (underL_set g u)) (joinL_set _ _) fun n => ?_
  rw [h.2, e 3 (.inl rfl), e 4 (.inr rfl), joinL_mem (coresL_set hg _ _ _) (gpusL_set hg _ _ _)]
  rfl
end Go.Proofs.YtinhfnbmgmociaaGreatDoor.Ab
