/- The texts of the law StepRight, without what it does not use, laid together: part 4. -/
import Derived.Test.YtimllhflecippaaPkStepRight1
import Derived.Test.YtimllhflecippaaPkStepRight2
import Derived.Test.YtimllhflecippaaPkStepRight3
import Derived.Test.YtimllhflecippaaProg
import Derived.WalkSpells
import Derived.Below
import Derived.Deep.Draws
import Derived.Deep.AppendLies
import Derived.Maps.AppendAt
import Derived.OwnWalk
import Derived.Laws.BytesArg
import Derived.Laws.MakeOwn
import Derived.Laws.OwnMore
import Derived.Deep.OwnRows
import Derived.Tactics
import Derived.Lib.ConvBytes
import Derived.Laws.Slices
import Derived.WalkKit
import Derived.KernelRfl
import Derived.RowKit3
import Derived.Deep.LoopGhost
import Derived.Deep.QuietTactic
import Derived.BigQuiet
import Derived.WideLaws
import Derived.Deep.DeepCutAuto
import Derived.Deep.CutBlock
import Derived.Deep.RegionHeld3
import Derived.Laws.Rows
import Derived.Lib.AppendStr
import Derived.ArgAppend
import Derived.Laws.IdiomCopy
import Derived.RowKit
import Derived.OrdersHeld
import Derived.Laws.BitsLemmas
import Derived.Laws.StructEq

section
namespace Go.Proofs.Ytimllhflecippaa.F
open Go.RowKit Go.Proofs.YtimllhflecippaaW.PrintWords Go.Proofs.YtimllhflecippaaW.PrintLast Go.Proofs.YtimllhflecippaaW.PrintMore
attribute [local go_sem] max2_int min2_int max_two min_two
set_option linter.unusedVariables false
set_option linter.unusedSimpArgs false

mutual
def bailiwickref03_times.l0 : Nat → List (S45) → Int → Int → List Int → Int → Option (List Int)
 | 0, _, _, _, _, _ => none
 | k + 1, x0, x1, x2, x7, x8 => if x8 < (x0.length : Int) then (if 0 ≤ x8 then (if x1 < ((rd_T45 x0 x8).f0) then (if (x7.length : Int) = 0 then (bailiwickref03_times.j1 k x0 x1 x2 x7 x8 true) else (if 0 ≤ (wrap64 ((x7.length : Int) - 1)) then (if (wrap64 ((x7.length : Int) - 1)) < (x7.length : Int) then (bailiwickref03_times.j1 k x0 x1 x2 x7 x8 (decide ((rd x7 (wrap64 ((x7.length : Int) - 1))) < x1))) else (none)) else (none))) else (bailiwickref03_times.j1 k x0 x1 x2 x7 x8 false)) else (none)) else (if 0 ≤ (wrap64 ((x7.length : Int) - 1)) then (if (wrap64 ((x7.length : Int) - 1)) < (x7.length : Int) then (if (rd x7 (wrap64 ((x7.length : Int) - 1))) < x1 then (if x7.length < 17592186044416 then ((some (x7 ++ [x1] : List Int)).bind fun y265 => (if 0 ≤ (wrap64 ((y265.length : Int) - 1)) then (if (wrap64 ((y265.length : Int) - 1)) < (y265.length : Int) then (if (rd y265 (wrap64 ((y265.length : Int) - 1))) < x2 then (if y265.length < 17592186044416 then (some (y265 ++ [x2])) else (none)) else (some y265)) else (none)) else (none))) else (none)) else (if (rd x7 (wrap64 ((x7.length : Int) - 1))) < x2 then (if x7.length < 17592186044416 then (some (x7 ++ [x2])) else (none)) else (some x7))) else (none)) else (none))
def bailiwickref03_times.j1 : Nat → List (S45) → Int → Int → List Int → Int → Bool → Option (List Int)
 | 0, _, _, _, _, _, _ => none
 | k + 1, x0, x1, x2, x7, x8, x36 => if x36 = true then (if x7.length < 17592186044416 then (bailiwickref03_times.j2 k x0 x1 x2 (x7 ++ [x1]) x8) else (none)) else (bailiwickref03_times.j2 k x0 x1 x2 x7 x8)
def bailiwickref03_times.j2 : Nat → List (S45) → Int → Int → List Int → Int → Option (List Int)
 | 0, _, _, _, _, _ => none
 | k + 1, x0, x1, x2, x7, x8 => if 0 ≤ x8 then (if x8 < (x0.length : Int) then (if x2 < ((rd_T45 x0 x8).f0) then (if (x7.length : Int) = 0 then (bailiwickref03_times.j3 k x0 x1 x2 x7 x8 true) else (if 0 ≤ (wrap64 ((x7.length : Int) - 1)) then (if (wrap64 ((x7.length : Int) - 1)) < (x7.length : Int) then (bailiwickref03_times.j3 k x0 x1 x2 x7 x8 (decide ((rd x7 (wrap64 ((x7.length : Int) - 1))) < x2))) else (none)) else (none))) else (bailiwickref03_times.j3 k x0 x1 x2 x7 x8 false)) else (none)) else (none)
def bailiwickref03_times.j3 : Nat → List (S45) → Int → Int → List Int → Int → Bool → Option (List Int)
 | 0, _, _, _, _, _, _ => none
 | k + 1, x0, x1, x2, x7, x8, x62 => if x62 = true then (if x7.length < 17592186044416 then ((some (x7 ++ [x2] : List Int)).bind fun y241 => (if (y241.length : Int) = 0 then (if 0 ≤ x8 then (if x8 < (x0.length : Int) then (if y241.length < 17592186044416 then (bailiwickref03_times.l0 k x0 x1 x2 (y241 ++ [(rd_T45 x0 x8).f0]) (wrap64 (x8 + 1))) else (none)) else (none)) else (none)) else (if 0 ≤ (wrap64 ((y241.length : Int) - 1)) then (if (wrap64 ((y241.length : Int) - 1)) < (y241.length : Int) then (if 0 ≤ x8 then (if x8 < (x0.length : Int) then (if (rd y241 (wrap64 ((y241.length : Int) - 1))) < ((rd_T45 x0 x8).f0) then (if y241.length < 17592186044416 then (bailiwickref03_times.l0 k x0 x1 x2 (y241 ++ [(rd_T45 x0 x8).f0]) (wrap64 (x8 + 1))) else (none)) else (bailiwickref03_times.l0 k x0 x1 x2 y241 (wrap64 (x8 + 1)))) else (none)) else (none)) else (none)) else (none)))) else (none)) else (if (x7.length : Int) = 0 then (if 0 ≤ x8 then (if x8 < (x0.length : Int) then (if x7.length < 17592186044416 then (bailiwickref03_times.l0 k x0 x1 x2 (x7 ++ [(rd_T45 x0 x8).f0]) (wrap64 (x8 + 1))) else (none)) else (none)) else (none)) else (if 0 ≤ (wrap64 ((x7.length : Int) - 1)) then (if (wrap64 ((x7.length : Int) - 1)) < (x7.length : Int) then (if 0 ≤ x8 then (if x8 < (x0.length : Int) then (if (rd x7 (wrap64 ((x7.length : Int) - 1))) < ((rd_T45 x0 x8).f0) then (if x7.length < 17592186044416 then (bailiwickref03_times.l0 k x0 x1 x2 (x7 ++ [(rd_T45 x0 x8).f0]) (wrap64 (x8 + 1))) else (none)) else (bailiwickref03_times.l0 k x0 x1 x2 x7 (wrap64 (x8 + 1)))) else (none)) else (none)) else (none)) else (none)))
end
def bailiwickref03_times.f (k : Nat) (l0 : List (S45)) (a1 : Int) (a2 : Int) : Option (List Int) := bailiwickref03_times.l0 k l0 a1 a2 ([] : List Int) 0
set_option maxHeartbeats 8000000 in
set_option maxRecDepth 100000 in
theorem bailiwickref03_times.calls (k : Nat) (A0 : Option Addr) (c0 : Nat) (l0 : List (S45)) (a1 : Int) (a2 : Int) (r : List Int) (w : World) (hr0 : Kd.C k45 w A0 l0.length l0) (hc0 : l0.length ≤ c0) (h : bailiwickref03_times.f k l0 a1 a2 = some r) :
  Calls Try.prog 66 #[.slice A0 l0.length c0, .int .i64 a1, .int .i64 a2] w fun e w' => ∃ v0_ : Value, e = .returned (v0_) ∧ Kd.R (Kd.int .i64) 2 w' w.heap.size (fun _ => True) v0_ r ∧ Below w.heap.size w w' := by
 have HR0 := Aside0.mk hr0
 have HC0 := Aside0.mk hc0
 clear hr0 hc0
 have HB := Aside0.mk (Below.refl w.heap.size w)
 have H : (bailiwickref03_times.l0 k l0 a1 a2 ([] : List Int) 0) = some r := h
 clear h
 have H' := Aside0.mk H
 clear H
 go_enter Try.func66, Try.ntmps66
 go_wp2
 repeat (go_quiet (fail); try go_wp2)
 go_loopg [7, 8] k (fun kq v7 v8 w' => ∃ (x7_1 : List Int) (x8_1 : Int), v8 = .int .i64 x8_1 ∧ Aside0 (bailiwickref03_times.l0 kq l0 a1 a2 x7_1 x8_1 = some r) ∧ Aside0 (kq ≤ k) ∧ Aside0 (Kd.R (Kd.int .i64) 2 w' w.heap.size (fun _ => True) v7 x7_1) ∧ Aside0 (Below w.heap.size w w'))
 case atStart => exact ⟨(([] : List Int)), (0), (by first | rfl | (simp; done) | (simp [*]; done)), H', ⟨Nat.le_refl _⟩, ⟨by first | exact Kd.R_nil _ _ _ _ _ | exact Kd.N_nil _ _ _ _ _ | exact Kd.V_nil _ _ _ _ _ | exact Kd.Q_nil _ _ _ _ _ | exact Kd.S_nil _ _ _ _ _⟩, ⟨by repeat (first | (with_reducible first | exact HB.out | apply below_alloc | apply pw_below_drewN | apply below_drew1) | exact HB.out)⟩⟩
 case round =>
  clear H'
  try clear p2
  obtain ⟨x7_1, x8_1, rfl, HA, HK1, HO_7, HB⟩ := hrel
  cases gk with
  | zero => exact absurd HA.out (by simp [bailiwickref03_times.l0])
  | succ k1 =>
   have H := HA.out
   clear HA
   simp only [bailiwickref03_times.l0] at H
   by_cases c4 : x8_1 < (l0.length : Int)
   ·rw [if_pos c4] at H
    have c4b0 : decide (x8_1 < (l0.length : Int)) = true := decide_eq_true c4
    clear c4
    have HC5 := Aside0.mk H
    clear H
    go_upto_region 5 with (fail)
    repeat (go_quiet (fail); go_upto_region 5 with (fail))
    go_cut [36] (fun v36 wc => ∃ (kq : Nat) (x36_4 : Bool), v36 = .bool x36_4 ∧ Aside0 (bailiwickref03_times.j1 kq l0 a1 a2 x7_1 x8_1 x36_4 = some r) ∧ Aside0 (kq ≤ k1) ∧ Aside0 (Kd.R (Kd.int .i64) 2 wc w.heap.size (fun _ => True) u7 x7_1) ∧ Aside0 (Below w.heap.size w wc))
    case first =>
     have H := HC5.out
     clear HC5
     by_cases c6 : 0 ≤ x8_1
     ·rw [if_pos c6] at H
      have c6b0 : decide (0 ≤ x8_1) = true := decide_eq_true c6
      clear c6
      (first | rw [c6b0] | (simp only [i64_w, i32_w]; rw [c6b0]) | skip)
      by_cases c7 : a1 < ((rd_T45 l0 x8_1).f0)
      ·rw [if_pos c7] at H
       have c7b0 : decide (a1 < ((rd_T45 l0 x8_1).f0)) = true := decide_eq_true c7
       clear c7
       by_cases c8 : (x7_1.length : Int) = 0
       ·rw [if_pos c8] at H
        have c8b0 : ((x7_1.length : Int) == 0) = true := beq_iff_eq.mpr c8
        have c8b1 : ((x7_1.length : Int) != 0) = false := bne_eq_false_iff_eq.mpr c8
        clear c8
        have H' := Aside0.mk H
        clear H
        have p234 : 0 ≤ (x8_1 : Int) := of_decide_eq_true (by first | (with_reducible assumption) | assumption)
        have q234 : x8_1 < (l0.length : Int) := of_decide_eq_true (by first | (with_reducible assumption) | assumption)
        obtain ⟨ad234, e234, hx234_0, hx234_1⟩ := at_T45 HR0.out x8_1 p234 q234
        cases e234
        replace hx234_0 := (HB.out.cell (World.block_lt_of_cell? w _ hx234_0)).trans hx234_0
        replace hx234_1 := (HB.out.cell (World.block_lt_of_cell? w _ hx234_1)).trans hx234_1
        replace p234 := eq_true p234
        replace q234 := eq_true q234
        obtain ⟨Ao9, co9, eo9⟩ := Kd.R_slice HO_7.out
        subst eo9
        go_wp2
        repeat (go_quiet (fail); try go_wp2)
        go_meet
        case rel => exact ⟨_, (true), (by first | rfl | (simp; done) | (simp [*]; done)), H', ⟨by have := HK1.out; first | omega | exact Nat.le_refl _⟩, ⟨by (with_reducible repeat (first | apply Kd.R_alloc | apply Kd.R_drewN | apply Kd.R_drew)); exact HO_7.out⟩, ⟨by repeat (first | (with_reducible first | exact HB.out | apply below_alloc | apply pw_below_drewN | apply below_drew1) | exact HB.out)⟩⟩
       ·rw [if_neg c8] at H
        have c8b0 : ((x7_1.length : Int) == 0) = false := beq_eq_false_iff_ne.mpr c8
        have c8b1 : ((x7_1.length : Int) != 0) = true := bne_iff_ne.mpr c8
        have c8b2 : ¬ (x7_1 = []) := fun h_ => c8 (by rw [h_]; rfl)
        obtain ⟨ji10, hji10⟩ : ∃ j_ : Int, (wrap64 ((x7_1.length : Int) - 1)) = j_ := ⟨_, rfl⟩
        replace H : (if 0 ≤ (ji10) then (if (ji10) < (x7_1.length : Int) then (bailiwickref03_times.j1 k1 l0 a1 a2 x7_1 x8_1 (decide ((rd x7_1 (ji10)) < a1))) else (none)) else (none)) = some r := by first | (rw [hji10] at H; exact H) | (simp only [hji10] at H ⊢; exact H)
        have hji10w : (IntKind.i64.wrap ((x7_1.length : Int) - 1)) = ji10 := (i64_w _).trans hji10
        by_cases c11 : 0 ≤ (ji10)
        ·rw [if_pos c11] at H
         have c11b0 : decide (0 ≤ (ji10)) = true := decide_eq_true c11
         clear c11
         by_cases c12 : (ji10) < (x7_1.length : Int)
         ·rw [if_pos c12] at H
          have c12b0 : decide ((ji10) < (x7_1.length : Int)) = true := decide_eq_true c12
          clear c12
          have H' := Aside0.mk H
          clear H
          have p234 : 0 ≤ (x8_1 : Int) := of_decide_eq_true (by first | (with_reducible assumption) | assumption)
          have q234 : x8_1 < (l0.length : Int) := of_decide_eq_true (by first | (with_reducible assumption) | assumption)
          obtain ⟨ad234, e234, hx234_0, hx234_1⟩ := at_T45 HR0.out x8_1 p234 q234
          cases e234
          replace hx234_0 := (HB.out.cell (World.block_lt_of_cell? w _ hx234_0)).trans hx234_0
          replace hx234_1 := (HB.out.cell (World.block_lt_of_cell? w _ hx234_1)).trans hx234_1
          replace p234 := eq_true p234
          replace q234 := eq_true q234
          obtain ⟨Ao13, co13, eo13⟩ := Kd.R_slice HO_7.out
          subst eo13
          have p235 : 0 ≤ ((ji10) : Int) := of_decide_eq_true (by first | (with_reducible assumption) | assumption)
          have q235 : (ji10) < (x7_1.length : Int) := of_decide_eq_true (by first | (with_reducible assumption) | assumption)
          obtain ⟨ad235, e235, hx235_0⟩ := Kd.at_int (Kd.R_reads' HO_7.out).2.2 (ji10) p235 q235
          cases e235
          replace p235 := eq_true p235
          replace q235 := eq_true q235
          go_wp2
          repeat (go_quiet (fail); try go_wp2)
          go_meet
          case rel => exact ⟨_, (decide ((rd x7_1 (ji10)) < a1)), (by first | rfl | (simp; done) | (simp only [← hji10] <;> (first | rfl | simp)) | (simp [*]; done)), H', ⟨by have := HK1.out; first | omega | exact Nat.le_refl _⟩, ⟨by (with_reducible repeat (first | apply Kd.R_alloc | apply Kd.R_drewN | apply Kd.R_drew)); exact HO_7.out⟩, ⟨by repeat (first | (with_reducible first | exact HB.out | apply below_alloc | apply pw_below_drewN | apply below_drew1) | exact HB.out)⟩⟩
         ·rw [if_neg c12] at H
          exact absurd H (by simp)
        ·rw [if_neg c11] at H
         exact absurd H (by simp)
      ·rw [if_neg c7] at H
       have c7b0 : decide (a1 < ((rd_T45 l0 x8_1).f0)) = false := decide_eq_false c7
       clear c7
       have H' := Aside0.mk H
       clear H
       have p234 : 0 ≤ (x8_1 : Int) := of_decide_eq_true (by first | (with_reducible assumption) | assumption)
       have q234 : x8_1 < (l0.length : Int) := of_decide_eq_true (by first | (with_reducible assumption) | assumption)
       obtain ⟨ad234, e234, hx234_0, hx234_1⟩ := at_T45 HR0.out x8_1 p234 q234
       cases e234
       replace hx234_0 := (HB.out.cell (World.block_lt_of_cell? w _ hx234_0)).trans hx234_0
       replace hx234_1 := (HB.out.cell (World.block_lt_of_cell? w _ hx234_1)).trans hx234_1
       replace p234 := eq_true p234
       replace q234 := eq_true q234
       go_wp2
       repeat (go_quiet (fail); try go_wp2)
       go_meet
       case rel => exact ⟨_, (false), (by first | rfl | (simp; done) | (simp [*]; done)), H', ⟨by have := HK1.out; first | omega | exact Nat.le_refl _⟩, ⟨by (with_reducible repeat (first | apply Kd.R_alloc | apply Kd.R_drewN | apply Kd.R_drew)); exact HO_7.out⟩, ⟨by repeat (first | (with_reducible first | exact HB.out | apply below_alloc | apply pw_below_drewN | apply below_drew1) | exact HB.out)⟩⟩
     ·rw [if_neg c6] at H
      exact absurd H (by simp)
    case rest =>
     clear HC5
     try clear c1
     try clear p2
     try clear q2
     try clear hx2
     try clear c4
     try clear c4b0
     try clear c6
     try clear c6b0
     try clear p6
     try clear c7
     try clear c7b0
     try clear c8
     try clear c8b0
     try clear c8b1
     try clear c8b2
     try clear c11
     try clear c11b0
     try clear c12
     try clear c12b0
     try clear hx234_0
     try clear hx234_1
     try clear hx235_0
     try clear p2
     try clear p234
     try clear p235
     try clear q234
     try clear q235
     obtain ⟨kq, x36_4, rfl, HA, HJ4, HO_7, HB⟩ := hcut
     cases kq with
     | zero => exact absurd HA.out (by simp [bailiwickref03_times.j1])
     | succ kj4 =>
      have H := HA.out
      clear HA
      simp only [bailiwickref03_times.j1] at H
      have HC14 := Aside0.mk H
      clear H
      go_upto_if 36 with (fail)
      repeat (go_quiet (fail); go_upto_if 36 with (fail))
      go_cut [7] (fun v7 wc => ∃ (kq : Nat) (x7_13 : List Int), Aside0 (bailiwickref03_times.j2 kq l0 a1 a2 x7_13 x8_1 = some r) ∧ Aside0 (kq ≤ kj4) ∧ Aside0 (Kd.R (Kd.int .i64) 2 wc w.heap.size (fun _ => True) v7 x7_13) ∧ Aside0 (Below w.heap.size w wc))
      case first =>
       have H := HC14.out
       clear HC14
       by_cases c15 : x36_4 = true
       ·subst c15
        have H1 : (if x7_1.length < 17592186044416 then (bailiwickref03_times.j2 kj4 l0 a1 a2 (x7_1 ++ [a1]) x8_1) else (none)) = some r := by rw [if_pos rfl] at H; exact H
        clear H
        have H := H1
        clear H1
        by_cases c16 : x7_1.length < 17592186044416
        ·rw [if_pos c16] at H
         have LMc16 := Aside0.mk c16
         clear c16
         obtain ⟨y236, hy236⟩ : ∃ y_ : List Int, y_ = (x7_1 ++ [a1]) := ⟨_, rfl⟩
         replace H : (bailiwickref03_times.j2 kj4 l0 a1 a2 y236 x8_1) = some r := by first | (rw [hy236]; with_reducible exact H) | (have H2_ := (Option.bind_some _ _).symm.trans H; rw [hy236]; with_reducible exact H2_) | (have H2_ := (Option.bind_some _ _).symm.trans H; with_reducible exact H2_) | with_reducible exact H | (rw [hy236]; exact H) | exact H
         have Ny236 := Aside0.mk hy236
         clear hy236
         have H' := Aside0.mk H
         clear H
         go_wp2_with (first | ((with_reducible refine gate_builtin (b := .append) (xs := #[.tmp 37, .tmp 39]) rfl ?_); (try (refine gate_guard (by rfl) ?_; dsimp only)); at_builtin; refine Kd.R_append (Kd.int .i64) (w0 := w) w.heap.size rfl (.tmp 37) (.tmp 39) 73 2 (.int .i64 0) 8 rfl Try.underlying73 info2 rfl (by decide) (by omega) u7 x7_1 a1 [.int .i64 a1] (fun _ => True) (fun _ => False) rfl rfl ?aP (fun _ hk => hk.elim) ?aF ?aO ?aB ?aS ?aL ?_; (case aP => exact rfl); (case aB => exact (by repeat (first | (with_reducible first | exact HB.out | apply below_alloc | apply pw_below_drewN | apply below_drew1) | exact HB.out))); (case aF => exact (fun _ _ => trivial)); (case aO => exact (by (with_reducible repeat (first | apply Kd.R_alloc | apply Kd.R_drewN | apply Kd.R_drew)); exact HO_7.out)); (case aS => exact (below_size (by repeat (first | (with_reducible first | exact HB.out | apply below_alloc | apply pw_below_drewN | apply below_drew1) | exact HB.out)))); (case aL => have := LMc16.out; omega); intro v237 w17 ho hb hg hat; rw [← Ny236.out] at ho; have n0_ := Aside0.mk (hb); have n1_ := Aside0.mk (ho); clear HB; clear HO_7; have HB := n0_; have HO238 := n1_; clear n0_ n1_; clear ho hb hg hat))
         repeat (go_quiet (first | ((with_reducible refine gate_builtin (b := .append) (xs := #[.tmp 37, .tmp 39]) rfl ?_); (try (refine gate_guard (by rfl) ?_; dsimp only)); at_builtin; refine Kd.R_append (Kd.int .i64) (w0 := w) w.heap.size rfl (.tmp 37) (.tmp 39) 73 2 (.int .i64 0) 8 rfl Try.underlying73 info2 rfl (by decide) (by omega) u7 x7_1 a1 [.int .i64 a1] (fun _ => True) (fun _ => False) rfl rfl ?aP (fun _ hk => hk.elim) ?aF ?aO ?aB ?aS ?aL ?_; (case aP => exact rfl); (case aB => exact (by repeat (first | (with_reducible first | exact HB.out | apply below_alloc | apply pw_below_drewN | apply below_drew1) | exact HB.out))); (case aF => exact (fun _ _ => trivial)); (case aO => exact (by (with_reducible repeat (first | apply Kd.R_alloc | apply Kd.R_drewN | apply Kd.R_drew)); exact HO_7.out)); (case aS => exact (below_size (by repeat (first | (with_reducible first | exact HB.out | apply below_alloc | apply pw_below_drewN | apply below_drew1) | exact HB.out)))); (case aL => have := LMc16.out; omega); intro v237 w17 ho hb hg hat; rw [← Ny236.out] at ho; have n0_ := Aside0.mk (hb); have n1_ := Aside0.mk (ho); clear HB; clear HO_7; have HB := n0_; have HO238 := n1_; clear n0_ n1_; clear ho hb hg hat)); try go_wp2_with (first | ((with_reducible refine gate_builtin (b := .append) (xs := #[.tmp 37, .tmp 39]) rfl ?_); (try (refine gate_guard (by rfl) ?_; dsimp only)); at_builtin; refine Kd.R_append (Kd.int .i64) (w0 := w) w.heap.size rfl (.tmp 37) (.tmp 39) 73 2 (.int .i64 0) 8 rfl Try.underlying73 info2 rfl (by decide) (by omega) u7 x7_1 a1 [.int .i64 a1] (fun _ => True) (fun _ => False) rfl rfl ?aP (fun _ hk => hk.elim) ?aF ?aO ?aB ?aS ?aL ?_; (case aP => exact rfl); (case aB => exact (by repeat (first | (with_reducible first | exact HB.out | apply below_alloc | apply pw_below_drewN | apply below_drew1) | exact HB.out))); (case aF => exact (fun _ _ => trivial)); (case aO => exact (by (with_reducible repeat (first | apply Kd.R_alloc | apply Kd.R_drewN | apply Kd.R_drew)); exact HO_7.out)); (case aS => exact (below_size (by repeat (first | (with_reducible first | exact HB.out | apply below_alloc | apply pw_below_drewN | apply below_drew1) | exact HB.out)))); (case aL => have := LMc16.out; omega); intro v237 w17 ho hb hg hat; rw [← Ny236.out] at ho; have n0_ := Aside0.mk (hb); have n1_ := Aside0.mk (ho); clear HB; clear HO_7; have HB := n0_; have HO238 := n1_; clear n0_ n1_; clear ho hb hg hat)))
         go_meet
         case rel => exact ⟨_, (y236), H', ⟨by have := HK1.out; have := HJ4.out; first | omega | exact Nat.le_refl _⟩, ⟨by (with_reducible repeat (first | apply Kd.R_alloc | apply Kd.R_drewN | apply Kd.R_drew)); exact HO238.out⟩, ⟨by repeat (first | (with_reducible first | exact HB.out | apply below_alloc | apply pw_below_drewN | apply below_drew1) | exact HB.out)⟩⟩
        ·rw [if_neg c16] at H
         exact absurd H (by simp)
       ·replace c15 := Bool.eq_false_iff.mpr c15
        subst c15
        have H1 : (bailiwickref03_times.j2 kj4 l0 a1 a2 x7_1 x8_1) = some r := by rw [if_neg (show ¬ (false = true) by decide)] at H; exact H
        clear H
        have H := H1
        clear H1
        have H' := Aside0.mk H
        clear H
        go_wp2
        repeat (go_quiet (fail); try go_wp2)
        go_meet
        case rel => exact ⟨_, (x7_1), H', ⟨by have := HK1.out; have := HJ4.out; first | omega | exact Nat.le_refl _⟩, ⟨by (with_reducible repeat (first | apply Kd.R_alloc | apply Kd.R_drewN | apply Kd.R_drew)); exact HO_7.out⟩, ⟨by repeat (first | (with_reducible first | exact HB.out | apply below_alloc | apply pw_below_drewN | apply below_drew1) | exact HB.out)⟩⟩
      case rest =>
       clear HC14
       try clear c1
       try clear p2
       try clear q2
       try clear hx2
       try clear c4
       try clear c4b0
       try clear c6
       try clear c6b0
       try clear p6
       try clear c7
       try clear c7b0
       try clear c8
       try clear c8b0
       try clear c8b1
       try clear c8b2
       try clear c11
       try clear c11b0
       try clear c12
       try clear c12b0
       try clear c15
       try clear c16
       try clear hx234_0
       try clear hx234_1
       try clear hx235_0
       try clear p2
       try clear p234
       try clear p235
       try clear p6
       try clear q2
       try clear q234
       try clear q235
       obtain ⟨kq, x7_13, HA, HJ13, HO_7, HB⟩ := hcut
       cases kq with
       | zero => exact absurd HA.out (by simp [bailiwickref03_times.j2])
       | succ kj13 =>
        have H := HA.out
        clear HA
        simp only [bailiwickref03_times.j2] at H
        have HC18 := Aside0.mk H
        clear H
        go_upto_region 7 with (fail)
        repeat (go_quiet (fail); go_upto_region 7 with (fail))
        go_cut [62] (fun v62 wc => ∃ (kq : Nat) (x62_17 : Bool), v62 = .bool x62_17 ∧ Aside0 (bailiwickref03_times.j3 kq l0 a1 a2 x7_13 x8_1 x62_17 = some r) ∧ Aside0 (kq ≤ kj13) ∧ Aside0 (Kd.R (Kd.int .i64) 2 wc w.heap.size (fun _ => True) u7 x7_13) ∧ Aside0 (Below w.heap.size w wc))
        case first =>
         have H := HC18.out
         clear HC18
         by_cases c19 : 0 ≤ x8_1
         ·rw [if_pos c19] at H
          have c19b0 : decide (0 ≤ x8_1) = true := decide_eq_true c19
          clear c19
          (first | rw [c19b0] | (simp only [i64_w, i32_w]; rw [c19b0]) | skip)
          by_cases c20 : x8_1 < (l0.length : Int)
          ·rw [if_pos c20] at H
           have c20b0 : decide (x8_1 < (l0.length : Int)) = true := decide_eq_true c20
           clear c20
           by_cases c21 : a2 < ((rd_T45 l0 x8_1).f0)
           ·rw [if_pos c21] at H
            have c21b0 : decide (a2 < ((rd_T45 l0 x8_1).f0)) = true := decide_eq_true c21
            clear c21
            by_cases c22 : (x7_13.length : Int) = 0
            ·rw [if_pos c22] at H
             have c22b0 : ((x7_13.length : Int) == 0) = true := beq_iff_eq.mpr c22
             have c22b1 : ((x7_13.length : Int) != 0) = false := bne_eq_false_iff_eq.mpr c22
             clear c22
             have H' := Aside0.mk H
             clear H
             have p239 : 0 ≤ (x8_1 : Int) := of_decide_eq_true (by first | (with_reducible assumption) | assumption)
             have q239 : x8_1 < (l0.length : Int) := of_decide_eq_true (by first | (with_reducible assumption) | assumption)
             obtain ⟨ad239, e239, hx239_0, hx239_1⟩ := at_T45 HR0.out x8_1 p239 q239
             cases e239
             replace hx239_0 := (HB.out.cell (World.block_lt_of_cell? w _ hx239_0)).trans hx239_0
             replace hx239_1 := (HB.out.cell (World.block_lt_of_cell? w _ hx239_1)).trans hx239_1
             replace p239 := eq_true p239
             replace q239 := eq_true q239
             obtain ⟨Ao23, co23, eo23⟩ := Kd.R_slice HO_7.out
             subst eo23
             go_wp2
             repeat (go_quiet (fail); try go_wp2)
             go_meet
             case rel => exact ⟨_, (true), (by first | rfl | (simp; done) | (simp [*]; done)), H', ⟨by have := HK1.out; have := HJ4.out; have := HJ13.out; first | omega | exact Nat.le_refl _⟩, ⟨by (with_reducible repeat (first | apply Kd.R_alloc | apply Kd.R_drewN | apply Kd.R_drew)); exact HO_7.out⟩, ⟨by repeat (first | (with_reducible first | exact HB.out | apply below_alloc | apply pw_below_drewN | apply below_drew1) | exact HB.out)⟩⟩
            ·rw [if_neg c22] at H
             have c22b0 : ((x7_13.length : Int) == 0) = false := beq_eq_false_iff_ne.mpr c22
             have c22b1 : ((x7_13.length : Int) != 0) = true := bne_iff_ne.mpr c22
             have c22b2 : ¬ (x7_13 = []) := fun h_ => c22 (by rw [h_]; rfl)
             obtain ⟨ji24, hji24⟩ : ∃ j_ : Int, (wrap64 ((x7_13.length : Int) - 1)) = j_ := ⟨_, rfl⟩
             replace H : (if 0 ≤ (ji24) then (if (ji24) < (x7_13.length : Int) then (bailiwickref03_times.j3 kj13 l0 a1 a2 x7_13 x8_1 (decide ((rd x7_13 (ji24)) < a2))) else (none)) else (none)) = some r := by first | (rw [hji24] at H; exact H) | (simp only [hji24] at H ⊢; exact H)
             have hji24w : (IntKind.i64.wrap ((x7_13.length : Int) - 1)) = ji24 := (i64_w _).trans hji24
             by_cases c25 : 0 ≤ (ji24)
             ·rw [if_pos c25] at H
              have c25b0 : decide (0 ≤ (ji24)) = true := decide_eq_true c25
              clear c25
              by_cases c26 : (ji24) < (x7_13.length : Int)
              ·rw [if_pos c26] at H
               have c26b0 : decide ((ji24) < (x7_13.length : Int)) = true := decide_eq_true c26
               clear c26
               have H' := Aside0.mk H
               clear H
               have p239 : 0 ≤ (x8_1 : Int) := of_decide_eq_true (by first | (with_reducible assumption) | assumption)
               have q239 : x8_1 < (l0.length : Int) := of_decide_eq_true (by first | (with_reducible assumption) | assumption)
               obtain ⟨ad239, e239, hx239_0, hx239_1⟩ := at_T45 HR0.out x8_1 p239 q239
               cases e239
               replace hx239_0 := (HB.out.cell (World.block_lt_of_cell? w _ hx239_0)).trans hx239_0
               replace hx239_1 := (HB.out.cell (World.block_lt_of_cell? w _ hx239_1)).trans hx239_1
               replace p239 := eq_true p239
               replace q239 := eq_true q239
               obtain ⟨Ao27, co27, eo27⟩ := Kd.R_slice HO_7.out
               subst eo27
               have p240 : 0 ≤ ((ji24) : Int) := of_decide_eq_true (by first | (with_reducible assumption) | assumption)
               have q240 : (ji24) < (x7_13.length : Int) := of_decide_eq_true (by first | (with_reducible assumption) | assumption)
               obtain ⟨ad240, e240, hx240_0⟩ := Kd.at_int (Kd.R_reads' HO_7.out).2.2 (ji24) p240 q240
               cases e240
               replace p240 := eq_true p240
               replace q240 := eq_true q240
               go_wp2
               repeat (go_quiet (fail); try go_wp2)
               go_meet
               case rel => exact ⟨_, (decide ((rd x7_13 (ji24)) < a2)), (by first | rfl | (simp; done) | (simp only [← hji24] <;> (first | rfl | simp)) | (simp [*]; done)), H', ⟨by have := HK1.out; have := HJ4.out; have := HJ13.out; first | omega | exact Nat.le_refl _⟩, ⟨by (with_reducible repeat (first | apply Kd.R_alloc | apply Kd.R_drewN | apply Kd.R_drew)); exact HO_7.out⟩, ⟨by repeat (first | (with_reducible first | exact HB.out | apply below_alloc | apply pw_below_drewN | apply below_drew1) | exact HB.out)⟩⟩
              ·rw [if_neg c26] at H
               exact absurd H (by simp)
             ·rw [if_neg c25] at H
              exact absurd H (by simp)
           ·rw [if_neg c21] at H
            have c21b0 : decide (a2 < ((rd_T45 l0 x8_1).f0)) = false := decide_eq_false c21
            clear c21
            have H' := Aside0.mk H
            clear H
            have p239 : 0 ≤ (x8_1 : Int) := of_decide_eq_true (by first | (with_reducible assumption) | assumption)
            have q239 : x8_1 < (l0.length : Int) := of_decide_eq_true (by first | (with_reducible assumption) | assumption)
            obtain ⟨ad239, e239, hx239_0, hx239_1⟩ := at_T45 HR0.out x8_1 p239 q239
            cases e239
            replace hx239_0 := (HB.out.cell (World.block_lt_of_cell? w _ hx239_0)).trans hx239_0
            replace hx239_1 := (HB.out.cell (World.block_lt_of_cell? w _ hx239_1)).trans hx239_1
            replace p239 := eq_true p239
            replace q239 := eq_true q239
            go_wp2
            repeat (go_quiet (fail); try go_wp2)
            go_meet
            case rel => exact ⟨_, (false), (by first | rfl | (simp; done) | (simp [*]; done)), H', ⟨by have := HK1.out; have := HJ4.out; have := HJ13.out; first | omega | exact Nat.le_refl _⟩, ⟨by (with_reducible repeat (first | apply Kd.R_alloc | apply Kd.R_drewN | apply Kd.R_drew)); exact HO_7.out⟩, ⟨by repeat (first | (with_reducible first | exact HB.out | apply below_alloc | apply pw_below_drewN | apply below_drew1) | exact HB.out)⟩⟩
          ·rw [if_neg c20] at H
           exact absurd H (by simp)
         ·rw [if_neg c19] at H
          exact absurd H (by simp)
        case rest =>
         clear HC18
         try clear c1
         try clear c2
         try clear p2
         try clear q2
         try clear hx2
         try clear c4
         try clear c4b0
         try clear c6
         try clear c6b0
         try clear p6
         try clear c7
         try clear c7b0
         try clear c8
         try clear c8b0
         try clear c8b1
         try clear c8b2
         try clear c11
         try clear c11b0
         try clear c12
         try clear c12b0
         try clear c15
         try clear c16
         try clear c19
         try clear c19b0
         try clear c20
         try clear c20b0
         try clear c21
         try clear c21b0
         try clear c22
         try clear c22b0
         try clear c22b1
         try clear c22b2
         try clear p23
         try clear q23
         try clear hx23
         try clear p24
         try clear q24
         try clear hx24
         try clear c25
         try clear c25b0
         try clear c26
         try clear c26b0
         try clear hx234_0
         try clear hx234_1
         try clear hx235_0
         try clear hx239_0
         try clear hx239_1
         try clear hx240_0
         try clear p2
         try clear p234
         try clear p235
         try clear p239
         try clear p240
         try clear p6
         try clear q2
         try clear q234
         try clear q235
         try clear q239
         try clear q240
         obtain ⟨kq, x62_17, rfl, HA, HJ17, HO_7, HB⟩ := hcut
         cases kq with
         | zero => exact absurd HA.out (by simp [bailiwickref03_times.j3])
         | succ kj17 =>
          have H := HA.out
          clear HA
          simp only [bailiwickref03_times.j3] at H
          by_cases c28 : x62_17 = true
          ·subst c28
           have H1 : (if x7_13.length < 17592186044416 then ((some (x7_13 ++ [a2] : List Int)).bind fun y241 => (if (y241.length : Int) = 0 then (if 0 ≤ x8_1 then (if x8_1 < (l0.length : Int) then (if y241.length < 17592186044416 then (bailiwickref03_times.l0 kj17 l0 a1 a2 (y241 ++ [(rd_T45 l0 x8_1).f0]) (wrap64 (x8_1 + 1))) else (none)) else (none)) else (none)) else (if 0 ≤ (wrap64 ((y241.length : Int) - 1)) then (if (wrap64 ((y241.length : Int) - 1)) < (y241.length : Int) then (if 0 ≤ x8_1 then (if x8_1 < (l0.length : Int) then (if (rd y241 (wrap64 ((y241.length : Int) - 1))) < ((rd_T45 l0 x8_1).f0) then (if y241.length < 17592186044416 then (bailiwickref03_times.l0 kj17 l0 a1 a2 (y241 ++ [(rd_T45 l0 x8_1).f0]) (wrap64 (x8_1 + 1))) else (none)) else (bailiwickref03_times.l0 kj17 l0 a1 a2 y241 (wrap64 (x8_1 + 1)))) else (none)) else (none)) else (none)) else (none)))) else (none)) = some r := by rw [if_pos rfl] at H; exact H
           clear H
           have H := H1
           clear H1
           by_cases c29 : x7_13.length < 17592186044416
           ·rw [if_pos c29] at H
            have LMc29 := Aside0.mk c29
            clear c29
            obtain ⟨y241, hy241⟩ : ∃ y_ : List Int, y_ = (x7_13 ++ [a2]) := ⟨_, rfl⟩
            replace H : (if (y241.length : Int) = 0 then (if 0 ≤ x8_1 then (if x8_1 < (l0.length : Int) then (if y241.length < 17592186044416 then (bailiwickref03_times.l0 kj17 l0 a1 a2 (y241 ++ [(rd_T45 l0 x8_1).f0]) (wrap64 (x8_1 + 1))) else (none)) else (none)) else (none)) else (if 0 ≤ (wrap64 ((y241.length : Int) - 1)) then (if (wrap64 ((y241.length : Int) - 1)) < (y241.length : Int) then (if 0 ≤ x8_1 then (if x8_1 < (l0.length : Int) then (if (rd y241 (wrap64 ((y241.length : Int) - 1))) < ((rd_T45 l0 x8_1).f0) then (if y241.length < 17592186044416 then (bailiwickref03_times.l0 kj17 l0 a1 a2 (y241 ++ [(rd_T45 l0 x8_1).f0]) (wrap64 (x8_1 + 1))) else (none)) else (bailiwickref03_times.l0 kj17 l0 a1 a2 y241 (wrap64 (x8_1 + 1)))) else (none)) else (none)) else (none)) else (none))) = some r := by first | (rw [hy241]; with_reducible exact H) | (have H2_ := (Option.bind_some _ _).symm.trans H; rw [hy241]; with_reducible exact H2_) | (have H2_ := (Option.bind_some _ _).symm.trans H; with_reducible exact H2_) | with_reducible exact H | (rw [hy241]; exact H) | exact H
            have Ny241 := Aside0.mk hy241
            clear hy241
            by_cases c30 : (y241.length : Int) = 0
            ·rw [if_pos c30] at H
             have c30b0 : ((y241.length : Int) == 0) = true := beq_iff_eq.mpr c30
             have c30b1 : ((y241.length : Int) != 0) = false := bne_eq_false_iff_eq.mpr c30
             clear c30
             by_cases c31 : 0 ≤ x8_1
             ·rw [if_pos c31] at H
              have c31b0 : decide (0 ≤ x8_1) = true := decide_eq_true c31
              clear c31
              by_cases c32 : x8_1 < (l0.length : Int)
              ·rw [if_pos c32] at H
               have c32b0 : decide (x8_1 < (l0.length : Int)) = true := decide_eq_true c32
               clear c32
               by_cases c33 : y241.length < 17592186044416
               ·rw [if_pos c33] at H
                have LMc33 := Aside0.mk c33
                clear c33
                obtain ⟨y245, hy245⟩ : ∃ y_ : List Int, y_ = (y241 ++ [(rd_T45 l0 x8_1).f0]) := ⟨_, rfl⟩
                replace H : (bailiwickref03_times.l0 kj17 l0 a1 a2 y245 (wrap64 (x8_1 + 1))) = some r := by first | (rw [hy245]; with_reducible exact H) | (have H2_ := (Option.bind_some _ _).symm.trans H; rw [hy245]; with_reducible exact H2_) | (have H2_ := (Option.bind_some _ _).symm.trans H; with_reducible exact H2_) | with_reducible exact H | (rw [hy245]; exact H) | exact H
                have Ny245 := Aside0.mk hy245
                clear hy245
                have H' := Aside0.mk H
                clear H
                go_wp2_with (first | ((with_reducible refine gate_builtin (b := .append) (xs := #[.tmp 63, .tmp 65]) rfl ?_); (try (refine gate_guard (by rfl) ?_; dsimp only)); at_builtin; refine Kd.R_append (Kd.int .i64) (w0 := w) w.heap.size rfl (.tmp 63) (.tmp 65) 73 2 (.int .i64 0) 8 rfl Try.underlying73 info2 rfl (by decide) (by omega) u7 x7_13 a2 [.int .i64 a2] (fun _ => True) (fun _ => False) rfl rfl ?aP (fun _ hk => hk.elim) ?aF ?aO ?aB ?aS ?aL ?_; (case aP => exact rfl); (case aB => exact (by repeat (first | (with_reducible first | exact HB.out | apply below_alloc | apply pw_below_drewN | apply below_drew1) | exact HB.out))); (case aF => exact (fun _ _ => trivial)); (case aO => exact (by (with_reducible repeat (first | apply Kd.R_alloc | apply Kd.R_drewN | apply Kd.R_drew)); exact HO_7.out)); (case aS => exact (below_size (by repeat (first | (with_reducible first | exact HB.out | apply below_alloc | apply pw_below_drewN | apply below_drew1) | exact HB.out)))); (case aL => have := LMc29.out; omega); intro v242 w34 ho hb hg hat; rw [← Ny241.out] at ho; have n0_ := Aside0.mk (hb); have n1_ := Aside0.mk (ho); clear HB; clear HO_7; have HB := n0_; have HO243 := n1_; clear n0_ n1_; clear ho hb hg hat; obtain ⟨Ao35, co35, eo35⟩ := Kd.R_slice HO243.out; subst eo35; have p244 : 0 ≤ (x8_1 : Int) := of_decide_eq_true (by first | (with_reducible assumption) | assumption); have q244 : x8_1 < (l0.length : Int) := of_decide_eq_true (by first | (with_reducible assumption) | assumption); obtain ⟨ad244, e244, hx244_0, hx244_1⟩ := at_T45 HR0.out x8_1 p244 q244; cases e244; replace hx244_0 := (HB.out.cell (World.block_lt_of_cell? w _ hx244_0)).trans hx244_0; replace hx244_1 := (HB.out.cell (World.block_lt_of_cell? w _ hx244_1)).trans hx244_1; replace p244 := eq_true p244; replace q244 := eq_true q244) | ((with_reducible refine gate_builtin (b := .append) (xs := #[.tmp 84, .tmp 90]) rfl ?_); (try (refine gate_guard (by rfl) ?_; dsimp only)); at_builtin; refine Kd.R_append (Kd.int .i64) (w0 := w) w.heap.size rfl (.tmp 84) (.tmp 90) 73 2 (.int .i64 0) 8 rfl Try.underlying73 info2 rfl (by decide) (by omega) (.slice Ao35 y241.length co35) y241 ((rd_T45 l0 x8_1).f0) [.int .i64 ((rd_T45 l0 x8_1).f0)] (fun _ => True) (fun _ => False) rfl rfl ?aP (fun _ hk => hk.elim) ?aF ?aO ?aB ?aS ?aL ?_; (case aP => exact rfl); (case aB => exact (by repeat (first | (with_reducible first | exact HB.out | apply below_alloc | apply pw_below_drewN | apply below_drew1) | exact HB.out))); (case aF => exact (fun _ _ => trivial)); (case aO => exact (by (with_reducible repeat (first | apply Kd.R_alloc | apply Kd.R_drewN | apply Kd.R_drew)); exact HO243.out)); (case aS => exact (below_size (by repeat (first | (with_reducible first | exact HB.out | apply below_alloc | apply pw_below_drewN | apply below_drew1) | exact HB.out)))); (case aL => have := LMc33.out; omega); intro v246 w36 ho hb hg hat; rw [← Ny245.out] at ho; have n0_ := Aside0.mk (hb); have n1_ := Aside0.mk (ho); clear HB; clear HO243; have HB := n0_; have HO247 := n1_; clear n0_ n1_; clear ho hb hg hat))
                repeat (go_quiet (first | ((with_reducible refine gate_builtin (b := .append) (xs := #[.tmp 63, .tmp 65]) rfl ?_); (try (refine gate_guard (by rfl) ?_; dsimp only)); at_builtin; refine Kd.R_append (Kd.int .i64) (w0 := w) w.heap.size rfl (.tmp 63) (.tmp 65) 73 2 (.int .i64 0) 8 rfl Try.underlying73 info2 rfl (by decide) (by omega) u7 x7_13 a2 [.int .i64 a2] (fun _ => True) (fun _ => False) rfl rfl ?aP (fun _ hk => hk.elim) ?aF ?aO ?aB ?aS ?aL ?_; (case aP => exact rfl); (case aB => exact (by repeat (first | (with_reducible first | exact HB.out | apply below_alloc | apply pw_below_drewN | apply below_drew1) | exact HB.out))); (case aF => exact (fun _ _ => trivial)); (case aO => exact (by (with_reducible repeat (first | apply Kd.R_alloc | apply Kd.R_drewN | apply Kd.R_drew)); exact HO_7.out)); (case aS => exact (below_size (by repeat (first | (with_reducible first | exact HB.out | apply below_alloc | apply pw_below_drewN | apply below_drew1) | exact HB.out)))); (case aL => have := LMc29.out; omega); intro v242 w34 ho hb hg hat; rw [← Ny241.out] at ho; have n0_ := Aside0.mk (hb); have n1_ := Aside0.mk (ho); clear HB; clear HO_7; have HB := n0_; have HO243 := n1_; clear n0_ n1_; clear ho hb hg hat; obtain ⟨Ao35, co35, eo35⟩ := Kd.R_slice HO243.out; subst eo35; have p244 : 0 ≤ (x8_1 : Int) := of_decide_eq_true (by first | (with_reducible assumption) | assumption); have q244 : x8_1 < (l0.length : Int) := of_decide_eq_true (by first | (with_reducible assumption) | assumption); obtain ⟨ad244, e244, hx244_0, hx244_1⟩ := at_T45 HR0.out x8_1 p244 q244; cases e244; replace hx244_0 := (HB.out.cell (World.block_lt_of_cell? w _ hx244_0)).trans hx244_0; replace hx244_1 := (HB.out.cell (World.block_lt_of_cell? w _ hx244_1)).trans hx244_1; replace p244 := eq_true p244; replace q244 := eq_true q244) | ((with_reducible refine gate_builtin (b := .append) (xs := #[.tmp 84, .tmp 90]) rfl ?_); (try (refine gate_guard (by rfl) ?_; dsimp only)); at_builtin; refine Kd.R_append (Kd.int .i64) (w0 := w) w.heap.size rfl (.tmp 84) (.tmp 90) 73 2 (.int .i64 0) 8 rfl Try.underlying73 info2 rfl (by decide) (by omega) (.slice Ao35 y241.length co35) y241 ((rd_T45 l0 x8_1).f0) [.int .i64 ((rd_T45 l0 x8_1).f0)] (fun _ => True) (fun _ => False) rfl rfl ?aP (fun _ hk => hk.elim) ?aF ?aO ?aB ?aS ?aL ?_; (case aP => exact rfl); (case aB => exact (by repeat (first | (with_reducible first | exact HB.out | apply below_alloc | apply pw_below_drewN | apply below_drew1) | exact HB.out))); (case aF => exact (fun _ _ => trivial)); (case aO => exact (by (with_reducible repeat (first | apply Kd.R_alloc | apply Kd.R_drewN | apply Kd.R_drew)); exact HO243.out)); (case aS => exact (below_size (by repeat (first | (with_reducible first | exact HB.out | apply below_alloc | apply pw_below_drewN | apply below_drew1) | exact HB.out)))); (case aL => have := LMc33.out; omega); intro v246 w36 ho hb hg hat; rw [← Ny245.out] at ho; have n0_ := Aside0.mk (hb); have n1_ := Aside0.mk (ho); clear HB; clear HO243; have HB := n0_; have HO247 := n1_; clear n0_ n1_; clear ho hb hg hat)); try go_wp2_with (first | ((with_reducible refine gate_builtin (b := .append) (xs := #[.tmp 63, .tmp 65]) rfl ?_); (try (refine gate_guard (by rfl) ?_; dsimp only)); at_builtin; refine Kd.R_append (Kd.int .i64) (w0 := w) w.heap.size rfl (.tmp 63) (.tmp 65) 73 2 (.int .i64 0) 8 rfl Try.underlying73 info2 rfl (by decide) (by omega) u7 x7_13 a2 [.int .i64 a2] (fun _ => True) (fun _ => False) rfl rfl ?aP (fun _ hk => hk.elim) ?aF ?aO ?aB ?aS ?aL ?_; (case aP => exact rfl); (case aB => exact (by repeat (first | (with_reducible first | exact HB.out | apply below_alloc | apply pw_below_drewN | apply below_drew1) | exact HB.out))); (case aF => exact (fun _ _ => trivial)); (case aO => exact (by (with_reducible repeat (first | apply Kd.R_alloc | apply Kd.R_drewN | apply Kd.R_drew)); exact HO_7.out)); (case aS => exact (below_size (by repeat (first | (with_reducible first | exact HB.out | apply below_alloc | apply pw_below_drewN | apply below_drew1) | exact HB.out)))); (case aL => have := LMc29.out; omega); intro v242 w34 ho hb hg hat; rw [← Ny241.out] at ho; have n0_ := Aside0.mk (hb); have n1_ := Aside0.mk (ho); clear HB; clear HO_7; have HB := n0_; have HO243 := n1_; clear n0_ n1_; clear ho hb hg hat; obtain ⟨Ao35, co35, eo35⟩ := Kd.R_slice HO243.out; subst eo35; have p244 : 0 ≤ (x8_1 : Int) := of_decide_eq_true (by first | (with_reducible assumption) | assumption); have q244 : x8_1 < (l0.length : Int) := of_decide_eq_true (by first | (with_reducible assumption) | assumption); obtain ⟨ad244, e244, hx244_0, hx244_1⟩ := at_T45 HR0.out x8_1 p244 q244; cases e244; replace hx244_0 := (HB.out.cell (World.block_lt_of_cell? w _ hx244_0)).trans hx244_0; replace hx244_1 := (HB.out.cell (World.block_lt_of_cell? w _ hx244_1)).trans hx244_1; replace p244 := eq_true p244; replace q244 := eq_true q244) | ((with_reducible refine gate_builtin (b := .append) (xs := #[.tmp 84, .tmp 90]) rfl ?_); (try (refine gate_guard (by rfl) ?_; dsimp only)); at_builtin; refine Kd.R_append (Kd.int .i64) (w0 := w) w.heap.size rfl (.tmp 84) (.tmp 90) 73 2 (.int .i64 0) 8 rfl Try.underlying73 info2 rfl (by decide) (by omega) (.slice Ao35 y241.length co35) y241 ((rd_T45 l0 x8_1).f0) [.int .i64 ((rd_T45 l0 x8_1).f0)] (fun _ => True) (fun _ => False) rfl rfl ?aP (fun _ hk => hk.elim) ?aF ?aO ?aB ?aS ?aL ?_; (case aP => exact rfl); (case aB => exact (by repeat (first | (with_reducible first | exact HB.out | apply below_alloc | apply pw_below_drewN | apply below_drew1) | exact HB.out))); (case aF => exact (fun _ _ => trivial)); (case aO => exact (by (with_reducible repeat (first | apply Kd.R_alloc | apply Kd.R_drewN | apply Kd.R_drew)); exact HO243.out)); (case aS => exact (below_size (by repeat (first | (with_reducible first | exact HB.out | apply below_alloc | apply pw_below_drewN | apply below_drew1) | exact HB.out)))); (case aL => have := LMc33.out; omega); intro v246 w36 ho hb hg hat; rw [← Ny245.out] at ho; have n0_ := Aside0.mk (hb); have n1_ := Aside0.mk (ho); clear HB; clear HO243; have HB := n0_; have HO247 := n1_; clear n0_ n1_; clear ho hb hg hat)))
                go_roundg kj17
                case measure => have := HK1.out; have := HJ4.out; have := HJ13.out; have := HJ17.out; omega
                case rel => exact ⟨(y245), (wrap64 (x8_1 + 1)), (by first | rfl | (simp; done) | (simp [*]; done)), H', ⟨by have := HK1.out; have := HJ4.out; have := HJ13.out; have := HJ17.out; omega⟩, ⟨by (with_reducible repeat (first | apply Kd.R_alloc | apply Kd.R_drewN | apply Kd.R_drew)); exact HO247.out⟩, ⟨by repeat (first | (with_reducible first | exact HB.out | apply below_alloc | apply pw_below_drewN | apply below_drew1) | exact HB.out)⟩⟩
               ·rw [if_neg c33] at H
                exact absurd H (by simp)
              ·rw [if_neg c32] at H
               exact absurd H (by simp)
             ·rw [if_neg c31] at H
              exact absurd H (by simp)
            ·rw [if_neg c30] at H
             have c30b0 : ((y241.length : Int) == 0) = false := beq_eq_false_iff_ne.mpr c30
             have c30b1 : ((y241.length : Int) != 0) = true := bne_iff_ne.mpr c30
             have c30b2 : ¬ (y241 = []) := fun h_ => c30 (by rw [h_]; rfl)
             obtain ⟨ji37, hji37⟩ : ∃ j_ : Int, (wrap64 ((y241.length : Int) - 1)) = j_ := ⟨_, rfl⟩
             replace H : (if 0 ≤ (ji37) then (if (ji37) < (y241.length : Int) then (if 0 ≤ x8_1 then (if x8_1 < (l0.length : Int) then (if (rd y241 (ji37)) < ((rd_T45 l0 x8_1).f0) then (if y241.length < 17592186044416 then (bailiwickref03_times.l0 kj17 l0 a1 a2 (y241 ++ [(rd_T45 l0 x8_1).f0]) (wrap64 (x8_1 + 1))) else (none)) else (bailiwickref03_times.l0 kj17 l0 a1 a2 y241 (wrap64 (x8_1 + 1)))) else (none)) else (none)) else (none)) else (none)) = some r := by first | (rw [hji37] at H; exact H) | (simp only [hji37] at H ⊢; exact H)
             have hji37w : (IntKind.i64.wrap ((y241.length : Int) - 1)) = ji37 := (i64_w _).trans hji37
             by_cases c38 : 0 ≤ (ji37)
             ·rw [if_pos c38] at H
              have c38b0 : decide (0 ≤ (ji37)) = true := decide_eq_true c38
              clear c38
              by_cases c39 : (ji37) < (y241.length : Int)
              ·rw [if_pos c39] at H
               have c39b0 : decide ((ji37) < (y241.length : Int)) = true := decide_eq_true c39
               clear c39
               by_cases c40 : 0 ≤ x8_1
               ·rw [if_pos c40] at H
                have c40b0 : decide (0 ≤ x8_1) = true := decide_eq_true c40
                clear c40
                by_cases c41 : x8_1 < (l0.length : Int)
                ·rw [if_pos c41] at H
                 have c41b0 : decide (x8_1 < (l0.length : Int)) = true := decide_eq_true c41
                 clear c41
                 by_cases c42 : (rd y241 (ji37)) < ((rd_T45 l0 x8_1).f0)
                 ·rw [if_pos c42] at H
                  have c42b0 : decide ((rd y241 (ji37)) < ((rd_T45 l0 x8_1).f0)) = true := decide_eq_true c42
                  clear c42
                  by_cases c43 : y241.length < 17592186044416
                  ·rw [if_pos c43] at H
                   have LMc43 := Aside0.mk c43
                   clear c43
                   obtain ⟨y251, hy251⟩ : ∃ y_ : List Int, y_ = (y241 ++ [(rd_T45 l0 x8_1).f0]) := ⟨_, rfl⟩
                   replace H : (bailiwickref03_times.l0 kj17 l0 a1 a2 y251 (wrap64 (x8_1 + 1))) = some r := by first | (rw [hy251]; with_reducible exact H) | (have H2_ := (Option.bind_some _ _).symm.trans H; rw [hy251]; with_reducible exact H2_) | (have H2_ := (Option.bind_some _ _).symm.trans H; with_reducible exact H2_) | with_reducible exact H | (rw [hy251]; exact H) | exact H
                   have Ny251 := Aside0.mk hy251
                   clear hy251
                   have H' := Aside0.mk H
                   clear H
                   go_wp2_with (first | ((with_reducible refine gate_builtin (b := .append) (xs := #[.tmp 63, .tmp 65]) rfl ?_); (try (refine gate_guard (by rfl) ?_; dsimp only)); at_builtin; refine Kd.R_append (Kd.int .i64) (w0 := w) w.heap.size rfl (.tmp 63) (.tmp 65) 73 2 (.int .i64 0) 8 rfl Try.underlying73 info2 rfl (by decide) (by omega) u7 x7_13 a2 [.int .i64 a2] (fun _ => True) (fun _ => False) rfl rfl ?aP (fun _ hk => hk.elim) ?aF ?aO ?aB ?aS ?aL ?_; (case aP => exact rfl); (case aB => exact (by repeat (first | (with_reducible first | exact HB.out | apply below_alloc | apply pw_below_drewN | apply below_drew1) | exact HB.out))); (case aF => exact (fun _ _ => trivial)); (case aO => exact (by (with_reducible repeat (first | apply Kd.R_alloc | apply Kd.R_drewN | apply Kd.R_drew)); exact HO_7.out)); (case aS => exact (below_size (by repeat (first | (with_reducible first | exact HB.out | apply below_alloc | apply pw_below_drewN | apply below_drew1) | exact HB.out)))); (case aL => have := LMc29.out; omega); intro v242 w44 ho hb hg hat; rw [← Ny241.out] at ho; have n0_ := Aside0.mk (hb); have n1_ := Aside0.mk (ho); clear HB; clear HO_7; have HB := n0_; have HO243 := n1_; clear n0_ n1_; clear ho hb hg hat; obtain ⟨Ao45, co45, eo45⟩ := Kd.R_slice HO243.out; subst eo45; have p248 : 0 ≤ ((ji37) : Int) := of_decide_eq_true (by first | (with_reducible assumption) | assumption); have q248 : (ji37) < (y241.length : Int) := of_decide_eq_true (by first | (with_reducible assumption) | assumption); obtain ⟨ad248, e248, hx248_0⟩ := Kd.at_int (Kd.R_reads' HO243.out).2.2 (ji37) p248 q248; cases e248; replace p248 := eq_true p248; replace q248 := eq_true q248; have p249 : 0 ≤ (x8_1 : Int) := of_decide_eq_true (by first | (with_reducible assumption) | assumption); have q249 : x8_1 < (l0.length : Int) := of_decide_eq_true (by first | (with_reducible assumption) | assumption); obtain ⟨ad249, e249, hx249_0, hx249_1⟩ := at_T45 HR0.out x8_1 p249 q249; cases e249; replace hx249_0 := (HB.out.cell (World.block_lt_of_cell? w _ hx249_0)).trans hx249_0; replace hx249_1 := (HB.out.cell (World.block_lt_of_cell? w _ hx249_1)).trans hx249_1; replace p249 := eq_true p249; replace q249 := eq_true q249; have p250 : 0 ≤ (x8_1 : Int) := of_decide_eq_true (by first | (with_reducible assumption) | assumption); have q250 : x8_1 < (l0.length : Int) := of_decide_eq_true (by first | (with_reducible assumption) | assumption); obtain ⟨ad250, e250, hx250_0, hx250_1⟩ := at_T45 HR0.out x8_1 p250 q250; obtain rfl : ad249 = ad250 := (by injection e250); replace hx250_0 := (HB.out.cell (World.block_lt_of_cell? w _ hx250_0)).trans hx250_0; replace hx250_1 := (HB.out.cell (World.block_lt_of_cell? w _ hx250_1)).trans hx250_1; replace p250 := eq_true p250; replace q250 := eq_true q250) | ((with_reducible refine gate_builtin (b := .append) (xs := #[.tmp 84, .tmp 90]) rfl ?_); (try (refine gate_guard (by rfl) ?_; dsimp only)); at_builtin; refine Kd.R_append (Kd.int .i64) (w0 := w) w.heap.size rfl (.tmp 84) (.tmp 90) 73 2 (.int .i64 0) 8 rfl Try.underlying73 info2 rfl (by decide) (by omega) (.slice (some ad248) y241.length co45) y241 ((rd_T45 l0 x8_1).f0) [.int .i64 ((rd_T45 l0 x8_1).f0)] (fun _ => True) (fun _ => False) rfl rfl ?aP (fun _ hk => hk.elim) ?aF ?aO ?aB ?aS ?aL ?_; (case aP => exact rfl); (case aB => exact (by repeat (first | (with_reducible first | exact HB.out | apply below_alloc | apply pw_below_drewN | apply below_drew1) | exact HB.out))); (case aF => exact (fun _ _ => trivial)); (case aO => exact (by (with_reducible repeat (first | apply Kd.R_alloc | apply Kd.R_drewN | apply Kd.R_drew)); exact HO243.out)); (case aS => exact (below_size (by repeat (first | (with_reducible first | exact HB.out | apply below_alloc | apply pw_below_drewN | apply below_drew1) | exact HB.out)))); (case aL => have := LMc43.out; omega); intro v252 w46 ho hb hg hat; rw [← Ny251.out] at ho; have n0_ := Aside0.mk (hb); have n1_ := Aside0.mk (ho); clear HB; clear HO243; have HB := n0_; have HO253 := n1_; clear n0_ n1_; clear ho hb hg hat))
                   repeat (go_quiet (first | ((with_reducible refine gate_builtin (b := .append) (xs := #[.tmp 63, .tmp 65]) rfl ?_); (try (refine gate_guard (by rfl) ?_; dsimp only)); at_builtin; refine Kd.R_append (Kd.int .i64) (w0 := w) w.heap.size rfl (.tmp 63) (.tmp 65) 73 2 (.int .i64 0) 8 rfl Try.underlying73 info2 rfl (by decide) (by omega) u7 x7_13 a2 [.int .i64 a2] (fun _ => True) (fun _ => False) rfl rfl ?aP (fun _ hk => hk.elim) ?aF ?aO ?aB ?aS ?aL ?_; (case aP => exact rfl); (case aB => exact (by repeat (first | (with_reducible first | exact HB.out | apply below_alloc | apply pw_below_drewN | apply below_drew1) | exact HB.out))); (case aF => exact (fun _ _ => trivial)); (case aO => exact (by (with_reducible repeat (first | apply Kd.R_alloc | apply Kd.R_drewN | apply Kd.R_drew)); exact HO_7.out)); (case aS => exact (below_size (by repeat (first | (with_reducible first | exact HB.out | apply below_alloc | apply pw_below_drewN | apply below_drew1) | exact HB.out)))); (case aL => have := LMc29.out; omega); intro v242 w44 ho hb hg hat; rw [← Ny241.out] at ho; have n0_ := Aside0.mk (hb); have n1_ := Aside0.mk (ho); clear HB; clear HO_7; have HB := n0_; have HO243 := n1_; clear n0_ n1_; clear ho hb hg hat; obtain ⟨Ao45, co45, eo45⟩ := Kd.R_slice HO243.out; subst eo45; have p248 : 0 ≤ ((ji37) : Int) := of_decide_eq_true (by first | (with_reducible assumption) | assumption); have q248 : (ji37) < (y241.length : Int) := of_decide_eq_true (by first | (with_reducible assumption) | assumption); obtain ⟨ad248, e248, hx248_0⟩ := Kd.at_int (Kd.R_reads' HO243.out).2.2 (ji37) p248 q248; cases e248; replace p248 := eq_true p248; replace q248 := eq_true q248; have p249 : 0 ≤ (x8_1 : Int) := of_decide_eq_true (by first | (with_reducible assumption) | assumption); have q249 : x8_1 < (l0.length : Int) := of_decide_eq_true (by first | (with_reducible assumption) | assumption); obtain ⟨ad249, e249, hx249_0, hx249_1⟩ := at_T45 HR0.out x8_1 p249 q249; cases e249; replace hx249_0 := (HB.out.cell (World.block_lt_of_cell? w _ hx249_0)).trans hx249_0; replace hx249_1 := (HB.out.cell (World.block_lt_of_cell? w _ hx249_1)).trans hx249_1; replace p249 := eq_true p249; replace q249 := eq_true q249; have p250 : 0 ≤ (x8_1 : Int) := of_decide_eq_true (by first | (with_reducible assumption) | assumption); have q250 : x8_1 < (l0.length : Int) := of_decide_eq_true (by first | (with_reducible assumption) | assumption); obtain ⟨ad250, e250, hx250_0, hx250_1⟩ := at_T45 HR0.out x8_1 p250 q250; obtain rfl : ad249 = ad250 := (by injection e250); replace hx250_0 := (HB.out.cell (World.block_lt_of_cell? w _ hx250_0)).trans hx250_0; replace hx250_1 := (HB.out.cell (World.block_lt_of_cell? w _ hx250_1)).trans hx250_1; replace p250 := eq_true p250; replace q250 := eq_true q250) | ((with_reducible refine gate_builtin (b := .append) (xs := #[.tmp 84, .tmp 90]) rfl ?_); (try (refine gate_guard (by rfl) ?_; dsimp only)); at_builtin; refine Kd.R_append (Kd.int .i64) (w0 := w) w.heap.size rfl (.tmp 84) (.tmp 90) 73 2 (.int .i64 0) 8 rfl Try.underlying73 info2 rfl (by decide) (by omega) (.slice (some ad248) y241.length co45) y241 ((rd_T45 l0 x8_1).f0) [.int .i64 ((rd_T45 l0 x8_1).f0)] (fun _ => True) (fun _ => False) rfl rfl ?aP (fun _ hk => hk.elim) ?aF ?aO ?aB ?aS ?aL ?_; (case aP => exact rfl); (case aB => exact (by repeat (first | (with_reducible first | exact HB.out | apply below_alloc | apply pw_below_drewN | apply below_drew1) | exact HB.out))); (case aF => exact (fun _ _ => trivial)); (case aO => exact (by (with_reducible repeat (first | apply Kd.R_alloc | apply Kd.R_drewN | apply Kd.R_drew)); exact HO243.out)); (case aS => exact (below_size (by repeat (first | (with_reducible first | exact HB.out | apply below_alloc | apply pw_below_drewN | apply below_drew1) | exact HB.out)))); (case aL => have := LMc43.out; omega); intro v252 w46 ho hb hg hat; rw [← Ny251.out] at ho; have n0_ := Aside0.mk (hb); have n1_ := Aside0.mk (ho); clear HB; clear HO243; have HB := n0_; have HO253 := n1_; clear n0_ n1_; clear ho hb hg hat)); try go_wp2_with (first | ((with_reducible refine gate_builtin (b := .append) (xs := #[.tmp 63, .tmp 65]) rfl ?_); (try (refine gate_guard (by rfl) ?_; dsimp only)); at_builtin; refine Kd.R_append (Kd.int .i64) (w0 := w) w.heap.size rfl (.tmp 63) (.tmp 65) 73 2 (.int .i64 0) 8 rfl Try.underlying73 info2 rfl (by decide) (by omega) u7 x7_13 a2 [.int .i64 a2] (fun _ => True) (fun _ => False) rfl rfl ?aP (fun _ hk => hk.elim) ?aF ?aO ?aB ?aS ?aL ?_; (case aP => exact rfl); (case aB => exact (by repeat (first | (with_reducible first | exact HB.out | apply below_alloc | apply pw_below_drewN | apply below_drew1) | exact HB.out))); (case aF => exact (fun _ _ => trivial)); (case aO => exact (by (with_reducible repeat (first | apply Kd.R_alloc | apply Kd.R_drewN | apply Kd.R_drew)); exact HO_7.out)); (case aS => exact (below_size (by repeat (first | (with_reducible first | exact HB.out | apply below_alloc | apply pw_below_drewN | apply below_drew1) | exact HB.out)))); (case aL => have := LMc29.out; omega); intro v242 w44 ho hb hg hat; rw [← Ny241.out] at ho; have n0_ := Aside0.mk (hb); have n1_ := Aside0.mk (ho); clear HB; clear HO_7; have HB := n0_; have HO243 := n1_; clear n0_ n1_; clear ho hb hg hat; obtain ⟨Ao45, co45, eo45⟩ := Kd.R_slice HO243.out; subst eo45; have p248 : 0 ≤ ((ji37) : Int) := of_decide_eq_true (by first | (with_reducible assumption) | assumption); have q248 : (ji37) < (y241.length : Int) := of_decide_eq_true (by first | (with_reducible assumption) | assumption); obtain ⟨ad248, e248, hx248_0⟩ := Kd.at_int (Kd.R_reads' HO243.out).2.2 (ji37) p248 q248; cases e248; replace p248 := eq_true p248; replace q248 := eq_true q248; have p249 : 0 ≤ (x8_1 : Int) := of_decide_eq_true (by first | (with_reducible assumption) | assumption); have q249 : x8_1 < (l0.length : Int) := of_decide_eq_true (by first | (with_reducible assumption) | assumption); obtain ⟨ad249, e249, hx249_0, hx249_1⟩ := at_T45 HR0.out x8_1 p249 q249; cases e249; replace hx249_0 := (HB.out.cell (World.block_lt_of_cell? w _ hx249_0)).trans hx249_0; replace hx249_1 := (HB.out.cell (World.block_lt_of_cell? w _ hx249_1)).trans hx249_1; replace p249 := eq_true p249; replace q249 := eq_true q249; have p250 : 0 ≤ (x8_1 : Int) := of_decide_eq_true (by first | (with_reducible assumption) | assumption); have q250 : x8_1 < (l0.length : Int) := of_decide_eq_true (by first | (with_reducible assumption) | assumption); obtain ⟨ad250, e250, hx250_0, hx250_1⟩ := at_T45 HR0.out x8_1 p250 q250; obtain rfl : ad249 = ad250 := (by injection e250); replace hx250_0 := (HB.out.cell (World.block_lt_of_cell? w _ hx250_0)).trans hx250_0; replace hx250_1 := (HB.out.cell (World.block_lt_of_cell? w _ hx250_1)).trans hx250_1; replace p250 := eq_true p250; replace q250 := eq_true q250) | ((with_reducible refine gate_builtin (b := .append) (xs := #[.tmp 84, .tmp 90]) rfl ?_); (try (refine gate_guard (by rfl) ?_; dsimp only)); at_builtin; refine Kd.R_append (Kd.int .i64) (w0 := w) w.heap.size rfl (.tmp 84) (.tmp 90) 73 2 (.int .i64 0) 8 rfl Try.underlying73 info2 rfl (by decide) (by omega) (.slice (some ad248) y241.length co45) y241 ((rd_T45 l0 x8_1).f0) [.int .i64 ((rd_T45 l0 x8_1).f0)] (fun _ => True) (fun _ => False) rfl rfl ?aP (fun _ hk => hk.elim) ?aF ?aO ?aB ?aS ?aL ?_; (case aP => exact rfl); (case aB => exact (by repeat (first | (with_reducible first | exact HB.out | apply below_alloc | apply pw_below_drewN | apply below_drew1) | exact HB.out))); (case aF => exact (fun _ _ => trivial)); (case aO => exact (by (with_reducible repeat (first | apply Kd.R_alloc | apply Kd.R_drewN | apply Kd.R_drew)); exact HO243.out)); (case aS => exact (below_size (by repeat (first | (with_reducible first | exact HB.out | apply below_alloc | apply pw_below_drewN | apply below_drew1) | exact HB.out)))); (case aL => have := LMc43.out; omega); intro v252 w46 ho hb hg hat; rw [← Ny251.out] at ho; have n0_ := Aside0.mk (hb); have n1_ := Aside0.mk (ho); clear HB; clear HO243; have HB := n0_; have HO253 := n1_; clear n0_ n1_; clear ho hb hg hat)))
                   go_roundg kj17
                   case measure => have := HK1.out; have := HJ4.out; have := HJ13.out; have := HJ17.out; omega
                   case rel => exact ⟨(y251), (wrap64 (x8_1 + 1)), (by first | rfl | (simp; done) | (simp [*]; done)), H', ⟨by have := HK1.out; have := HJ4.out; have := HJ13.out; have := HJ17.out; omega⟩, ⟨by (with_reducible repeat (first | apply Kd.R_alloc | apply Kd.R_drewN | apply Kd.R_drew)); exact HO253.out⟩, ⟨by repeat (first | (with_reducible first | exact HB.out | apply below_alloc | apply pw_below_drewN | apply below_drew1) | exact HB.out)⟩⟩
                  ·rw [if_neg c43] at H
                   exact absurd H (by simp)
                 ·rw [if_neg c42] at H
                  have c42b0 : decide ((rd y241 (ji37)) < ((rd_T45 l0 x8_1).f0)) = false := decide_eq_false c42
                  clear c42
                  have H' := Aside0.mk H
                  clear H
                  go_wp2_with (first | ((with_reducible refine gate_builtin (b := .append) (xs := #[.tmp 63, .tmp 65]) rfl ?_); (try (refine gate_guard (by rfl) ?_; dsimp only)); at_builtin; refine Kd.R_append (Kd.int .i64) (w0 := w) w.heap.size rfl (.tmp 63) (.tmp 65) 73 2 (.int .i64 0) 8 rfl Try.underlying73 info2 rfl (by decide) (by omega) u7 x7_13 a2 [.int .i64 a2] (fun _ => True) (fun _ => False) rfl rfl ?aP (fun _ hk => hk.elim) ?aF ?aO ?aB ?aS ?aL ?_; (case aP => exact rfl); (case aB => exact (by repeat (first | (with_reducible first | exact HB.out | apply below_alloc | apply pw_below_drewN | apply below_drew1) | exact HB.out))); (case aF => exact (fun _ _ => trivial)); (case aO => exact (by (with_reducible repeat (first | apply Kd.R_alloc | apply Kd.R_drewN | apply Kd.R_drew)); exact HO_7.out)); (case aS => exact (below_size (by repeat (first | (with_reducible first | exact HB.out | apply below_alloc | apply pw_below_drewN | apply below_drew1) | exact HB.out)))); (case aL => have := LMc29.out; omega); intro v242 w47 ho hb hg hat; rw [← Ny241.out] at ho; have n0_ := Aside0.mk (hb); have n1_ := Aside0.mk (ho); clear HB; clear HO_7; have HB := n0_; have HO243 := n1_; clear n0_ n1_; clear ho hb hg hat; obtain ⟨Ao48, co48, eo48⟩ := Kd.R_slice HO243.out; subst eo48; have p248 : 0 ≤ ((ji37) : Int) := of_decide_eq_true (by first | (with_reducible assumption) | assumption); have q248 : (ji37) < (y241.length : Int) := of_decide_eq_true (by first | (with_reducible assumption) | assumption); obtain ⟨ad248, e248, hx248_0⟩ := Kd.at_int (Kd.R_reads' HO243.out).2.2 (ji37) p248 q248; cases e248; replace p248 := eq_true p248; replace q248 := eq_true q248; have p249 : 0 ≤ (x8_1 : Int) := of_decide_eq_true (by first | (with_reducible assumption) | assumption); have q249 : x8_1 < (l0.length : Int) := of_decide_eq_true (by first | (with_reducible assumption) | assumption); obtain ⟨ad249, e249, hx249_0, hx249_1⟩ := at_T45 HR0.out x8_1 p249 q249; cases e249; replace hx249_0 := (HB.out.cell (World.block_lt_of_cell? w _ hx249_0)).trans hx249_0; replace hx249_1 := (HB.out.cell (World.block_lt_of_cell? w _ hx249_1)).trans hx249_1; replace p249 := eq_true p249; replace q249 := eq_true q249))
                  repeat (go_quiet (first | ((with_reducible refine gate_builtin (b := .append) (xs := #[.tmp 63, .tmp 65]) rfl ?_); (try (refine gate_guard (by rfl) ?_; dsimp only)); at_builtin; refine Kd.R_append (Kd.int .i64) (w0 := w) w.heap.size rfl (.tmp 63) (.tmp 65) 73 2 (.int .i64 0) 8 rfl Try.underlying73 info2 rfl (by decide) (by omega) u7 x7_13 a2 [.int .i64 a2] (fun _ => True) (fun _ => False) rfl rfl ?aP (fun _ hk => hk.elim) ?aF ?aO ?aB ?aS ?aL ?_; (case aP => exact rfl); (case aB => exact (by repeat (first | (with_reducible first | exact HB.out | apply below_alloc | apply pw_below_drewN | apply below_drew1) | exact HB.out))); (case aF => exact (fun _ _ => trivial)); (case aO => exact (by (with_reducible repeat (first | apply Kd.R_alloc | apply Kd.R_drewN | apply Kd.R_drew)); exact HO_7.out)); (case aS => exact (below_size (by repeat (first | (with_reducible first | exact HB.out | apply below_alloc | apply pw_below_drewN | apply below_drew1) | exact HB.out)))); (case aL => have := LMc29.out; omega); intro v242 w47 ho hb hg hat; rw [← Ny241.out] at ho; have n0_ := Aside0.mk (hb); have n1_ := Aside0.mk (ho); clear HB; clear HO_7; have HB := n0_; have HO243 := n1_; clear n0_ n1_; clear ho hb hg hat; obtain ⟨Ao48, co48, eo48⟩ := Kd.R_slice HO243.out; subst eo48; have p248 : 0 ≤ ((ji37) : Int) := of_decide_eq_true (by first | (with_reducible assumption) | assumption); have q248 : (ji37) < (y241.length : Int) := of_decide_eq_true (by first | (with_reducible assumption) | assumption); obtain ⟨ad248, e248, hx248_0⟩ := Kd.at_int (Kd.R_reads' HO243.out).2.2 (ji37) p248 q248; cases e248; replace p248 := eq_true p248; replace q248 := eq_true q248; have p249 : 0 ≤ (x8_1 : Int) := of_decide_eq_true (by first | (with_reducible assumption) | assumption); have q249 : x8_1 < (l0.length : Int) := of_decide_eq_true (by first | (with_reducible assumption) | assumption); obtain ⟨ad249, e249, hx249_0, hx249_1⟩ := at_T45 HR0.out x8_1 p249 q249; cases e249; replace hx249_0 := (HB.out.cell (World.block_lt_of_cell? w _ hx249_0)).trans hx249_0; replace hx249_1 := (HB.out.cell (World.block_lt_of_cell? w _ hx249_1)).trans hx249_1; replace p249 := eq_true p249; replace q249 := eq_true q249)); try go_wp2_with (first | ((with_reducible refine gate_builtin (b := .append) (xs := #[.tmp 63, .tmp 65]) rfl ?_); (try (refine gate_guard (by rfl) ?_; dsimp only)); at_builtin; refine Kd.R_append (Kd.int .i64) (w0 := w) w.heap.size rfl (.tmp 63) (.tmp 65) 73 2 (.int .i64 0) 8 rfl Try.underlying73 info2 rfl (by decide) (by omega) u7 x7_13 a2 [.int .i64 a2] (fun _ => True) (fun _ => False) rfl rfl ?aP (fun _ hk => hk.elim) ?aF ?aO ?aB ?aS ?aL ?_; (case aP => exact rfl); (case aB => exact (by repeat (first | (with_reducible first | exact HB.out | apply below_alloc | apply pw_below_drewN | apply below_drew1) | exact HB.out))); (case aF => exact (fun _ _ => trivial)); (case aO => exact (by (with_reducible repeat (first | apply Kd.R_alloc | apply Kd.R_drewN | apply Kd.R_drew)); exact HO_7.out)); (case aS => exact (below_size (by repeat (first | (with_reducible first | exact HB.out | apply below_alloc | apply pw_below_drewN | apply below_drew1) | exact HB.out)))); (case aL => have := LMc29.out; omega); intro v242 w47 ho hb hg hat; rw [← Ny241.out] at ho; have n0_ := Aside0.mk (hb); have n1_ := Aside0.mk (ho); clear HB; clear HO_7; have HB := n0_; have HO243 := n1_; clear n0_ n1_; clear ho hb hg hat; obtain ⟨Ao48, co48, eo48⟩ := Kd.R_slice HO243.out; subst eo48; have p248 : 0 ≤ ((ji37) : Int) := of_decide_eq_true (by first | (with_reducible assumption) | assumption); have q248 : (ji37) < (y241.length : Int) := of_decide_eq_true (by first | (with_reducible assumption) | assumption); obtain ⟨ad248, e248, hx248_0⟩ := Kd.at_int (Kd.R_reads' HO243.out).2.2 (ji37) p248 q248; cases e248; replace p248 := eq_true p248; replace q248 := eq_true q248; have p249 : 0 ≤ (x8_1 : Int) := of_decide_eq_true (by first | (with_reducible assumption) | assumption); have q249 : x8_1 < (l0.length : Int) := of_decide_eq_true (by first | (with_reducible assumption) | assumption); obtain ⟨ad249, e249, hx249_0, hx249_1⟩ := at_T45 HR0.out x8_1 p249 q249; cases e249; replace hx249_0 := (HB.out.cell (World.block_lt_of_cell? w _ hx249_0)).trans hx249_0; replace hx249_1 := (HB.out.cell (World.block_lt_of_cell? w _ hx249_1)).trans hx249_1; replace p249 := eq_true p249; replace q249 := eq_true q249)))
                  go_roundg kj17
                  case measure => have := HK1.out; have := HJ4.out; have := HJ13.out; have := HJ17.out; omega
                  case rel => exact ⟨(y241), (wrap64 (x8_1 + 1)), (by first | rfl | (simp; done) | (simp [*]; done)), H', ⟨by have := HK1.out; have := HJ4.out; have := HJ13.out; have := HJ17.out; omega⟩, ⟨by (with_reducible repeat (first | apply Kd.R_alloc | apply Kd.R_drewN | apply Kd.R_drew)); exact HO243.out⟩, ⟨by repeat (first | (with_reducible first | exact HB.out | apply below_alloc | apply pw_below_drewN | apply below_drew1) | exact HB.out)⟩⟩
                ·rw [if_neg c41] at H
                 exact absurd H (by simp)
               ·rw [if_neg c40] at H
                exact absurd H (by simp)
              ·rw [if_neg c39] at H
               exact absurd H (by simp)
             ·rw [if_neg c38] at H
              exact absurd H (by simp)
           ·rw [if_neg c29] at H
            exact absurd H (by simp)
          ·replace c28 := Bool.eq_false_iff.mpr c28
           subst c28
           have H1 : (if (x7_13.length : Int) = 0 then (if 0 ≤ x8_1 then (if x8_1 < (l0.length : Int) then (if x7_13.length < 17592186044416 then (bailiwickref03_times.l0 kj17 l0 a1 a2 (x7_13 ++ [(rd_T45 l0 x8_1).f0]) (wrap64 (x8_1 + 1))) else (none)) else (none)) else (none)) else (if 0 ≤ (wrap64 ((x7_13.length : Int) - 1)) then (if (wrap64 ((x7_13.length : Int) - 1)) < (x7_13.length : Int) then (if 0 ≤ x8_1 then (if x8_1 < (l0.length : Int) then (if (rd x7_13 (wrap64 ((x7_13.length : Int) - 1))) < ((rd_T45 l0 x8_1).f0) then (if x7_13.length < 17592186044416 then (bailiwickref03_times.l0 kj17 l0 a1 a2 (x7_13 ++ [(rd_T45 l0 x8_1).f0]) (wrap64 (x8_1 + 1))) else (none)) else (bailiwickref03_times.l0 kj17 l0 a1 a2 x7_13 (wrap64 (x8_1 + 1)))) else (none)) else (none)) else (none)) else (none))) = some r := by rw [if_neg (show ¬ (false = true) by decide)] at H; exact H
           clear H
           have H := H1
           clear H1
           by_cases c49 : (x7_13.length : Int) = 0
           ·rw [if_pos c49] at H
            have c49b0 : ((x7_13.length : Int) == 0) = true := beq_iff_eq.mpr c49
            have c49b1 : ((x7_13.length : Int) != 0) = false := bne_eq_false_iff_eq.mpr c49
            clear c49
            by_cases c50 : 0 ≤ x8_1
            ·rw [if_pos c50] at H
             have c50b0 : decide (0 ≤ x8_1) = true := decide_eq_true c50
             clear c50
             by_cases c51 : x8_1 < (l0.length : Int)
             ·rw [if_pos c51] at H
              have c51b0 : decide (x8_1 < (l0.length : Int)) = true := decide_eq_true c51
              clear c51
              by_cases c52 : x7_13.length < 17592186044416
              ·rw [if_pos c52] at H
               have LMc52 := Aside0.mk c52
               clear c52
               obtain ⟨y255, hy255⟩ : ∃ y_ : List Int, y_ = (x7_13 ++ [(rd_T45 l0 x8_1).f0]) := ⟨_, rfl⟩
               replace H : (bailiwickref03_times.l0 kj17 l0 a1 a2 y255 (wrap64 (x8_1 + 1))) = some r := by first | (rw [hy255]; with_reducible exact H) | (have H2_ := (Option.bind_some _ _).symm.trans H; rw [hy255]; with_reducible exact H2_) | (have H2_ := (Option.bind_some _ _).symm.trans H; with_reducible exact H2_) | with_reducible exact H | (rw [hy255]; exact H) | exact H
               have Ny255 := Aside0.mk hy255
               clear hy255
               have H' := Aside0.mk H
               clear H
               obtain ⟨Ao53, co53, eo53⟩ := Kd.R_slice HO_7.out
               subst eo53
               have p254 : 0 ≤ (x8_1 : Int) := of_decide_eq_true (by first | (with_reducible assumption) | assumption)
               have q254 : x8_1 < (l0.length : Int) := of_decide_eq_true (by first | (with_reducible assumption) | assumption)
               obtain ⟨ad254, e254, hx254_0, hx254_1⟩ := at_T45 HR0.out x8_1 p254 q254
               cases e254
               replace hx254_0 := (HB.out.cell (World.block_lt_of_cell? w _ hx254_0)).trans hx254_0
               replace hx254_1 := (HB.out.cell (World.block_lt_of_cell? w _ hx254_1)).trans hx254_1
               replace p254 := eq_true p254
               replace q254 := eq_true q254
               go_wp2_with (first | ((with_reducible refine gate_builtin (b := .append) (xs := #[.tmp 84, .tmp 90]) rfl ?_); (try (refine gate_guard (by rfl) ?_; dsimp only)); at_builtin; refine Kd.R_append (Kd.int .i64) (w0 := w) w.heap.size rfl (.tmp 84) (.tmp 90) 73 2 (.int .i64 0) 8 rfl Try.underlying73 info2 rfl (by decide) (by omega) (.slice Ao53 x7_13.length co53) x7_13 ((rd_T45 l0 x8_1).f0) [.int .i64 ((rd_T45 l0 x8_1).f0)] (fun _ => True) (fun _ => False) rfl rfl ?aP (fun _ hk => hk.elim) ?aF ?aO ?aB ?aS ?aL ?_; (case aP => exact rfl); (case aB => exact (by repeat (first | (with_reducible first | exact HB.out | apply below_alloc | apply pw_below_drewN | apply below_drew1) | exact HB.out))); (case aF => exact (fun _ _ => trivial)); (case aO => exact (by (with_reducible repeat (first | apply Kd.R_alloc | apply Kd.R_drewN | apply Kd.R_drew)); exact HO_7.out)); (case aS => exact (below_size (by repeat (first | (with_reducible first | exact HB.out | apply below_alloc | apply pw_below_drewN | apply below_drew1) | exact HB.out)))); (case aL => have := LMc52.out; omega); intro v256 w54 ho hb hg hat; rw [← Ny255.out] at ho; have n0_ := Aside0.mk (hb); have n1_ := Aside0.mk (ho); clear HB; clear HO_7; have HB := n0_; have HO257 := n1_; clear n0_ n1_; clear ho hb hg hat))
               repeat (go_quiet (first | ((with_reducible refine gate_builtin (b := .append) (xs := #[.tmp 84, .tmp 90]) rfl ?_); (try (refine gate_guard (by rfl) ?_; dsimp only)); at_builtin; refine Kd.R_append (Kd.int .i64) (w0 := w) w.heap.size rfl (.tmp 84) (.tmp 90) 73 2 (.int .i64 0) 8 rfl Try.underlying73 info2 rfl (by decide) (by omega) (.slice Ao53 x7_13.length co53) x7_13 ((rd_T45 l0 x8_1).f0) [.int .i64 ((rd_T45 l0 x8_1).f0)] (fun _ => True) (fun _ => False) rfl rfl ?aP (fun _ hk => hk.elim) ?aF ?aO ?aB ?aS ?aL ?_; (case aP => exact rfl); (case aB => exact (by repeat (first | (with_reducible first | exact HB.out | apply below_alloc | apply pw_below_drewN | apply below_drew1) | exact HB.out))); (case aF => exact (fun _ _ => trivial)); (case aO => exact (by (with_reducible repeat (first | apply Kd.R_alloc | apply Kd.R_drewN | apply Kd.R_drew)); exact HO_7.out)); (case aS => exact (below_size (by repeat (first | (with_reducible first | exact HB.out | apply below_alloc | apply pw_below_drewN | apply below_drew1) | exact HB.out)))); (case aL => have := LMc52.out; omega); intro v256 w54 ho hb hg hat; rw [← Ny255.out] at ho; have n0_ := Aside0.mk (hb); have n1_ := Aside0.mk (ho); clear HB; clear HO_7; have HB := n0_; have HO257 := n1_; clear n0_ n1_; clear ho hb hg hat)); try go_wp2_with (first | ((with_reducible refine gate_builtin (b := .append) (xs := #[.tmp 84, .tmp 90]) rfl ?_); (try (refine gate_guard (by rfl) ?_; dsimp only)); at_builtin; refine Kd.R_append (Kd.int .i64) (w0 := w) w.heap.size rfl (.tmp 84) (.tmp 90) 73 2 (.int .i64 0) 8 rfl Try.underlying73 info2 rfl (by decide) (by omega) (.slice Ao53 x7_13.length co53) x7_13 ((rd_T45 l0 x8_1).f0) [.int .i64 ((rd_T45 l0 x8_1).f0)] (fun _ => True) (fun _ => False) rfl rfl ?aP (fun _ hk => hk.elim) ?aF ?aO ?aB ?aS ?aL ?_; (case aP => exact rfl); (case aB => exact (by repeat (first | (with_reducible first | exact HB.out | apply below_alloc | apply pw_below_drewN | apply below_drew1) | exact HB.out))); (case aF => exact (fun _ _ => trivial)); (case aO => exact (by (with_reducible repeat (first | apply Kd.R_alloc | apply Kd.R_drewN | apply Kd.R_drew)); exact HO_7.out)); (case aS => exact (below_size (by repeat (first | (with_reducible first | exact HB.out | apply below_alloc | apply pw_below_drewN | apply below_drew1) | exact HB.out)))); (case aL => have := LMc52.out; omega); intro v256 w54 ho hb hg hat; rw [← Ny255.out] at ho; have n0_ := Aside0.mk (hb); have n1_ := Aside0.mk (ho); clear HB; clear HO_7; have HB := n0_; have HO257 := n1_; clear n0_ n1_; clear ho hb hg hat)))
               go_roundg kj17
               case measure => have := HK1.out; have := HJ4.out; have := HJ13.out; have := HJ17.out; omega
               case rel => exact ⟨(y255), (wrap64 (x8_1 + 1)), (by first | rfl | (simp; done) | (simp [*]; done)), H', ⟨by have := HK1.out; have := HJ4.out; have := HJ13.out; have := HJ17.out; omega⟩, ⟨by (with_reducible repeat (first | apply Kd.R_alloc | apply Kd.R_drewN | apply Kd.R_drew)); exact HO257.out⟩, ⟨by repeat (first | (with_reducible first | exact HB.out | apply below_alloc | apply pw_below_drewN | apply below_drew1) | exact HB.out)⟩⟩
              ·rw [if_neg c52] at H
               exact absurd H (by simp)
             ·rw [if_neg c51] at H
              exact absurd H (by simp)
            ·rw [if_neg c50] at H
             exact absurd H (by simp)
           ·rw [if_neg c49] at H
            have c49b0 : ((x7_13.length : Int) == 0) = false := beq_eq_false_iff_ne.mpr c49
            have c49b1 : ((x7_13.length : Int) != 0) = true := bne_iff_ne.mpr c49
            have c49b2 : ¬ (x7_13 = []) := fun h_ => c49 (by rw [h_]; rfl)
            obtain ⟨ji55, hji55⟩ : ∃ j_ : Int, (wrap64 ((x7_13.length : Int) - 1)) = j_ := ⟨_, rfl⟩
            replace H : (if 0 ≤ (ji55) then (if (ji55) < (x7_13.length : Int) then (if 0 ≤ x8_1 then (if x8_1 < (l0.length : Int) then (if (rd x7_13 (ji55)) < ((rd_T45 l0 x8_1).f0) then (if x7_13.length < 17592186044416 then (bailiwickref03_times.l0 kj17 l0 a1 a2 (x7_13 ++ [(rd_T45 l0 x8_1).f0]) (wrap64 (x8_1 + 1))) else (none)) else (bailiwickref03_times.l0 kj17 l0 a1 a2 x7_13 (wrap64 (x8_1 + 1)))) else (none)) else (none)) else (none)) else (none)) = some r := by first | (rw [hji55] at H; exact H) | (simp only [hji55] at H ⊢; exact H)
            have hji55w : (IntKind.i64.wrap ((x7_13.length : Int) - 1)) = ji55 := (i64_w _).trans hji55
            by_cases c56 : 0 ≤ (ji55)
            ·rw [if_pos c56] at H
             have c56b0 : decide (0 ≤ (ji55)) = true := decide_eq_true c56
             clear c56
             by_cases c57 : (ji55) < (x7_13.length : Int)
             ·rw [if_pos c57] at H
              have c57b0 : decide ((ji55) < (x7_13.length : Int)) = true := decide_eq_true c57
              clear c57
              by_cases c58 : 0 ≤ x8_1
              ·rw [if_pos c58] at H
               have c58b0 : decide (0 ≤ x8_1) = true := decide_eq_true c58
               clear c58
               by_cases c59 : x8_1 < (l0.length : Int)
               ·rw [if_pos c59] at H
                have c59b0 : decide (x8_1 < (l0.length : Int)) = true := decide_eq_true c59
                clear c59
                by_cases c60 : (rd x7_13 (ji55)) < ((rd_T45 l0 x8_1).f0)
                ·rw [if_pos c60] at H
                 have c60b0 : decide ((rd x7_13 (ji55)) < ((rd_T45 l0 x8_1).f0)) = true := decide_eq_true c60
                 clear c60
                 by_cases c61 : x7_13.length < 17592186044416
                 ·rw [if_pos c61] at H
                  have LMc61 := Aside0.mk c61
                  clear c61
                  obtain ⟨y261, hy261⟩ : ∃ y_ : List Int, y_ = (x7_13 ++ [(rd_T45 l0 x8_1).f0]) := ⟨_, rfl⟩
                  replace H : (bailiwickref03_times.l0 kj17 l0 a1 a2 y261 (wrap64 (x8_1 + 1))) = some r := by first | (rw [hy261]; with_reducible exact H) | (have H2_ := (Option.bind_some _ _).symm.trans H; rw [hy261]; with_reducible exact H2_) | (have H2_ := (Option.bind_some _ _).symm.trans H; with_reducible exact H2_) | with_reducible exact H | (rw [hy261]; exact H) | exact H
                  have Ny261 := Aside0.mk hy261
                  clear hy261
                  have H' := Aside0.mk H
                  clear H
                  obtain ⟨Ao62, co62, eo62⟩ := Kd.R_slice HO_7.out
                  subst eo62
                  have p258 : 0 ≤ ((ji55) : Int) := of_decide_eq_true (by first | (with_reducible assumption) | assumption)
                  have q258 : (ji55) < (x7_13.length : Int) := of_decide_eq_true (by first | (with_reducible assumption) | assumption)
                  obtain ⟨ad258, e258, hx258_0⟩ := Kd.at_int (Kd.R_reads' HO_7.out).2.2 (ji55) p258 q258
                  cases e258
                  replace p258 := eq_true p258
                  replace q258 := eq_true q258
                  have p259 : 0 ≤ (x8_1 : Int) := of_decide_eq_true (by first | (with_reducible assumption) | assumption)
                  have q259 : x8_1 < (l0.length : Int) := of_decide_eq_true (by first | (with_reducible assumption) | assumption)
                  obtain ⟨ad259, e259, hx259_0, hx259_1⟩ := at_T45 HR0.out x8_1 p259 q259
                  cases e259
                  replace hx259_0 := (HB.out.cell (World.block_lt_of_cell? w _ hx259_0)).trans hx259_0
                  replace hx259_1 := (HB.out.cell (World.block_lt_of_cell? w _ hx259_1)).trans hx259_1
                  replace p259 := eq_true p259
                  replace q259 := eq_true q259
                  have p260 : 0 ≤ (x8_1 : Int) := of_decide_eq_true (by first | (with_reducible assumption) | assumption)
                  have q260 : x8_1 < (l0.length : Int) := of_decide_eq_true (by first | (with_reducible assumption) | assumption)
                  obtain ⟨ad260, e260, hx260_0, hx260_1⟩ := at_T45 HR0.out x8_1 p260 q260
                  obtain rfl : ad259 = ad260 := (by injection e260)
                  replace hx260_0 := (HB.out.cell (World.block_lt_of_cell? w _ hx260_0)).trans hx260_0
                  replace hx260_1 := (HB.out.cell (World.block_lt_of_cell? w _ hx260_1)).trans hx260_1
                  replace p260 := eq_true p260
                  replace q260 := eq_true q260
                  go_wp2_with (first | ((with_reducible refine gate_builtin (b := .append) (xs := #[.tmp 84, .tmp 90]) rfl ?_); (try (refine gate_guard (by rfl) ?_; dsimp only)); at_builtin; refine Kd.R_append (Kd.int .i64) (w0 := w) w.heap.size rfl (.tmp 84) (.tmp 90) 73 2 (.int .i64 0) 8 rfl Try.underlying73 info2 rfl (by decide) (by omega) (.slice (some ad258) x7_13.length co62) x7_13 ((rd_T45 l0 x8_1).f0) [.int .i64 ((rd_T45 l0 x8_1).f0)] (fun _ => True) (fun _ => False) rfl rfl ?aP (fun _ hk => hk.elim) ?aF ?aO ?aB ?aS ?aL ?_; (case aP => exact rfl); (case aB => exact (by repeat (first | (with_reducible first | exact HB.out | apply below_alloc | apply pw_below_drewN | apply below_drew1) | exact HB.out))); (case aF => exact (fun _ _ => trivial)); (case aO => exact (by (with_reducible repeat (first | apply Kd.R_alloc | apply Kd.R_drewN | apply Kd.R_drew)); exact HO_7.out)); (case aS => exact (below_size (by repeat (first | (with_reducible first | exact HB.out | apply below_alloc | apply pw_below_drewN | apply below_drew1) | exact HB.out)))); (case aL => have := LMc61.out; omega); intro v262 w63 ho hb hg hat; rw [← Ny261.out] at ho; have n0_ := Aside0.mk (hb); have n1_ := Aside0.mk (ho); clear HB; clear HO_7; have HB := n0_; have HO263 := n1_; clear n0_ n1_; clear ho hb hg hat))
                  repeat (go_quiet (first | ((with_reducible refine gate_builtin (b := .append) (xs := #[.tmp 84, .tmp 90]) rfl ?_); (try (refine gate_guard (by rfl) ?_; dsimp only)); at_builtin; refine Kd.R_append (Kd.int .i64) (w0 := w) w.heap.size rfl (.tmp 84) (.tmp 90) 73 2 (.int .i64 0) 8 rfl Try.underlying73 info2 rfl (by decide) (by omega) (.slice (some ad258) x7_13.length co62) x7_13 ((rd_T45 l0 x8_1).f0) [.int .i64 ((rd_T45 l0 x8_1).f0)] (fun _ => True) (fun _ => False) rfl rfl ?aP (fun _ hk => hk.elim) ?aF ?aO ?aB ?aS ?aL ?_; (case aP => exact rfl); (case aB => exact (by repeat (first | (with_reducible first | exact HB.out | apply below_alloc | apply pw_below_drewN | apply below_drew1) | exact HB.out))); (case aF => exact (fun _ _ => trivial)); (case aO => exact (by (with_reducible repeat (first | apply Kd.R_alloc | apply Kd.R_drewN | apply Kd.R_drew)); exact HO_7.out)); (case aS => exact (below_size (by repeat (first | (with_reducible first | exact HB.out | apply below_alloc | apply pw_below_drewN | apply below_drew1) | exact HB.out)))); (case aL => have := LMc61.out; omega); intro v262 w63 ho hb hg hat; rw [← Ny261.out] at ho; have n0_ := Aside0.mk (hb); have n1_ := Aside0.mk (ho); clear HB; clear HO_7; have HB := n0_; have HO263 := n1_; clear n0_ n1_; clear ho hb hg hat)); try go_wp2_with (first | ((with_reducible refine gate_builtin (b := .append) (xs := #[.tmp 84, .tmp 90]) rfl ?_); (try (refine gate_guard (by rfl) ?_; dsimp only)); at_builtin; refine Kd.R_append (Kd.int .i64) (w0 := w) w.heap.size rfl (.tmp 84) (.tmp 90) 73 2 (.int .i64 0) 8 rfl Try.underlying73 info2 rfl (by decide) (by omega) (.slice (some ad258) x7_13.length co62) x7_13 ((rd_T45 l0 x8_1).f0) [.int .i64 ((rd_T45 l0 x8_1).f0)] (fun _ => True) (fun _ => False) rfl rfl ?aP (fun _ hk => hk.elim) ?aF ?aO ?aB ?aS ?aL ?_; (case aP => exact rfl); (case aB => exact (by repeat (first | (with_reducible first | exact HB.out | apply below_alloc | apply pw_below_drewN | apply below_drew1) | exact HB.out))); (case aF => exact (fun _ _ => trivial)); (case aO => exact (by (with_reducible repeat (first | apply Kd.R_alloc | apply Kd.R_drewN | apply Kd.R_drew)); exact HO_7.out)); (case aS => exact (below_size (by repeat (first | (with_reducible first | exact HB.out | apply below_alloc | apply pw_below_drewN | apply below_drew1) | exact HB.out)))); (case aL => have := LMc61.out; omega); intro v262 w63 ho hb hg hat; rw [← Ny261.out] at ho; have n0_ := Aside0.mk (hb); have n1_ := Aside0.mk (ho); clear HB; clear HO_7; have HB := n0_; have HO263 := n1_; clear n0_ n1_; clear ho hb hg hat)))
                  go_roundg kj17
                  case measure => have := HK1.out; have := HJ4.out; have := HJ13.out; have := HJ17.out; omega
                  case rel => exact ⟨(y261), (wrap64 (x8_1 + 1)), (by first | rfl | (simp; done) | (simp [*]; done)), H', ⟨by have := HK1.out; have := HJ4.out; have := HJ13.out; have := HJ17.out; omega⟩, ⟨by (with_reducible repeat (first | apply Kd.R_alloc | apply Kd.R_drewN | apply Kd.R_drew)); exact HO263.out⟩, ⟨by repeat (first | (with_reducible first | exact HB.out | apply below_alloc | apply pw_below_drewN | apply below_drew1) | exact HB.out)⟩⟩
                 ·rw [if_neg c61] at H
                  exact absurd H (by simp)
                ·rw [if_neg c60] at H
                 have c60b0 : decide ((rd x7_13 (ji55)) < ((rd_T45 l0 x8_1).f0)) = false := decide_eq_false c60
                 clear c60
                 have H' := Aside0.mk H
                 clear H
                 obtain ⟨Ao64, co64, eo64⟩ := Kd.R_slice HO_7.out
                 subst eo64
                 have p258 : 0 ≤ ((ji55) : Int) := of_decide_eq_true (by first | (with_reducible assumption) | assumption)
                 have q258 : (ji55) < (x7_13.length : Int) := of_decide_eq_true (by first | (with_reducible assumption) | assumption)
                 obtain ⟨ad258, e258, hx258_0⟩ := Kd.at_int (Kd.R_reads' HO_7.out).2.2 (ji55) p258 q258
                 cases e258
                 replace p258 := eq_true p258
                 replace q258 := eq_true q258
                 have p259 : 0 ≤ (x8_1 : Int) := of_decide_eq_true (by first | (with_reducible assumption) | assumption)
                 have q259 : x8_1 < (l0.length : Int) := of_decide_eq_true (by first | (with_reducible assumption) | assumption)
                 obtain ⟨ad259, e259, hx259_0, hx259_1⟩ := at_T45 HR0.out x8_1 p259 q259
                 cases e259
                 replace hx259_0 := (HB.out.cell (World.block_lt_of_cell? w _ hx259_0)).trans hx259_0
                 replace hx259_1 := (HB.out.cell (World.block_lt_of_cell? w _ hx259_1)).trans hx259_1
                 replace p259 := eq_true p259
                 replace q259 := eq_true q259
                 go_wp2
                 repeat (go_quiet (fail); try go_wp2)
                 go_roundg kj17
                 case measure => have := HK1.out; have := HJ4.out; have := HJ13.out; have := HJ17.out; omega
                 case rel => exact ⟨(x7_13), (wrap64 (x8_1 + 1)), (by first | rfl | (simp; done) | (simp [*]; done)), H', ⟨by have := HK1.out; have := HJ4.out; have := HJ13.out; have := HJ17.out; omega⟩, ⟨by (with_reducible repeat (first | apply Kd.R_alloc | apply Kd.R_drewN | apply Kd.R_drew)); exact HO_7.out⟩, ⟨by repeat (first | (with_reducible first | exact HB.out | apply below_alloc | apply pw_below_drewN | apply below_drew1) | exact HB.out)⟩⟩
               ·rw [if_neg c59] at H
                exact absurd H (by simp)
              ·rw [if_neg c58] at H
               exact absurd H (by simp)
             ·rw [if_neg c57] at H
              exact absurd H (by simp)
            ·rw [if_neg c56] at H
             exact absurd H (by simp)
   ·rw [if_neg c4] at H
    have c4b0 : decide (x8_1 < (l0.length : Int)) = false := decide_eq_false c4
    clear c4
    obtain ⟨ji65, hji65⟩ : ∃ j_ : Int, (wrap64 ((x7_1.length : Int) - 1)) = j_ := ⟨_, rfl⟩
    replace H : (if 0 ≤ (ji65) then (if (ji65) < (x7_1.length : Int) then (if (rd x7_1 (ji65)) < a1 then (if x7_1.length < 17592186044416 then ((some (x7_1 ++ [a1] : List Int)).bind fun y265 => (if 0 ≤ (wrap64 ((y265.length : Int) - 1)) then (if (wrap64 ((y265.length : Int) - 1)) < (y265.length : Int) then (if (rd y265 (wrap64 ((y265.length : Int) - 1))) < a2 then (if y265.length < 17592186044416 then (some (y265 ++ [a2])) else (none)) else (some y265)) else (none)) else (none))) else (none)) else (if (rd x7_1 (ji65)) < a2 then (if x7_1.length < 17592186044416 then (some (x7_1 ++ [a2])) else (none)) else (some x7_1))) else (none)) else (none)) = some r := by first | (rw [hji65] at H; exact H) | (simp only [hji65] at H ⊢; exact H)
    have hji65w : (IntKind.i64.wrap ((x7_1.length : Int) - 1)) = ji65 := (i64_w _).trans hji65
    by_cases c66 : 0 ≤ (ji65)
    ·rw [if_pos c66] at H
     have c66b0 : decide (0 ≤ (ji65)) = true := decide_eq_true c66
     clear c66
     by_cases c67 : (ji65) < (x7_1.length : Int)
     ·rw [if_pos c67] at H
      have c67b0 : decide ((ji65) < (x7_1.length : Int)) = true := decide_eq_true c67
      clear c67
      by_cases c68 : (rd x7_1 (ji65)) < a1
      ·rw [if_pos c68] at H
       have c68b0 : decide ((rd x7_1 (ji65)) < a1) = true := decide_eq_true c68
       clear c68
       by_cases c69 : x7_1.length < 17592186044416
       ·rw [if_pos c69] at H
        have LMc69 := Aside0.mk c69
        clear c69
        obtain ⟨y265, hy265⟩ : ∃ y_ : List Int, y_ = (x7_1 ++ [a1]) := ⟨_, rfl⟩
        replace H : (if 0 ≤ (wrap64 ((y265.length : Int) - 1)) then (if (wrap64 ((y265.length : Int) - 1)) < (y265.length : Int) then (if (rd y265 (wrap64 ((y265.length : Int) - 1))) < a2 then (if y265.length < 17592186044416 then (some (y265 ++ [a2])) else (none)) else (some y265)) else (none)) else (none)) = some r := by first | (rw [hy265]; with_reducible exact H) | (have H2_ := (Option.bind_some _ _).symm.trans H; rw [hy265]; with_reducible exact H2_) | (have H2_ := (Option.bind_some _ _).symm.trans H; with_reducible exact H2_) | with_reducible exact H | (rw [hy265]; exact H) | exact H
        have Ny265 := Aside0.mk hy265
        clear hy265
        obtain ⟨ji70, hji70⟩ : ∃ j_ : Int, (wrap64 ((y265.length : Int) - 1)) = j_ := ⟨_, rfl⟩
        replace H : (if 0 ≤ (ji70) then (if (ji70) < (y265.length : Int) then (if (rd y265 (ji70)) < a2 then (if y265.length < 17592186044416 then (some (y265 ++ [a2])) else (none)) else (some y265)) else (none)) else (none)) = some r := by first | (rw [hji70] at H; exact H) | (simp only [hji70] at H ⊢; exact H)
        have hji70w : (IntKind.i64.wrap ((y265.length : Int) - 1)) = ji70 := (i64_w _).trans hji70
        by_cases c71 : 0 ≤ (ji70)
        ·rw [if_pos c71] at H
         have c71b0 : decide (0 ≤ (ji70)) = true := decide_eq_true c71
         clear c71
         by_cases c72 : (ji70) < (y265.length : Int)
         ·rw [if_pos c72] at H
          have c72b0 : decide ((ji70) < (y265.length : Int)) = true := decide_eq_true c72
          clear c72
          by_cases c73 : (rd y265 (ji70)) < a2
          ·rw [if_pos c73] at H
           have c73b0 : decide ((rd y265 (ji70)) < a2) = true := decide_eq_true c73
           clear c73
           by_cases c74 : y265.length < 17592186044416
           ·rw [if_pos c74] at H
            have LMc74 := Aside0.mk c74
            clear c74
            obtain ⟨y269, hy269⟩ : ∃ y_ : List Int, y_ = (y265 ++ [a2]) := ⟨_, rfl⟩
            replace H : (some y269) = some r := by first | (rw [hy269]; with_reducible exact H) | (have H2_ := (Option.bind_some _ _).symm.trans H; rw [hy269]; with_reducible exact H2_) | (have H2_ := (Option.bind_some _ _).symm.trans H; with_reducible exact H2_) | with_reducible exact H | (rw [hy269]; exact H) | exact H
            have Ny269 := Aside0.mk hy269
            clear hy269
            obtain rfl := Option.some.inj H
            obtain ⟨Ao75, co75, eo75⟩ := Kd.R_slice HO_7.out
            subst eo75
            have p264 : 0 ≤ ((ji65) : Int) := of_decide_eq_true (by first | (with_reducible assumption) | assumption)
            have q264 : (ji65) < (x7_1.length : Int) := of_decide_eq_true (by first | (with_reducible assumption) | assumption)
            obtain ⟨ad264, e264, hx264_0⟩ := Kd.at_int (Kd.R_reads' HO_7.out).2.2 (ji65) p264 q264
            cases e264
            replace p264 := eq_true p264
            replace q264 := eq_true q264
            go_wp2_with (first | ((with_reducible refine gate_builtin (b := .append) (xs := #[.tmp 100, .tmp 102]) rfl ?_); (try (refine gate_guard (by rfl) ?_; dsimp only)); at_builtin; refine Kd.R_append (Kd.int .i64) (w0 := w) w.heap.size rfl (.tmp 100) (.tmp 102) 73 2 (.int .i64 0) 8 rfl Try.underlying73 info2 rfl (by decide) (by omega) (.slice (some ad264) x7_1.length co75) x7_1 a1 [.int .i64 a1] (fun _ => True) (fun _ => False) rfl rfl ?aP (fun _ hk => hk.elim) ?aF ?aO ?aB ?aS ?aL ?_; (case aP => exact rfl); (case aB => exact (by repeat (first | (with_reducible first | exact HB.out | apply below_alloc | apply pw_below_drewN | apply below_drew1) | exact HB.out))); (case aF => exact (fun _ _ => trivial)); (case aO => exact (by (with_reducible repeat (first | apply Kd.R_alloc | apply Kd.R_drewN | apply Kd.R_drew)); exact HO_7.out)); (case aS => exact (below_size (by repeat (first | (with_reducible first | exact HB.out | apply below_alloc | apply pw_below_drewN | apply below_drew1) | exact HB.out)))); (case aL => have := LMc69.out; omega); intro v266 w76 ho hb hg hat; rw [← Ny265.out] at ho; have n0_ := Aside0.mk (hb); have n1_ := Aside0.mk (ho); clear HB; clear HO_7; have HB := n0_; have HO267 := n1_; clear n0_ n1_; clear ho hb hg hat; obtain ⟨Ao77, co77, eo77⟩ := Kd.R_slice HO267.out; subst eo77; have p268 : 0 ≤ ((ji70) : Int) := of_decide_eq_true (by first | (with_reducible assumption) | assumption); have q268 : (ji70) < (y265.length : Int) := of_decide_eq_true (by first | (with_reducible assumption) | assumption); obtain ⟨ad268, e268, hx268_0⟩ := Kd.at_int (Kd.R_reads' HO267.out).2.2 (ji70) p268 q268; cases e268; replace p268 := eq_true p268; replace q268 := eq_true q268) | ((with_reducible refine gate_builtin (b := .append) (xs := #[.tmp 112, .tmp 114]) rfl ?_); (try (refine gate_guard (by rfl) ?_; dsimp only)); at_builtin; refine Kd.R_append (Kd.int .i64) (w0 := w) w.heap.size rfl (.tmp 112) (.tmp 114) 73 2 (.int .i64 0) 8 rfl Try.underlying73 info2 rfl (by decide) (by omega) (.slice (some ad268) y265.length co77) y265 a2 [.int .i64 a2] (fun _ => True) (fun _ => False) rfl rfl ?aP (fun _ hk => hk.elim) ?aF ?aO ?aB ?aS ?aL ?_; (case aP => exact rfl); (case aB => exact (by repeat (first | (with_reducible first | exact HB.out | apply below_alloc | apply pw_below_drewN | apply below_drew1) | exact HB.out))); (case aF => exact (fun _ _ => trivial)); (case aO => exact (by (with_reducible repeat (first | apply Kd.R_alloc | apply Kd.R_drewN | apply Kd.R_drew)); exact HO267.out)); (case aS => exact (below_size (by repeat (first | (with_reducible first | exact HB.out | apply below_alloc | apply pw_below_drewN | apply below_drew1) | exact HB.out)))); (case aL => have := LMc74.out; omega); intro v270 w78 ho hb hg hat; rw [← Ny269.out] at ho; have n0_ := Aside0.mk (hb); have n1_ := Aside0.mk (ho); clear HB; clear HO267; have HB := n0_; have HO271 := n1_; clear n0_ n1_; clear ho hb hg hat))
            repeat (go_quiet (first | ((with_reducible refine gate_builtin (b := .append) (xs := #[.tmp 100, .tmp 102]) rfl ?_); (try (refine gate_guard (by rfl) ?_; dsimp only)); at_builtin; refine Kd.R_append (Kd.int .i64) (w0 := w) w.heap.size rfl (.tmp 100) (.tmp 102) 73 2 (.int .i64 0) 8 rfl Try.underlying73 info2 rfl (by decide) (by omega) (.slice (some ad264) x7_1.length co75) x7_1 a1 [.int .i64 a1] (fun _ => True) (fun _ => False) rfl rfl ?aP (fun _ hk => hk.elim) ?aF ?aO ?aB ?aS ?aL ?_; (case aP => exact rfl); (case aB => exact (by repeat (first | (with_reducible first | exact HB.out | apply below_alloc | apply pw_below_drewN | apply below_drew1) | exact HB.out))); (case aF => exact (fun _ _ => trivial)); (case aO => exact (by (with_reducible repeat (first | apply Kd.R_alloc | apply Kd.R_drewN | apply Kd.R_drew)); exact HO_7.out)); (case aS => exact (below_size (by repeat (first | (with_reducible first | exact HB.out | apply below_alloc | apply pw_below_drewN | apply below_drew1) | exact HB.out)))); (case aL => have := LMc69.out; omega); intro v266 w76 ho hb hg hat; rw [← Ny265.out] at ho; have n0_ := Aside0.mk (hb); have n1_ := Aside0.mk (ho); clear HB; clear HO_7; have HB := n0_; have HO267 := n1_; clear n0_ n1_; clear ho hb hg hat; obtain ⟨Ao77, co77, eo77⟩ := Kd.R_slice HO267.out; subst eo77; have p268 : 0 ≤ ((ji70) : Int) := of_decide_eq_true (by first | (with_reducible assumption) | assumption); have q268 : (ji70) < (y265.length : Int) := of_decide_eq_true (by first | (with_reducible assumption) | assumption); obtain ⟨ad268, e268, hx268_0⟩ := Kd.at_int (Kd.R_reads' HO267.out).2.2 (ji70) p268 q268; cases e268; replace p268 := eq_true p268; replace q268 := eq_true q268) | ((with_reducible refine gate_builtin (b := .append) (xs := #[.tmp 112, .tmp 114]) rfl ?_); (try (refine gate_guard (by rfl) ?_; dsimp only)); at_builtin; refine Kd.R_append (Kd.int .i64) (w0 := w) w.heap.size rfl (.tmp 112) (.tmp 114) 73 2 (.int .i64 0) 8 rfl Try.underlying73 info2 rfl (by decide) (by omega) (.slice (some ad268) y265.length co77) y265 a2 [.int .i64 a2] (fun _ => True) (fun _ => False) rfl rfl ?aP (fun _ hk => hk.elim) ?aF ?aO ?aB ?aS ?aL ?_; (case aP => exact rfl); (case aB => exact (by repeat (first | (with_reducible first | exact HB.out | apply below_alloc | apply pw_below_drewN | apply below_drew1) | exact HB.out))); (case aF => exact (fun _ _ => trivial)); (case aO => exact (by (with_reducible repeat (first | apply Kd.R_alloc | apply Kd.R_drewN | apply Kd.R_drew)); exact HO267.out)); (case aS => exact (below_size (by repeat (first | (with_reducible first | exact HB.out | apply below_alloc | apply pw_below_drewN | apply below_drew1) | exact HB.out)))); (case aL => have := LMc74.out; omega); intro v270 w78 ho hb hg hat; rw [← Ny269.out] at ho; have n0_ := Aside0.mk (hb); have n1_ := Aside0.mk (ho); clear HB; clear HO267; have HB := n0_; have HO271 := n1_; clear n0_ n1_; clear ho hb hg hat)); try go_wp2_with (first | ((with_reducible refine gate_builtin (b := .append) (xs := #[.tmp 100, .tmp 102]) rfl ?_); (try (refine gate_guard (by rfl) ?_; dsimp only)); at_builtin; refine Kd.R_append (Kd.int .i64) (w0 := w) w.heap.size rfl (.tmp 100) (.tmp 102) 73 2 (.int .i64 0) 8 rfl Try.underlying73 info2 rfl (by decide) (by omega) (.slice (some ad264) x7_1.length co75) x7_1 a1 [.int .i64 a1] (fun _ => True) (fun _ => False) rfl rfl ?aP (fun _ hk => hk.elim) ?aF ?aO ?aB ?aS ?aL ?_; (case aP => exact rfl); (case aB => exact (by repeat (first | (with_reducible first | exact HB.out | apply below_alloc | apply pw_below_drewN | apply below_drew1) | exact HB.out))); (case aF => exact (fun _ _ => trivial)); (case aO => exact (by (with_reducible repeat (first | apply Kd.R_alloc | apply Kd.R_drewN | apply Kd.R_drew)); exact HO_7.out)); (case aS => exact (below_size (by repeat (first | (with_reducible first | exact HB.out | apply below_alloc | apply pw_below_drewN | apply below_drew1) | exact HB.out)))); (case aL => have := LMc69.out; omega); intro v266 w76 ho hb hg hat; rw [← Ny265.out] at ho; have n0_ := Aside0.mk (hb); have n1_ := Aside0.mk (ho); clear HB; clear HO_7; have HB := n0_; have HO267 := n1_; clear n0_ n1_; clear ho hb hg hat; obtain ⟨Ao77, co77, eo77⟩ := Kd.R_slice HO267.out; subst eo77; have p268 : 0 ≤ ((ji70) : Int) := of_decide_eq_true (by first | (with_reducible assumption) | assumption); have q268 : (ji70) < (y265.length : Int) := of_decide_eq_true (by first | (with_reducible assumption) | assumption); obtain ⟨ad268, e268, hx268_0⟩ := Kd.at_int (Kd.R_reads' HO267.out).2.2 (ji70) p268 q268; cases e268; replace p268 := eq_true p268; replace q268 := eq_true q268) | ((with_reducible refine gate_builtin (b := .append) (xs := #[.tmp 112, .tmp 114]) rfl ?_); (try (refine gate_guard (by rfl) ?_; dsimp only)); at_builtin; refine Kd.R_append (Kd.int .i64) (w0 := w) w.heap.size rfl (.tmp 112) (.tmp 114) 73 2 (.int .i64 0) 8 rfl Try.underlying73 info2 rfl (by decide) (by omega) (.slice (some ad268) y265.length co77) y265 a2 [.int .i64 a2] (fun _ => True) (fun _ => False) rfl rfl ?aP (fun _ hk => hk.elim) ?aF ?aO ?aB ?aS ?aL ?_; (case aP => exact rfl); (case aB => exact (by repeat (first | (with_reducible first | exact HB.out | apply below_alloc | apply pw_below_drewN | apply below_drew1) | exact HB.out))); (case aF => exact (fun _ _ => trivial)); (case aO => exact (by (with_reducible repeat (first | apply Kd.R_alloc | apply Kd.R_drewN | apply Kd.R_drew)); exact HO267.out)); (case aS => exact (below_size (by repeat (first | (with_reducible first | exact HB.out | apply below_alloc | apply pw_below_drewN | apply below_drew1) | exact HB.out)))); (case aL => have := LMc74.out; omega); intro v270 w78 ho hb hg hat; rw [← Ny269.out] at ho; have n0_ := Aside0.mk (hb); have n1_ := Aside0.mk (ho); clear HB; clear HO267; have HB := n0_; have HO271 := n1_; clear n0_ n1_; clear ho hb hg hat)))
            go_ret
            exact ⟨_, by first | rfl | (simp [errW_none, errW_some] <;> rfl) | (simp only [← hji65, ← hji70]; first | rfl | (simp [errW_none, errW_some] <;> rfl)) | (simp [*, errW_none, errW_some] <;> rfl), by (with_reducible repeat (first | apply Kd.R_alloc | apply Kd.R_drewN | apply Kd.R_drew)); exact HO271.out, by repeat (first | (with_reducible first | exact HB.out | apply below_alloc | apply pw_below_drewN | apply below_drew1) | exact HB.out)⟩
           ·rw [if_neg c74] at H
            exact absurd H (by simp)
          ·rw [if_neg c73] at H
           have c73b0 : decide ((rd y265 (ji70)) < a2) = false := decide_eq_false c73
           clear c73
           obtain rfl := Option.some.inj H
           obtain ⟨Ao79, co79, eo79⟩ := Kd.R_slice HO_7.out
           subst eo79
           have p264 : 0 ≤ ((ji65) : Int) := of_decide_eq_true (by first | (with_reducible assumption) | assumption)
           have q264 : (ji65) < (x7_1.length : Int) := of_decide_eq_true (by first | (with_reducible assumption) | assumption)
           obtain ⟨ad264, e264, hx264_0⟩ := Kd.at_int (Kd.R_reads' HO_7.out).2.2 (ji65) p264 q264
           cases e264
           replace p264 := eq_true p264
           replace q264 := eq_true q264
           go_wp2_with (first | ((with_reducible refine gate_builtin (b := .append) (xs := #[.tmp 100, .tmp 102]) rfl ?_); (try (refine gate_guard (by rfl) ?_; dsimp only)); at_builtin; refine Kd.R_append (Kd.int .i64) (w0 := w) w.heap.size rfl (.tmp 100) (.tmp 102) 73 2 (.int .i64 0) 8 rfl Try.underlying73 info2 rfl (by decide) (by omega) (.slice (some ad264) x7_1.length co79) x7_1 a1 [.int .i64 a1] (fun _ => True) (fun _ => False) rfl rfl ?aP (fun _ hk => hk.elim) ?aF ?aO ?aB ?aS ?aL ?_; (case aP => exact rfl); (case aB => exact (by repeat (first | (with_reducible first | exact HB.out | apply below_alloc | apply pw_below_drewN | apply below_drew1) | exact HB.out))); (case aF => exact (fun _ _ => trivial)); (case aO => exact (by (with_reducible repeat (first | apply Kd.R_alloc | apply Kd.R_drewN | apply Kd.R_drew)); exact HO_7.out)); (case aS => exact (below_size (by repeat (first | (with_reducible first | exact HB.out | apply below_alloc | apply pw_below_drewN | apply below_drew1) | exact HB.out)))); (case aL => have := LMc69.out; omega); intro v266 w80 ho hb hg hat; rw [← Ny265.out] at ho; have n0_ := Aside0.mk (hb); have n1_ := Aside0.mk (ho); clear HB; clear HO_7; have HB := n0_; have HO267 := n1_; clear n0_ n1_; clear ho hb hg hat; obtain ⟨Ao81, co81, eo81⟩ := Kd.R_slice HO267.out; subst eo81; have p268 : 0 ≤ ((ji70) : Int) := of_decide_eq_true (by first | (with_reducible assumption) | assumption); have q268 : (ji70) < (y265.length : Int) := of_decide_eq_true (by first | (with_reducible assumption) | assumption); obtain ⟨ad268, e268, hx268_0⟩ := Kd.at_int (Kd.R_reads' HO267.out).2.2 (ji70) p268 q268; cases e268; replace p268 := eq_true p268; replace q268 := eq_true q268))
           repeat (go_quiet (first | ((with_reducible refine gate_builtin (b := .append) (xs := #[.tmp 100, .tmp 102]) rfl ?_); (try (refine gate_guard (by rfl) ?_; dsimp only)); at_builtin; refine Kd.R_append (Kd.int .i64) (w0 := w) w.heap.size rfl (.tmp 100) (.tmp 102) 73 2 (.int .i64 0) 8 rfl Try.underlying73 info2 rfl (by decide) (by omega) (.slice (some ad264) x7_1.length co79) x7_1 a1 [.int .i64 a1] (fun _ => True) (fun _ => False) rfl rfl ?aP (fun _ hk => hk.elim) ?aF ?aO ?aB ?aS ?aL ?_; (case aP => exact rfl); (case aB => exact (by repeat (first | (with_reducible first | exact HB.out | apply below_alloc | apply pw_below_drewN | apply below_drew1) | exact HB.out))); (case aF => exact (fun _ _ => trivial)); (case aO => exact (by (with_reducible repeat (first | apply Kd.R_alloc | apply Kd.R_drewN | apply Kd.R_drew)); exact HO_7.out)); (case aS => exact (below_size (by repeat (first | (with_reducible first | exact HB.out | apply below_alloc | apply pw_below_drewN | apply below_drew1) | exact HB.out)))); (case aL => have := LMc69.out; omega); intro v266 w80 ho hb hg hat; rw [← Ny265.out] at ho; have n0_ := Aside0.mk (hb); have n1_ := Aside0.mk (ho); clear HB; clear HO_7; have HB := n0_; have HO267 := n1_; clear n0_ n1_; clear ho hb hg hat; obtain ⟨Ao81, co81, eo81⟩ := Kd.R_slice HO267.out; subst eo81; have p268 : 0 ≤ ((ji70) : Int) := of_decide_eq_true (by first | (with_reducible assumption) | assumption); have q268 : (ji70) < (y265.length : Int) := of_decide_eq_true (by first | (with_reducible assumption) | assumption); obtain ⟨ad268, e268, hx268_0⟩ := Kd.at_int (Kd.R_reads' HO267.out).2.2 (ji70) p268 q268; cases e268; replace p268 := eq_true p268; replace q268 := eq_true q268)); try go_wp2_with (first | ((with_reducible refine gate_builtin (b := .append) (xs := #[.tmp 100, .tmp 102]) rfl ?_); (try (refine gate_guard (by rfl) ?_; dsimp only)); at_builtin; refine Kd.R_append (Kd.int .i64) (w0 := w) w.heap.size rfl (.tmp 100) (.tmp 102) 73 2 (.int .i64 0) 8 rfl Try.underlying73 info2 rfl (by decide) (by omega) (.slice (some ad264) x7_1.length co79) x7_1 a1 [.int .i64 a1] (fun _ => True) (fun _ => False) rfl rfl ?aP (fun _ hk => hk.elim) ?aF ?aO ?aB ?aS ?aL ?_; (case aP => exact rfl); (case aB => exact (by repeat (first | (with_reducible first | exact HB.out | apply below_alloc | apply pw_below_drewN | apply below_drew1) | exact HB.out))); (case aF => exact (fun _ _ => trivial)); (case aO => exact (by (with_reducible repeat (first | apply Kd.R_alloc | apply Kd.R_drewN | apply Kd.R_drew)); exact HO_7.out)); (case aS => exact (below_size (by repeat (first | (with_reducible first | exact HB.out | apply below_alloc | apply pw_below_drewN | apply below_drew1) | exact HB.out)))); (case aL => have := LMc69.out; omega); intro v266 w80 ho hb hg hat; rw [← Ny265.out] at ho; have n0_ := Aside0.mk (hb); have n1_ := Aside0.mk (ho); clear HB; clear HO_7; have HB := n0_; have HO267 := n1_; clear n0_ n1_; clear ho hb hg hat; obtain ⟨Ao81, co81, eo81⟩ := Kd.R_slice HO267.out; subst eo81; have p268 : 0 ≤ ((ji70) : Int) := of_decide_eq_true (by first | (with_reducible assumption) | assumption); have q268 : (ji70) < (y265.length : Int) := of_decide_eq_true (by first | (with_reducible assumption) | assumption); obtain ⟨ad268, e268, hx268_0⟩ := Kd.at_int (Kd.R_reads' HO267.out).2.2 (ji70) p268 q268; cases e268; replace p268 := eq_true p268; replace q268 := eq_true q268)))
           go_ret
           exact ⟨_, by first | rfl | (simp [errW_none, errW_some] <;> rfl) | (simp only [← hji65, ← hji70]; first | rfl | (simp [errW_none, errW_some] <;> rfl)) | (simp [*, errW_none, errW_some] <;> rfl), by (with_reducible repeat (first | apply Kd.R_alloc | apply Kd.R_drewN | apply Kd.R_drew)); exact HO267.out, by repeat (first | (with_reducible first | exact HB.out | apply below_alloc | apply pw_below_drewN | apply below_drew1) | exact HB.out)⟩
         ·rw [if_neg c72] at H
          exact absurd H (by simp)
        ·rw [if_neg c71] at H
         exact absurd H (by simp)
       ·rw [if_neg c69] at H
        exact absurd H (by simp)
      ·rw [if_neg c68] at H
       have c68b0 : decide ((rd x7_1 (ji65)) < a1) = false := decide_eq_false c68
       clear c68
       by_cases c82 : (rd x7_1 (ji65)) < a2
       ·rw [if_pos c82] at H
        have c82b0 : decide ((rd x7_1 (ji65)) < a2) = true := decide_eq_true c82
        clear c82
        by_cases c83 : x7_1.length < 17592186044416
        ·rw [if_pos c83] at H
         have LMc83 := Aside0.mk c83
         clear c83
         obtain ⟨y273, hy273⟩ : ∃ y_ : List Int, y_ = (x7_1 ++ [a2]) := ⟨_, rfl⟩
         replace H : (some y273) = some r := by first | (rw [hy273]; with_reducible exact H) | (have H2_ := (Option.bind_some _ _).symm.trans H; rw [hy273]; with_reducible exact H2_) | (have H2_ := (Option.bind_some _ _).symm.trans H; with_reducible exact H2_) | with_reducible exact H | (rw [hy273]; exact H) | exact H
         have Ny273 := Aside0.mk hy273
         clear hy273
         obtain rfl := Option.some.inj H
         obtain ⟨Ao84, co84, eo84⟩ := Kd.R_slice HO_7.out
         subst eo84
         have p264 : 0 ≤ ((ji65) : Int) := of_decide_eq_true (by first | (with_reducible assumption) | assumption)
         have q264 : (ji65) < (x7_1.length : Int) := of_decide_eq_true (by first | (with_reducible assumption) | assumption)
         obtain ⟨ad264, e264, hx264_0⟩ := Kd.at_int (Kd.R_reads' HO_7.out).2.2 (ji65) p264 q264
         cases e264
         replace p264 := eq_true p264
         replace q264 := eq_true q264
         have p272 : 0 ≤ ((ji65) : Int) := of_decide_eq_true (by first | (with_reducible assumption) | assumption)
         have q272 : (ji65) < (x7_1.length : Int) := of_decide_eq_true (by first | (with_reducible assumption) | assumption)
         obtain ⟨ad272, e272, hx272_0⟩ := Kd.at_int (Kd.R_reads' HO_7.out).2.2 (ji65) p272 q272
         obtain rfl : ad264 = ad272 := (by injection e272)
         replace p272 := eq_true p272
         replace q272 := eq_true q272
         go_wp2_with (first | ((with_reducible refine gate_builtin (b := .append) (xs := #[.tmp 112, .tmp 114]) rfl ?_); (try (refine gate_guard (by rfl) ?_; dsimp only)); at_builtin; refine Kd.R_append (Kd.int .i64) (w0 := w) w.heap.size rfl (.tmp 112) (.tmp 114) 73 2 (.int .i64 0) 8 rfl Try.underlying73 info2 rfl (by decide) (by omega) (.slice (some ad264) x7_1.length co84) x7_1 a2 [.int .i64 a2] (fun _ => True) (fun _ => False) rfl rfl ?aP (fun _ hk => hk.elim) ?aF ?aO ?aB ?aS ?aL ?_; (case aP => exact rfl); (case aB => exact (by repeat (first | (with_reducible first | exact HB.out | apply below_alloc | apply pw_below_drewN | apply below_drew1) | exact HB.out))); (case aF => exact (fun _ _ => trivial)); (case aO => exact (by (with_reducible repeat (first | apply Kd.R_alloc | apply Kd.R_drewN | apply Kd.R_drew)); exact HO_7.out)); (case aS => exact (below_size (by repeat (first | (with_reducible first | exact HB.out | apply below_alloc | apply pw_below_drewN | apply below_drew1) | exact HB.out)))); (case aL => have := LMc83.out; omega); intro v274 w85 ho hb hg hat; rw [← Ny273.out] at ho; have n0_ := Aside0.mk (hb); have n1_ := Aside0.mk (ho); clear HB; clear HO_7; have HB := n0_; have HO275 := n1_; clear n0_ n1_; clear ho hb hg hat))
         repeat (go_quiet (first | ((with_reducible refine gate_builtin (b := .append) (xs := #[.tmp 112, .tmp 114]) rfl ?_); (try (refine gate_guard (by rfl) ?_; dsimp only)); at_builtin; refine Kd.R_append (Kd.int .i64) (w0 := w) w.heap.size rfl (.tmp 112) (.tmp 114) 73 2 (.int .i64 0) 8 rfl Try.underlying73 info2 rfl (by decide) (by omega) (.slice (some ad264) x7_1.length co84) x7_1 a2 [.int .i64 a2] (fun _ => True) (fun _ => False) rfl rfl ?aP (fun _ hk => hk.elim) ?aF ?aO ?aB ?aS ?aL ?_; (case aP => exact rfl); (case aB => exact (by repeat (first | (with_reducible first | exact HB.out | apply below_alloc | apply pw_below_drewN | apply below_drew1) | exact HB.out))); (case aF => exact (fun _ _ => trivial)); (case aO => exact (by (with_reducible repeat (first | apply Kd.R_alloc | apply Kd.R_drewN | apply Kd.R_drew)); exact HO_7.out)); (case aS => exact (below_size (by repeat (first | (with_reducible first | exact HB.out | apply below_alloc | apply pw_below_drewN | apply below_drew1) | exact HB.out)))); (case aL => have := LMc83.out; omega); intro v274 w85 ho hb hg hat; rw [← Ny273.out] at ho; have n0_ := Aside0.mk (hb); have n1_ := Aside0.mk (ho); clear HB; clear HO_7; have HB := n0_; have HO275 := n1_; clear n0_ n1_; clear ho hb hg hat)); try go_wp2_with (first | ((with_reducible refine gate_builtin (b := .append) (xs := #[.tmp 112, .tmp 114]) rfl ?_); (try (refine gate_guard (by rfl) ?_; dsimp only)); at_builtin; refine Kd.R_append (Kd.int .i64) (w0 := w) w.heap.size rfl (.tmp 112) (.tmp 114) 73 2 (.int .i64 0) 8 rfl Try.underlying73 info2 rfl (by decide) (by omega) (.slice (some ad264) x7_1.length co84) x7_1 a2 [.int .i64 a2] (fun _ => True) (fun _ => False) rfl rfl ?aP (fun _ hk => hk.elim) ?aF ?aO ?aB ?aS ?aL ?_; (case aP => exact rfl); (case aB => exact (by repeat (first | (with_reducible first | exact HB.out | apply below_alloc | apply pw_below_drewN | apply below_drew1) | exact HB.out))); (case aF => exact (fun _ _ => trivial)); (case aO => exact (by (with_reducible repeat (first | apply Kd.R_alloc | apply Kd.R_drewN | apply Kd.R_drew)); exact HO_7.out)); (case aS => exact (below_size (by repeat (first | (with_reducible first | exact HB.out | apply below_alloc | apply pw_below_drewN | apply below_drew1) | exact HB.out)))); (case aL => have := LMc83.out; omega); intro v274 w85 ho hb hg hat; rw [← Ny273.out] at ho; have n0_ := Aside0.mk (hb); have n1_ := Aside0.mk (ho); clear HB; clear HO_7; have HB := n0_; have HO275 := n1_; clear n0_ n1_; clear ho hb hg hat)))
         go_ret
         exact ⟨_, by first | rfl | (simp [errW_none, errW_some] <;> rfl) | (simp only [← hji65]; first | rfl | (simp [errW_none, errW_some] <;> rfl)) | (simp [*, errW_none, errW_some] <;> rfl), by (with_reducible repeat (first | apply Kd.R_alloc | apply Kd.R_drewN | apply Kd.R_drew)); exact HO275.out, by repeat (first | (with_reducible first | exact HB.out | apply below_alloc | apply pw_below_drewN | apply below_drew1) | exact HB.out)⟩
        ·rw [if_neg c83] at H
         exact absurd H (by simp)
       ·rw [if_neg c82] at H
        have c82b0 : decide ((rd x7_1 (ji65)) < a2) = false := decide_eq_false c82
        clear c82
        obtain rfl := Option.some.inj H
        obtain ⟨Ao86, co86, eo86⟩ := Kd.R_slice HO_7.out
        subst eo86
        have p264 : 0 ≤ ((ji65) : Int) := of_decide_eq_true (by first | (with_reducible assumption) | assumption)
        have q264 : (ji65) < (x7_1.length : Int) := of_decide_eq_true (by first | (with_reducible assumption) | assumption)
        obtain ⟨ad264, e264, hx264_0⟩ := Kd.at_int (Kd.R_reads' HO_7.out).2.2 (ji65) p264 q264
        cases e264
        replace p264 := eq_true p264
        replace q264 := eq_true q264
        have p272 : 0 ≤ ((ji65) : Int) := of_decide_eq_true (by first | (with_reducible assumption) | assumption)
        have q272 : (ji65) < (x7_1.length : Int) := of_decide_eq_true (by first | (with_reducible assumption) | assumption)
        obtain ⟨ad272, e272, hx272_0⟩ := Kd.at_int (Kd.R_reads' HO_7.out).2.2 (ji65) p272 q272
        obtain rfl : ad264 = ad272 := (by injection e272)
        replace p272 := eq_true p272
        replace q272 := eq_true q272
        go_wp2
        repeat (go_quiet (fail); try go_wp2)
        go_ret
        exact ⟨_, by first | rfl | (simp [errW_none, errW_some] <;> rfl) | (simp only [← hji65]; first | rfl | (simp [errW_none, errW_some] <;> rfl)) | (simp [*, errW_none, errW_some] <;> rfl), by (with_reducible repeat (first | apply Kd.R_alloc | apply Kd.R_drewN | apply Kd.R_drew)); exact HO_7.out, by repeat (first | (with_reducible first | exact HB.out | apply below_alloc | apply pw_below_drewN | apply below_drew1) | exact HB.out)⟩
     ·rw [if_neg c67] at H
      exact absurd H (by simp)
    ·rw [if_neg c66] at H
     exact absurd H (by simp)

end Go.Proofs.Ytimllhflecippaa.F
end

section
namespace Go.Proofs.Ytimllhflecippaa.F
open Go.RowKit Go.Proofs.YtimllhflecippaaW.PrintWords Go.Proofs.YtimllhflecippaaW.PrintLast Go.Proofs.YtimllhflecippaaW.PrintMore
attribute [local go_sem] max2_int min2_int max_two min_two
set_option linter.unusedVariables false
set_option linter.unusedSimpArgs false

end Go.Proofs.Ytimllhflecippaa.F
end

section
namespace Go.Proofs.Ytimllhflecippaa.F
open Go.RowKit Go.Proofs.YtimllhflecippaaW.PrintWords Go.Proofs.YtimllhflecippaaW.PrintLast Go.Proofs.YtimllhflecippaaW.PrintMore
attribute [local go_sem] max2_int min2_int max_two min_two
set_option linter.unusedVariables false
set_option linter.unusedSimpArgs false

def bailiwickref03_Most.l0 : Nat → List (S45) → Int → Int → Int → Int → Option (Int)
 | 0, _, _, _, _, _ => none
 | k + 1, x0, x1, x2, x7, x8 => if x8 < (x0.length : Int) then (if 0 ≤ x8 then (if ((rd_T45 x0 x8).f0) > x1 then (if ((rd_T45 x0 x8).f0) < x2 then (if ((rd_T45 x0 x8).f1) > x7 then (bailiwickref03_Most.l0 k x0 x1 x2 ((rd_T45 x0 x8).f1) (wrap64 (x8 + 1))) else (bailiwickref03_Most.l0 k x0 x1 x2 x7 (wrap64 (x8 + 1)))) else (bailiwickref03_Most.l0 k x0 x1 x2 x7 (wrap64 (x8 + 1)))) else (bailiwickref03_Most.l0 k x0 x1 x2 x7 (wrap64 (x8 + 1)))) else (none)) else (some x7)
def bailiwickref03_Most.f (k : Nat) (l0 : List (S45)) (a1 : Int) (a2 : Int) : Option (Int) := (bailiwickref03_at.f k l0 a1).bind fun t322 => (bailiwickref03_Most.l0 k l0 a1 a2 t322 0)
set_option maxHeartbeats 8000000 in
set_option maxRecDepth 100000 in
theorem bailiwickref03_Most.calls (k : Nat) (A0 : Option Addr) (c0 : Nat) (l0 : List (S45)) (a1 : Int) (a2 : Int) (r : Int) (w : World) (hr0 : Kd.C k45 w A0 l0.length l0) (hc0 : l0.length ≤ c0) (h : bailiwickref03_Most.f k l0 a1 a2 = some r) :
  Calls Try.prog 56 #[.slice A0 l0.length c0, .int .i64 a1, .int .i64 a2] w fun e w' => e = .returned (.int .i64 r) ∧ Drawn0 w w' := by
 have HR0 := Aside0.mk hr0
 have HC0 := Aside0.mk hc0
 clear hr0 hc0
 have H : ((bailiwickref03_at.f k l0 a1).bind fun t322 => (bailiwickref03_Most.l0 k l0 a1 a2 t322 0)) = some r := h
 clear h
 replace H := Option.bind_eq_some_iff.mp H
 obtain ⟨t322, A40, H⟩ := H
 replace H : (bailiwickref03_Most.l0 k l0 a1 a2 t322 0) = some r := H
 have A4 := Aside0.mk A40
 clear A40
 have H' := Aside0.mk H
 clear H
 go_enter Try.func56, Try.ntmps56
 go_wp2_with (first | ((with_reducible refine gate_callee (f := 57) rfl ?_); refine goesL_ (some 11) rfl rfl Try.func57 (by kernel_rfl) rfl #[.slice A0 l0.length c0, .int .i64 a1] rfl (by (try simp only [List.map_toArray, List.map_cons, List.map_nil]); first | done | rfl | (simp only [List.length_drop, List.length_take]; rfl)) ?_; (with_reducible refine (bailiwickref03_at.calls k _ _ l0 a1 t322 _ ?side1 ?side2 A4.out).mono ?_); (case side1 => repeat (first | exact HR0.out | (with_reducible refine Kd.C_alloc ?_ _) | (with_reducible refine Kd.C_drewN ?_ _) | (with_reducible refine Kd.C_drew ?_))); (case side2 => exact HC0.out); rintro e w' ⟨rfl, ⟨nd, rfl⟩⟩; refine ⟨_, rfl, ?_⟩))
 go_loopg [7, 8] k (fun kq v7 v8 w' => ∃ (x7_1 : Int) (x8_1 : Int), v7 = .int .i64 x7_1 ∧ v8 = .int .i64 x8_1 ∧ Aside0 (bailiwickref03_Most.l0 kq l0 a1 a2 x7_1 x8_1 = some r) ∧ Aside0 (kq ≤ k) ∧ Drawn0 w w')
 case atStart => exact ⟨(t322), (0), (by first | rfl | (simp; done) | (simp [*]; done)), (by first | rfl | (simp; done) | (simp [*]; done)), H', ⟨Nat.le_refl _⟩, by repeat (first | exact Drawn0.refl _ | apply Drawn0.step)⟩
 case round =>
  clear H'
  try clear p2
  obtain ⟨x7_1, x8_1, rfl, rfl, HA, HK1, ⟨m1, rfl⟩⟩ := hrel
  cases gk with
  | zero => exact absurd HA.out (by simp [bailiwickref03_Most.l0])
  | succ k1 =>
   have H := HA.out
   clear HA
   simp only [bailiwickref03_Most.l0] at H
   by_cases c5 : x8_1 < (l0.length : Int)
   ·rw [if_pos c5] at H
    have c5b0 : decide (x8_1 < (l0.length : Int)) = true := decide_eq_true c5
    clear c5
    by_cases c6 : 0 ≤ x8_1
    ·rw [if_pos c6] at H
     have c6b0 : decide (0 ≤ x8_1) = true := decide_eq_true c6
     clear c6
     by_cases c7 : ((rd_T45 l0 x8_1).f0) > a1
     ·rw [if_pos c7] at H
      have c7b0 : decide (a1 < ((rd_T45 l0 x8_1).f0)) = true := decide_eq_true c7
      clear c7
      by_cases c8 : ((rd_T45 l0 x8_1).f0) < a2
      ·rw [if_pos c8] at H
       have c8b0 : decide (((rd_T45 l0 x8_1).f0) < a2) = true := decide_eq_true c8
       clear c8
       by_cases c9 : ((rd_T45 l0 x8_1).f1) > x7_1
       ·rw [if_pos c9] at H
        have c9b0 : decide (x7_1 < ((rd_T45 l0 x8_1).f1)) = true := decide_eq_true c9
        clear c9
        have H' := Aside0.mk H
        clear H
        have p323 : 0 ≤ (x8_1 : Int) := of_decide_eq_true (by first | (with_reducible assumption) | assumption)
        have q323 : x8_1 < (l0.length : Int) := of_decide_eq_true (by first | (with_reducible assumption) | assumption)
        obtain ⟨ad323, e323, hx323_0, hx323_1⟩ := at_T45 HR0.out x8_1 p323 q323
        cases e323
        replace p323 := eq_true p323
        replace q323 := eq_true q323
        have p324 : 0 ≤ (x8_1 : Int) := of_decide_eq_true (by first | (with_reducible assumption) | assumption)
        have q324 : x8_1 < (l0.length : Int) := of_decide_eq_true (by first | (with_reducible assumption) | assumption)
        obtain ⟨ad324, e324, hx324_0, hx324_1⟩ := at_T45 HR0.out x8_1 p324 q324
        obtain rfl : ad323 = ad324 := (by injection e324)
        replace p324 := eq_true p324
        replace q324 := eq_true q324
        have p325 : 0 ≤ (x8_1 : Int) := of_decide_eq_true (by first | (with_reducible assumption) | assumption)
        have q325 : x8_1 < (l0.length : Int) := of_decide_eq_true (by first | (with_reducible assumption) | assumption)
        obtain ⟨ad325, e325, hx325_0, hx325_1⟩ := at_T45 HR0.out x8_1 p325 q325
        obtain rfl : ad323 = ad325 := (by injection e325)
        replace p325 := eq_true p325
        replace q325 := eq_true q325
        have p326 : 0 ≤ (x8_1 : Int) := of_decide_eq_true (by first | (with_reducible assumption) | assumption)
        have q326 : x8_1 < (l0.length : Int) := of_decide_eq_true (by first | (with_reducible assumption) | assumption)
        obtain ⟨ad326, e326, hx326_0, hx326_1⟩ := at_T45 HR0.out x8_1 p326 q326
        obtain rfl : ad323 = ad326 := (by injection e326)
        replace p326 := eq_true p326
        replace q326 := eq_true q326
        go_wp2
        go_roundg k1
        case measure => have := HK1.out; omega
        case rel => exact ⟨((rd_T45 l0 x8_1).f1), (wrap64 (x8_1 + 1)), (by first | rfl | (simp; done) | (simp [*]; done)), (by first | rfl | (simp; done) | (simp [*]; done)), H', ⟨by have := HK1.out; omega⟩, by repeat (first | exact Drawn0.refl _ | apply Drawn0.step)⟩
       ·rw [if_neg c9] at H
        have c9b0 : decide (x7_1 < ((rd_T45 l0 x8_1).f1)) = false := decide_eq_false c9
        clear c9
        have H' := Aside0.mk H
        clear H
        have p323 : 0 ≤ (x8_1 : Int) := of_decide_eq_true (by first | (with_reducible assumption) | assumption)
        have q323 : x8_1 < (l0.length : Int) := of_decide_eq_true (by first | (with_reducible assumption) | assumption)
        obtain ⟨ad323, e323, hx323_0, hx323_1⟩ := at_T45 HR0.out x8_1 p323 q323
        cases e323
        replace p323 := eq_true p323
        replace q323 := eq_true q323
        have p324 : 0 ≤ (x8_1 : Int) := of_decide_eq_true (by first | (with_reducible assumption) | assumption)
        have q324 : x8_1 < (l0.length : Int) := of_decide_eq_true (by first | (with_reducible assumption) | assumption)
        obtain ⟨ad324, e324, hx324_0, hx324_1⟩ := at_T45 HR0.out x8_1 p324 q324
        obtain rfl : ad323 = ad324 := (by injection e324)
        replace p324 := eq_true p324
        replace q324 := eq_true q324
        have p325 : 0 ≤ (x8_1 : Int) := of_decide_eq_true (by first | (with_reducible assumption) | assumption)
        have q325 : x8_1 < (l0.length : Int) := of_decide_eq_true (by first | (with_reducible assumption) | assumption)
        obtain ⟨ad325, e325, hx325_0, hx325_1⟩ := at_T45 HR0.out x8_1 p325 q325
        obtain rfl : ad323 = ad325 := (by injection e325)
        replace p325 := eq_true p325
        replace q325 := eq_true q325
        go_wp2
        go_roundg k1
        case measure => have := HK1.out; omega
        case rel => exact ⟨(x7_1), (wrap64 (x8_1 + 1)), (by first | rfl | (simp; done) | (simp [*]; done)), (by first | rfl | (simp; done) | (simp [*]; done)), H', ⟨by have := HK1.out; omega⟩, by repeat (first | exact Drawn0.refl _ | apply Drawn0.step)⟩
      ·rw [if_neg c8] at H
       have c8b0 : decide (((rd_T45 l0 x8_1).f0) < a2) = false := decide_eq_false c8
       clear c8
       have H' := Aside0.mk H
       clear H
       have p323 : 0 ≤ (x8_1 : Int) := of_decide_eq_true (by first | (with_reducible assumption) | assumption)
       have q323 : x8_1 < (l0.length : Int) := of_decide_eq_true (by first | (with_reducible assumption) | assumption)
       obtain ⟨ad323, e323, hx323_0, hx323_1⟩ := at_T45 HR0.out x8_1 p323 q323
       cases e323
       replace p323 := eq_true p323
       replace q323 := eq_true q323
       have p324 : 0 ≤ (x8_1 : Int) := of_decide_eq_true (by first | (with_reducible assumption) | assumption)
       have q324 : x8_1 < (l0.length : Int) := of_decide_eq_true (by first | (with_reducible assumption) | assumption)
       obtain ⟨ad324, e324, hx324_0, hx324_1⟩ := at_T45 HR0.out x8_1 p324 q324
       obtain rfl : ad323 = ad324 := (by injection e324)
       replace p324 := eq_true p324
       replace q324 := eq_true q324
       go_wp2
       go_roundg k1
       case measure => have := HK1.out; omega
       case rel => exact ⟨(x7_1), (wrap64 (x8_1 + 1)), (by first | rfl | (simp; done) | (simp [*]; done)), (by first | rfl | (simp; done) | (simp [*]; done)), H', ⟨by have := HK1.out; omega⟩, by repeat (first | exact Drawn0.refl _ | apply Drawn0.step)⟩
     ·rw [if_neg c7] at H
      have c7b0 : decide (a1 < ((rd_T45 l0 x8_1).f0)) = false := decide_eq_false c7
      clear c7
      have H' := Aside0.mk H
      clear H
      have p323 : 0 ≤ (x8_1 : Int) := of_decide_eq_true (by first | (with_reducible assumption) | assumption)
      have q323 : x8_1 < (l0.length : Int) := of_decide_eq_true (by first | (with_reducible assumption) | assumption)
      obtain ⟨ad323, e323, hx323_0, hx323_1⟩ := at_T45 HR0.out x8_1 p323 q323
      cases e323
      replace p323 := eq_true p323
      replace q323 := eq_true q323
      go_wp2
      go_roundg k1
      case measure => have := HK1.out; omega
      case rel => exact ⟨(x7_1), (wrap64 (x8_1 + 1)), (by first | rfl | (simp; done) | (simp [*]; done)), (by first | rfl | (simp; done) | (simp [*]; done)), H', ⟨by have := HK1.out; omega⟩, by repeat (first | exact Drawn0.refl _ | apply Drawn0.step)⟩
    ·rw [if_neg c6] at H
     exact absurd H (by simp)
   ·rw [if_neg c5] at H
    have c5b0 : decide (x8_1 < (l0.length : Int)) = false := decide_eq_false c5
    clear c5
    obtain rfl := Option.some.inj H
    go_wp2
    go_ret
    exact ⟨by first | rfl | (simp; done) | (simp [*]; done), by repeat (first | exact Drawn0.refl _ | apply Drawn0.step)⟩

end Go.Proofs.Ytimllhflecippaa.F
end

section
namespace Go.Proofs.Ytimllhflecippaa.F
open Go.RowKit Go.Proofs.YtimllhflecippaaW.PrintWords Go.Proofs.YtimllhflecippaaW.PrintLast Go.Proofs.YtimllhflecippaaW.PrintMore
attribute [local go_sem] max2_int min2_int max_two min_two
set_option linter.unusedVariables false
set_option linter.unusedSimpArgs false

def bailiwickref03_At.f (k : Nat) (l0 : List (S45)) (a1 : Int) : Option (Int) := (bailiwickref03_Right.f k l0).bind fun t333 => (if t333 = true then (if a1 < 0 then (some 0) else (if a1 > 4611686018427387904 then (some 0) else ((bailiwickref03_at.f k l0 a1).bind fun t334 => (some t334)))) else (some 0))
set_option maxHeartbeats 8000000 in
set_option maxRecDepth 100000 in
theorem bailiwickref03_At.calls (k : Nat) (A0 : Option Addr) (c0 : Nat) (l0 : List (S45)) (a1 : Int) (r : Int) (w : World) (hr0 : Kd.C k45 w A0 l0.length l0) (hc0 : l0.length ≤ c0) (h : bailiwickref03_At.f k l0 a1 = some r) :
  Calls Try.prog 32 #[.slice A0 l0.length c0, .int .i64 a1] w fun e w' => e = .returned (.int .i64 r) ∧ Drawn0 w w' := by
 have HR0 := Aside0.mk hr0
 have HC0 := Aside0.mk hc0
 clear hr0 hc0
 have H : ((bailiwickref03_Right.f k l0).bind fun t333 => (if t333 = true then (if a1 < 0 then (some 0) else (if a1 > 4611686018427387904 then (some 0) else ((bailiwickref03_at.f k l0 a1).bind fun t334 => (some t334)))) else (some 0))) = some r := h
 clear h
 replace H := Option.bind_eq_some_iff.mp H
 obtain ⟨t333, A30, H⟩ := H
 replace H : (if t333 = true then (if a1 < 0 then (some 0) else (if a1 > 4611686018427387904 then (some 0) else ((bailiwickref03_at.f k l0 a1).bind fun t334 => (some t334)))) else (some 0)) = some r := H
 have A3 := Aside0.mk A30
 clear A30
 by_cases c4 : t333 = true
 ·subst c4
  have H1 : (if a1 < 0 then (some 0) else (if a1 > 4611686018427387904 then (some 0) else ((bailiwickref03_at.f k l0 a1).bind fun t334 => (some t334)))) = some r := by rw [if_pos rfl] at H; exact H
  clear H
  have H := H1
  clear H1
  by_cases c5 : a1 < 0
  ·rw [if_pos c5] at H
   have c5b0 : decide (a1 < 0) = true := decide_eq_true c5
   clear c5
   obtain rfl := Option.some.inj H
   go_enter Try.func32, Try.ntmps32
   go_wp2_with (first | ((with_reducible refine gate_callee (f := 30) rfl ?_); refine goesL_ (some 6) rfl rfl Try.func30 (by kernel_rfl) rfl #[.slice A0 l0.length c0] rfl (by (try simp only [List.map_toArray, List.map_cons, List.map_nil]); first | done | rfl | (simp only [List.length_drop, List.length_take]; rfl)) ?_; (with_reducible refine (bailiwickref03_Right.calls k _ _ l0 true _ ?side1 ?side2 A3.out).mono ?_); (case side1 => repeat (first | exact HR0.out | (with_reducible refine Kd.C_alloc ?_ _) | (with_reducible refine Kd.C_drewN ?_ _) | (with_reducible refine Kd.C_drew ?_))); (case side2 => exact HC0.out); rintro e w' ⟨rfl, ⟨nd, rfl⟩⟩; refine ⟨_, rfl, ?_⟩))
   go_ret
   exact ⟨by first | rfl | (simp; done) | (simp [*]; done), by repeat (first | exact Drawn0.refl _ | apply Drawn0.step)⟩
  ·rw [if_neg c5] at H
   have c5b0 : decide (a1 < 0) = false := decide_eq_false c5
   clear c5
   by_cases c6 : a1 > 4611686018427387904
   ·rw [if_pos c6] at H
    have c6b0 : decide (4611686018427387904 < a1) = true := decide_eq_true c6
    clear c6
    obtain rfl := Option.some.inj H
    go_enter Try.func32, Try.ntmps32
    go_wp2_with (first | ((with_reducible refine gate_callee (f := 30) rfl ?_); refine goesL_ (some 6) rfl rfl Try.func30 (by kernel_rfl) rfl #[.slice A0 l0.length c0] rfl (by (try simp only [List.map_toArray, List.map_cons, List.map_nil]); first | done | rfl | (simp only [List.length_drop, List.length_take]; rfl)) ?_; (with_reducible refine (bailiwickref03_Right.calls k _ _ l0 true _ ?side1 ?side2 A3.out).mono ?_); (case side1 => repeat (first | exact HR0.out | (with_reducible refine Kd.C_alloc ?_ _) | (with_reducible refine Kd.C_drewN ?_ _) | (with_reducible refine Kd.C_drew ?_))); (case side2 => exact HC0.out); rintro e w' ⟨rfl, ⟨nd, rfl⟩⟩; refine ⟨_, rfl, ?_⟩))
    go_ret
    exact ⟨by first | rfl | (simp; done) | (simp [*]; done), by repeat (first | exact Drawn0.refl _ | apply Drawn0.step)⟩
   ·rw [if_neg c6] at H
    have c6b0 : decide (4611686018427387904 < a1) = false := decide_eq_false c6
    clear c6
    replace H := Option.bind_eq_some_iff.mp H
    obtain ⟨t334, A70, H⟩ := H
    replace H : (some t334) = some r := H
    have A7 := Aside0.mk A70
    clear A70
    obtain rfl := Option.some.inj H
    go_enter Try.func32, Try.ntmps32
    go_wp2_with (first | ((with_reducible refine gate_callee (f := 30) rfl ?_); refine goesL_ (some 6) rfl rfl Try.func30 (by kernel_rfl) rfl #[.slice A0 l0.length c0] rfl (by (try simp only [List.map_toArray, List.map_cons, List.map_nil]); first | done | rfl | (simp only [List.length_drop, List.length_take]; rfl)) ?_; (with_reducible refine (bailiwickref03_Right.calls k _ _ l0 true _ ?side1 ?side2 A3.out).mono ?_); (case side1 => repeat (first | exact HR0.out | (with_reducible refine Kd.C_alloc ?_ _) | (with_reducible refine Kd.C_drewN ?_ _) | (with_reducible refine Kd.C_drew ?_))); (case side2 => exact HC0.out); rintro e w' ⟨rfl, ⟨nd, rfl⟩⟩; refine ⟨_, rfl, ?_⟩) | ((with_reducible refine gate_callee (f := 57) rfl ?_); refine goesL_ (some 18) rfl rfl Try.func57 (by kernel_rfl) rfl #[.slice A0 l0.length c0, .int .i64 a1] rfl (by (try simp only [List.map_toArray, List.map_cons, List.map_nil]); first | done | rfl | (simp only [List.length_drop, List.length_take]; rfl)) ?_; (with_reducible refine (bailiwickref03_at.calls k _ _ l0 a1 t334 _ ?side1 ?side2 A7.out).mono ?_); (case side1 => repeat (first | exact HR0.out | (with_reducible refine Kd.C_alloc ?_ _) | (with_reducible refine Kd.C_drewN ?_ _) | (with_reducible refine Kd.C_drew ?_))); (case side2 => exact HC0.out); rintro e w' ⟨rfl, ⟨nd, rfl⟩⟩; refine ⟨_, rfl, ?_⟩))
    go_ret
    exact ⟨by first | rfl | (simp; done) | (simp [*]; done), by repeat (first | exact Drawn0.refl _ | apply Drawn0.step)⟩
 ·replace c4 := Bool.eq_false_iff.mpr c4
  subst c4
  have H1 : (some 0) = some r := by rw [if_neg (show ¬ (false = true) by decide)] at H; exact H
  clear H
  have H := H1
  clear H1
  obtain rfl := Option.some.inj H
  go_enter Try.func32, Try.ntmps32
  go_wp2_with (first | ((with_reducible refine gate_callee (f := 30) rfl ?_); refine goesL_ (some 6) rfl rfl Try.func30 (by kernel_rfl) rfl #[.slice A0 l0.length c0] rfl (by (try simp only [List.map_toArray, List.map_cons, List.map_nil]); first | done | rfl | (simp only [List.length_drop, List.length_take]; rfl)) ?_; (with_reducible refine (bailiwickref03_Right.calls k _ _ l0 false _ ?side1 ?side2 A3.out).mono ?_); (case side1 => repeat (first | exact HR0.out | (with_reducible refine Kd.C_alloc ?_ _) | (with_reducible refine Kd.C_drewN ?_ _) | (with_reducible refine Kd.C_drew ?_))); (case side2 => exact HC0.out); rintro e w' ⟨rfl, ⟨nd, rfl⟩⟩; refine ⟨_, rfl, ?_⟩))
  go_ret
  exact ⟨by first | rfl | (simp; done) | (simp [*]; done), by repeat (first | exact Drawn0.refl _ | apply Drawn0.step)⟩

-- NOT PRINTED: function 6 (bailiwicklaw03_StepRight)

end Go.Proofs.Ytimllhflecippaa.F
end

section
namespace Go.Proofs.Ytimllhflecippaa.F
open Go.RowKit Go.Proofs.YtimllhflecippaaW.PrintWords Go.Proofs.YtimllhflecippaaW.PrintLast Go.Proofs.YtimllhflecippaaW.PrintMore
attribute [local go_sem] max2_int min2_int max_two min_two
set_option linter.unusedVariables false
set_option linter.unusedSimpArgs false

def bailiwickref03_Least.l0 : Nat → List (S45) → Int → Int → Int → Int → Option (Int)
 | 0, _, _, _, _, _ => none
 | k + 1, x0, x1, x2, x7, x8 => if x8 < (x0.length : Int) then (if 0 ≤ x8 then (if ((rd_T45 x0 x8).f0) > x1 then (if ((rd_T45 x0 x8).f0) < x2 then (if ((rd_T45 x0 x8).f1) < x7 then (bailiwickref03_Least.l0 k x0 x1 x2 ((rd_T45 x0 x8).f1) (wrap64 (x8 + 1))) else (bailiwickref03_Least.l0 k x0 x1 x2 x7 (wrap64 (x8 + 1)))) else (bailiwickref03_Least.l0 k x0 x1 x2 x7 (wrap64 (x8 + 1)))) else (bailiwickref03_Least.l0 k x0 x1 x2 x7 (wrap64 (x8 + 1)))) else (none)) else (some x7)
def bailiwickref03_Least.f (k : Nat) (l0 : List (S45)) (a1 : Int) (a2 : Int) : Option (Int) := (bailiwickref03_at.f k l0 a1).bind fun t229 => (bailiwickref03_Least.l0 k l0 a1 a2 t229 0)
set_option maxHeartbeats 8000000 in
set_option maxRecDepth 100000 in
theorem bailiwickref03_Least.calls (k : Nat) (A0 : Option Addr) (c0 : Nat) (l0 : List (S45)) (a1 : Int) (a2 : Int) (r : Int) (w : World) (hr0 : Kd.C k45 w A0 l0.length l0) (hc0 : l0.length ≤ c0) (h : bailiwickref03_Least.f k l0 a1 a2 = some r) :
  Calls Try.prog 28 #[.slice A0 l0.length c0, .int .i64 a1, .int .i64 a2] w fun e w' => e = .returned (.int .i64 r) ∧ Drawn0 w w' := by
 have HR0 := Aside0.mk hr0
 have HC0 := Aside0.mk hc0
 clear hr0 hc0
 have H : ((bailiwickref03_at.f k l0 a1).bind fun t229 => (bailiwickref03_Least.l0 k l0 a1 a2 t229 0)) = some r := h
 clear h
 replace H := Option.bind_eq_some_iff.mp H
 obtain ⟨t229, A40, H⟩ := H
 replace H : (bailiwickref03_Least.l0 k l0 a1 a2 t229 0) = some r := H
 have A4 := Aside0.mk A40
 clear A40
 have H' := Aside0.mk H
 clear H
 go_enter Try.func28, Try.ntmps28
 go_wp2_with (first | ((with_reducible refine gate_callee (f := 57) rfl ?_); refine goesL_ (some 11) rfl rfl Try.func57 (by kernel_rfl) rfl #[.slice A0 l0.length c0, .int .i64 a1] rfl (by (try simp only [List.map_toArray, List.map_cons, List.map_nil]); first | done | rfl | (simp only [List.length_drop, List.length_take]; rfl)) ?_; (with_reducible refine (bailiwickref03_at.calls k _ _ l0 a1 t229 _ ?side1 ?side2 A4.out).mono ?_); (case side1 => repeat (first | exact HR0.out | (with_reducible refine Kd.C_alloc ?_ _) | (with_reducible refine Kd.C_drewN ?_ _) | (with_reducible refine Kd.C_drew ?_))); (case side2 => exact HC0.out); rintro e w' ⟨rfl, ⟨nd, rfl⟩⟩; refine ⟨_, rfl, ?_⟩))
 go_loopg [7, 8] k (fun kq v7 v8 w' => ∃ (x7_1 : Int) (x8_1 : Int), v7 = .int .i64 x7_1 ∧ v8 = .int .i64 x8_1 ∧ Aside0 (bailiwickref03_Least.l0 kq l0 a1 a2 x7_1 x8_1 = some r) ∧ Aside0 (kq ≤ k) ∧ Drawn0 w w')
 case atStart => exact ⟨(t229), (0), (by first | rfl | (simp; done) | (simp [*]; done)), (by first | rfl | (simp; done) | (simp [*]; done)), H', ⟨Nat.le_refl _⟩, by repeat (first | exact Drawn0.refl _ | apply Drawn0.step)⟩
 case round =>
  clear H'
  try clear c2
  try clear p2
  obtain ⟨x7_1, x8_1, rfl, rfl, HA, HK1, ⟨m1, rfl⟩⟩ := hrel
  cases gk with
  | zero => exact absurd HA.out (by simp [bailiwickref03_Least.l0])
  | succ k1 =>
   have H := HA.out
   clear HA
   simp only [bailiwickref03_Least.l0] at H
   by_cases c5 : x8_1 < (l0.length : Int)
   ·rw [if_pos c5] at H
    have c5b0 : decide (x8_1 < (l0.length : Int)) = true := decide_eq_true c5
    clear c5
    by_cases c6 : 0 ≤ x8_1
    ·rw [if_pos c6] at H
     have c6b0 : decide (0 ≤ x8_1) = true := decide_eq_true c6
     clear c6
     by_cases c7 : ((rd_T45 l0 x8_1).f0) > a1
     ·rw [if_pos c7] at H
      have c7b0 : decide (a1 < ((rd_T45 l0 x8_1).f0)) = true := decide_eq_true c7
      clear c7
      by_cases c8 : ((rd_T45 l0 x8_1).f0) < a2
      ·rw [if_pos c8] at H
       have c8b0 : decide (((rd_T45 l0 x8_1).f0) < a2) = true := decide_eq_true c8
       clear c8
       by_cases c9 : ((rd_T45 l0 x8_1).f1) < x7_1
       ·rw [if_pos c9] at H
        have c9b0 : decide (((rd_T45 l0 x8_1).f1) < x7_1) = true := decide_eq_true c9
        clear c9
        have H' := Aside0.mk H
        clear H
        have p230 : 0 ≤ (x8_1 : Int) := of_decide_eq_true (by first | (with_reducible assumption) | assumption)
        have q230 : x8_1 < (l0.length : Int) := of_decide_eq_true (by first | (with_reducible assumption) | assumption)
        obtain ⟨ad230, e230, hx230_0, hx230_1⟩ := at_T45 HR0.out x8_1 p230 q230
        cases e230
        replace p230 := eq_true p230
        replace q230 := eq_true q230
        have p231 : 0 ≤ (x8_1 : Int) := of_decide_eq_true (by first | (with_reducible assumption) | assumption)
        have q231 : x8_1 < (l0.length : Int) := of_decide_eq_true (by first | (with_reducible assumption) | assumption)
        obtain ⟨ad231, e231, hx231_0, hx231_1⟩ := at_T45 HR0.out x8_1 p231 q231
        obtain rfl : ad230 = ad231 := (by injection e231)
        replace p231 := eq_true p231
        replace q231 := eq_true q231
        have p232 : 0 ≤ (x8_1 : Int) := of_decide_eq_true (by first | (with_reducible assumption) | assumption)
        have q232 : x8_1 < (l0.length : Int) := of_decide_eq_true (by first | (with_reducible assumption) | assumption)
        obtain ⟨ad232, e232, hx232_0, hx232_1⟩ := at_T45 HR0.out x8_1 p232 q232
        obtain rfl : ad230 = ad232 := (by injection e232)
        replace p232 := eq_true p232
        replace q232 := eq_true q232
        have p233 : 0 ≤ (x8_1 : Int) := of_decide_eq_true (by first | (with_reducible assumption) | assumption)
        have q233 : x8_1 < (l0.length : Int) := of_decide_eq_true (by first | (with_reducible assumption) | assumption)
        obtain ⟨ad233, e233, hx233_0, hx233_1⟩ := at_T45 HR0.out x8_1 p233 q233
        obtain rfl : ad230 = ad233 := (by injection e233)
        replace p233 := eq_true p233
        replace q233 := eq_true q233
        go_wp2
        go_roundg k1
        case measure => have := HK1.out; omega
        case rel => exact ⟨((rd_T45 l0 x8_1).f1), (wrap64 (x8_1 + 1)), (by first | rfl | (simp; done) | (simp [*]; done)), (by first | rfl | (simp; done) | (simp [*]; done)), H', ⟨by have := HK1.out; omega⟩, by repeat (first | exact Drawn0.refl _ | apply Drawn0.step)⟩
       ·rw [if_neg c9] at H
        have c9b0 : decide (((rd_T45 l0 x8_1).f1) < x7_1) = false := decide_eq_false c9
        clear c9
        have H' := Aside0.mk H
        clear H
        have p230 : 0 ≤ (x8_1 : Int) := of_decide_eq_true (by first | (with_reducible assumption) | assumption)
        have q230 : x8_1 < (l0.length : Int) := of_decide_eq_true (by first | (with_reducible assumption) | assumption)
        obtain ⟨ad230, e230, hx230_0, hx230_1⟩ := at_T45 HR0.out x8_1 p230 q230
        cases e230
        replace p230 := eq_true p230
        replace q230 := eq_true q230
        have p231 : 0 ≤ (x8_1 : Int) := of_decide_eq_true (by first | (with_reducible assumption) | assumption)
        have q231 : x8_1 < (l0.length : Int) := of_decide_eq_true (by first | (with_reducible assumption) | assumption)
        obtain ⟨ad231, e231, hx231_0, hx231_1⟩ := at_T45 HR0.out x8_1 p231 q231
        obtain rfl : ad230 = ad231 := (by injection e231)
        replace p231 := eq_true p231
        replace q231 := eq_true q231
        have p232 : 0 ≤ (x8_1 : Int) := of_decide_eq_true (by first | (with_reducible assumption) | assumption)
        have q232 : x8_1 < (l0.length : Int) := of_decide_eq_true (by first | (with_reducible assumption) | assumption)
        obtain ⟨ad232, e232, hx232_0, hx232_1⟩ := at_T45 HR0.out x8_1 p232 q232
        obtain rfl : ad230 = ad232 := (by injection e232)
        replace p232 := eq_true p232
        replace q232 := eq_true q232
        go_wp2
        go_roundg k1
        case measure => have := HK1.out; omega
        case rel => exact ⟨(x7_1), (wrap64 (x8_1 + 1)), (by first | rfl | (simp; done) | (simp [*]; done)), (by first | rfl | (simp; done) | (simp [*]; done)), H', ⟨by have := HK1.out; omega⟩, by repeat (first | exact Drawn0.refl _ | apply Drawn0.step)⟩
      ·rw [if_neg c8] at H
       have c8b0 : decide (((rd_T45 l0 x8_1).f0) < a2) = false := decide_eq_false c8
       clear c8
       have H' := Aside0.mk H
       clear H
       have p230 : 0 ≤ (x8_1 : Int) := of_decide_eq_true (by first | (with_reducible assumption) | assumption)
       have q230 : x8_1 < (l0.length : Int) := of_decide_eq_true (by first | (with_reducible assumption) | assumption)
       obtain ⟨ad230, e230, hx230_0, hx230_1⟩ := at_T45 HR0.out x8_1 p230 q230
       cases e230
       replace p230 := eq_true p230
       replace q230 := eq_true q230
       have p231 : 0 ≤ (x8_1 : Int) := of_decide_eq_true (by first | (with_reducible assumption) | assumption)
       have q231 : x8_1 < (l0.length : Int) := of_decide_eq_true (by first | (with_reducible assumption) | assumption)
       obtain ⟨ad231, e231, hx231_0, hx231_1⟩ := at_T45 HR0.out x8_1 p231 q231
       obtain rfl : ad230 = ad231 := (by injection e231)
       replace p231 := eq_true p231
       replace q231 := eq_true q231
       go_wp2
       go_roundg k1
       case measure => have := HK1.out; omega
       case rel => exact ⟨(x7_1), (wrap64 (x8_1 + 1)), (by first | rfl | (simp; done) | (simp [*]; done)), (by first | rfl | (simp; done) | (simp [*]; done)), H', ⟨by have := HK1.out; omega⟩, by repeat (first | exact Drawn0.refl _ | apply Drawn0.step)⟩
     ·rw [if_neg c7] at H
      have c7b0 : decide (a1 < ((rd_T45 l0 x8_1).f0)) = false := decide_eq_false c7
      clear c7
      have H' := Aside0.mk H
      clear H
      have p230 : 0 ≤ (x8_1 : Int) := of_decide_eq_true (by first | (with_reducible assumption) | assumption)
      have q230 : x8_1 < (l0.length : Int) := of_decide_eq_true (by first | (with_reducible assumption) | assumption)
      obtain ⟨ad230, e230, hx230_0, hx230_1⟩ := at_T45 HR0.out x8_1 p230 q230
      cases e230
      replace p230 := eq_true p230
      replace q230 := eq_true q230
      go_wp2
      go_roundg k1
      case measure => have := HK1.out; omega
      case rel => exact ⟨(x7_1), (wrap64 (x8_1 + 1)), (by first | rfl | (simp; done) | (simp [*]; done)), (by first | rfl | (simp; done) | (simp [*]; done)), H', ⟨by have := HK1.out; omega⟩, by repeat (first | exact Drawn0.refl _ | apply Drawn0.step)⟩
    ·rw [if_neg c6] at H
     exact absurd H (by simp)
   ·rw [if_neg c5] at H
    have c5b0 : decide (x8_1 < (l0.length : Int)) = false := decide_eq_false c5
    clear c5
    obtain rfl := Option.some.inj H
    go_wp2
    go_ret
    exact ⟨by first | rfl | (simp; done) | (simp [*]; done), by repeat (first | exact Drawn0.refl _ | apply Drawn0.step)⟩

end Go.Proofs.Ytimllhflecippaa.F
end

section
namespace Go.Proofs.Ytimllhflecippaa.F
open Go.RowKit Go.Proofs.YtimllhflecippaaW.PrintWords Go.Proofs.YtimllhflecippaaW.PrintLast Go.Proofs.YtimllhflecippaaW.PrintMore
attribute [local go_sem] max2_int min2_int max_two min_two
set_option linter.unusedVariables false
set_option linter.unusedSimpArgs false

theorem eqA45 (d : Nat) (w : World) (x0 y0 : Int) (x1 y1 : Int) :
  (Op.equalIn (d + 2) 45 (.agg #[.int .i64 x0, .int .i64 x1]) (.agg #[.int .i64 y0, .int .i64 y1])).run Try.prog w = .ok (x0 == y0 && (x1 == y1)) w := by
 refine eqA_of Try.underlying45 (by kernel_rfl) ?_
 refine eqf_cons (by rfl) (by go_simp; rfl) (by go_simp; rfl) (by go_simp) ?_
 exact eqf_last (by rfl) (by go_simp; rfl) (by go_simp; rfl) (by go_simp)
end Go.Proofs.Ytimllhflecippaa.F
end

section
namespace Go.Proofs.Ytimllhflecippaa.F
open Go.RowKit Go.Proofs.YtimllhflecippaaW.PrintWords Go.Proofs.YtimllhflecippaaW.PrintLast Go.Proofs.YtimllhflecippaaW.PrintMore
attribute [local go_sem] max2_int min2_int max_two min_two
set_option linter.unusedVariables false
set_option linter.unusedSimpArgs false

mutual
def step_First.j0 : Nat → List (S45) → Int → Int → Int → Bool → Option (Int × Bool)
 | 0, _, _, _, _, _ => none
 | k + 1, x0, x1, x2, x3, x32 => if x32 = true then (some (0, false)) else ((step_place.f k x0 x1).bind fun t121 => (step_First.l0 k x0 x2 x3 x1 t121))
def step_First.l0 : Nat → List (S45) → Int → Int → Int → Int → Option (Int × Bool)
 | 0, _, _, _, _, _ => none
 | k + 1, x0, x2, x3, x10, x11 => if x11 < (x0.length : Int) then (if 0 ≤ x11 then ((when_Plus.f x10 x2).bind fun t123 => (step_First.j2 k x0 x2 x3 x10 x11 (decide (((rd_T45 x0 x11).f0) < t123)))) else (none)) else (step_First.j2 k x0 x2 x3 x10 x11 false)
def step_First.j2 : Nat → List (S45) → Int → Int → Int → Int → Bool → Option (Int × Bool)
 | 0, _, _, _, _, _, _ => none
 | k + 1, x0, x2, x3, x10, x11, x51 => if x51 = true then (if 0 ≤ x11 then (if x11 < (x0.length : Int) then (if ((rd_T45 x0 x11).f1) < x3 then (if (wrap64 (x11 + 1)) = (x0.length : Int) then (some (0, false)) else (if 0 ≤ (wrap64 (x11 + 1)) then (if (wrap64 (x11 + 1)) < (x0.length : Int) then (step_First.l0 k x0 x2 x3 ((rd_T45 x0 (wrap64 (x11 + 1))).f0) (wrap64 (x11 + 1))) else (none)) else (none))) else (step_First.l0 k x0 x2 x3 x10 (wrap64 (x11 + 1)))) else (none)) else (none)) else (if x10 = 4611686018427387904 then (some (0, false)) else (some (x10, true)))
end
def step_First.f (k : Nat) (l0 : List (S45)) (a1 : Int) (a2 : Int) (a3 : Int) : Option (Int × Bool) := (step_Right.f k l0).bind fun t118 => (if t118 = true then ((when_Right.f a1).bind fun t119 => (if t119 = true then (if a1 = 4611686018427387904 then (step_First.j0 k l0 a1 a2 a3 true) else (if a2 < 1 then (step_First.j0 k l0 a1 a2 a3 true) else ((step_amount.f a3).bind fun t120 => (step_First.j0 k l0 a1 a2 a3 (!t120))))) else (step_First.j0 k l0 a1 a2 a3 true))) else (step_First.j0 k l0 a1 a2 a3 true))
theorem step_First.mono_l : ∀ k, (∀ y0 y1 y2 y3 y4, LeO (step_First.j0 k y0 y1 y2 y3 y4) (step_First.j0 (k + 1) y0 y1 y2 y3 y4)) ∧ (∀ y0 y1 y2 y3 y4, LeO (step_First.l0 k y0 y1 y2 y3 y4) (step_First.l0 (k + 1) y0 y1 y2 y3 y4)) ∧ (∀ y0 y1 y2 y3 y4 y5, LeO (step_First.j2 k y0 y1 y2 y3 y4 y5) (step_First.j2 (k + 1) y0 y1 y2 y3 y4 y5))
 | 0 => ⟨fun _ _ _ _ _ r h => by simp [step_First.j0] at h, fun _ _ _ _ _ r h => by simp [step_First.l0] at h, fun _ _ _ _ _ _ r h => by simp [step_First.j2] at h⟩
 | k + 1 => by
  obtain ⟨ih0, ih1, ih2⟩ := step_First.mono_l k
  refine ⟨?_, ?_, ?_⟩
  ·intro y0 y1 y2 y3 y4
   unfold step_First.j0
   repeat' first
   | (with_reducible exact ih0 _ _ _ _ _)
   | (with_reducible exact ih1 _ _ _ _ _)
   | (with_reducible exact ih2 _ _ _ _ _ _)
   | (with_reducible exact step_Right.mono _ _)
   | (with_reducible exact step_place.mono _ _ _)
   | (with_reducible exact LeO.refl _)
   | (with_reducible exact LeO.none _)
   | (with_reducible refine LeO.ite ?_ ?_)
   | (with_reducible refine LeO.bind ?_ (fun _ => ?_))
   | exact ih0 _ _ _ _ _
   | exact ih1 _ _ _ _ _
   | exact ih2 _ _ _ _ _ _
   | exact step_Right.mono _ _
   | exact step_place.mono _ _ _
   | exact LeO.none _
   | refine LeO.ite ?_ ?_
   | refine LeO.bind ?_ (fun _ => ?_)
  ·intro y0 y1 y2 y3 y4
   unfold step_First.l0
   repeat' first
   | (with_reducible exact ih0 _ _ _ _ _)
   | (with_reducible exact ih1 _ _ _ _ _)
   | (with_reducible exact ih2 _ _ _ _ _ _)
   | (with_reducible exact step_Right.mono _ _)
   | (with_reducible exact step_place.mono _ _ _)
   | (with_reducible exact LeO.refl _)
   | (with_reducible exact LeO.none _)
   | (with_reducible refine LeO.ite ?_ ?_)
   | (with_reducible refine LeO.bind ?_ (fun _ => ?_))
   | exact ih0 _ _ _ _ _
   | exact ih1 _ _ _ _ _
   | exact ih2 _ _ _ _ _ _
   | exact step_Right.mono _ _
   | exact step_place.mono _ _ _
   | exact LeO.none _
   | refine LeO.ite ?_ ?_
   | refine LeO.bind ?_ (fun _ => ?_)
  ·intro y0 y1 y2 y3 y4 y5
   unfold step_First.j2
   repeat' first
   | (with_reducible exact ih0 _ _ _ _ _)
   | (with_reducible exact ih1 _ _ _ _ _)
   | (with_reducible exact ih2 _ _ _ _ _ _)
   | (with_reducible exact step_Right.mono _ _)
   | (with_reducible exact step_place.mono _ _ _)
   | (with_reducible exact LeO.refl _)
   | (with_reducible exact LeO.none _)
   | (with_reducible refine LeO.ite ?_ ?_)
   | (with_reducible refine LeO.bind ?_ (fun _ => ?_))
   | exact ih0 _ _ _ _ _
   | exact ih1 _ _ _ _ _
   | exact ih2 _ _ _ _ _ _
   | exact step_Right.mono _ _
   | exact step_place.mono _ _ _
   | exact LeO.none _
   | refine LeO.ite ?_ ?_
   | refine LeO.bind ?_ (fun _ => ?_)
theorem step_First.mono : ∀ a0 a1 a2 a3 k, LeO (step_First.f k a0 a1 a2 a3) (step_First.f (k + 1) a0 a1 a2 a3) := by
 intro a0 a1 a2 a3 k
 obtain ⟨ih0, ih1, ih2⟩ := step_First.mono_l k
 unfold step_First.f
 repeat' first
   | (with_reducible exact ih0 _ _ _ _ _)
   | (with_reducible exact ih1 _ _ _ _ _)
   | (with_reducible exact ih2 _ _ _ _ _ _)
   | (with_reducible exact step_Right.mono _ _)
   | (with_reducible exact step_place.mono _ _ _)
   | (with_reducible exact LeO.refl _)
   | (with_reducible exact LeO.none _)
   | (with_reducible refine LeO.ite ?_ ?_)
   | (with_reducible refine LeO.bind ?_ (fun _ => ?_))
   | exact ih0 _ _ _ _ _
   | exact ih1 _ _ _ _ _
   | exact ih2 _ _ _ _ _ _
   | exact step_Right.mono _ _
   | exact step_place.mono _ _ _
   | exact LeO.none _
   | refine LeO.ite ?_ ?_
   | refine LeO.bind ?_ (fun _ => ?_)
def step_First.T5 : Bool × List (List Nat × List Nat) := (true, [([], []), ([], []), ([1], [1]), ([0, 2], [0, 2]), ([3], [3]), ([4], [4]), ([4], [4]), ([5, 6, 4], [4, 5, 6]), ([7, 4], [4, 7]), ([8, 4], [4, 8]), ([4], [4]), ([4], [4]), ([10, 11, 4, 4], [4, 10, 11]), ([9, 12, 4], [4, 9, 12]), ([4, 13], [4, 13])])
def step_First.B5 : List Nat := [0, 0, 2, 7, 15, 31, 31, 127, 255, 511, 31, 31, 3103, 8191, 16383]
theorem step_First.tab5 : rtab .any (opsOf Try.f15 5) = step_First.T5 := by kernel_rfl
theorem step_First.bits5 : waitsOk step_First.T5.2 step_First.B5 = true := by kernel_rfl
set_option maxHeartbeats 8000000 in
set_option maxRecDepth 100000 in
theorem step_First.calls (k : Nat) (A0 : Option Addr) (c0 : Nat) (l0 : List (S45)) (a1 : Int) (a2 : Int) (a3 : Int) (r1 : Int) (r2 : Bool) (w : World) (hr0 : Kd.C k45 w A0 l0.length l0) (hc0 : l0.length ≤ c0) (h : step_First.f k l0 a1 a2 a3 = some (r1, r2)) :
  Calls Try.prog 15 #[.slice A0 l0.length c0, .int .i64 a1, .int .i64 a2, .int .i64 a3] w fun e w' => e = .returned (.tuple #[.int .i64 r1, .bool r2]) ∧ Below w.heap.size w w' := by
 have HR0 := Aside0.mk hr0
 have HC0 := Aside0.mk hc0
 clear hr0 hc0
 have HB := Aside0.mk (Below.refl w.heap.size w)
 have H : ((step_Right.f k l0).bind fun t118 => (if t118 = true then ((when_Right.f a1).bind fun t119 => (if t119 = true then (if a1 = 4611686018427387904 then (step_First.j0 k l0 a1 a2 a3 true) else (if a2 < 1 then (step_First.j0 k l0 a1 a2 a3 true) else ((step_amount.f a3).bind fun t120 => (step_First.j0 k l0 a1 a2 a3 (!t120))))) else (step_First.j0 k l0 a1 a2 a3 true))) else (step_First.j0 k l0 a1 a2 a3 true))) = some (r1, r2) := h
 clear h
 have HC5 := Aside0.mk H
 clear H
 go_enter Try.func15, Try.ntmps15
 go_upto_region 1 with (fail)
 go_cut [32] (fun v32 wc => ∃ (kq : Nat) (x32_4 : Bool), v32 = .bool x32_4 ∧ Aside0 (step_First.j0 kq l0 a1 a2 a3 x32_4 = some (r1, r2)) ∧ Aside0 (kq ≤ k) ∧ Aside0 (Below w.heap.size w wc))
 case first =>
  have H := HC5.out
  clear HC5
  replace H := Option.bind_eq_some_iff.mp H
  obtain ⟨t118, A60, H⟩ := H
  replace H : (if t118 = true then ((when_Right.f a1).bind fun t119 => (if t119 = true then (if a1 = 4611686018427387904 then (step_First.j0 k l0 a1 a2 a3 true) else (if a2 < 1 then (step_First.j0 k l0 a1 a2 a3 true) else ((step_amount.f a3).bind fun t120 => (step_First.j0 k l0 a1 a2 a3 (!t120))))) else (step_First.j0 k l0 a1 a2 a3 true))) else (step_First.j0 k l0 a1 a2 a3 true)) = some (r1, r2) := H
  have A6 := Aside0.mk A60
  clear A60
  by_cases c7 : t118 = true
  ·subst c7
   have H1 : ((when_Right.f a1).bind fun t119 => (if t119 = true then (if a1 = 4611686018427387904 then (step_First.j0 k l0 a1 a2 a3 true) else (if a2 < 1 then (step_First.j0 k l0 a1 a2 a3 true) else ((step_amount.f a3).bind fun t120 => (step_First.j0 k l0 a1 a2 a3 (!t120))))) else (step_First.j0 k l0 a1 a2 a3 true))) = some (r1, r2) := by rw [if_pos rfl] at H; exact H
   clear H
   have H := H1
   clear H1
   replace H := Option.bind_eq_some_iff.mp H
   obtain ⟨t119, A80, H⟩ := H
   replace H : (if t119 = true then (if a1 = 4611686018427387904 then (step_First.j0 k l0 a1 a2 a3 true) else (if a2 < 1 then (step_First.j0 k l0 a1 a2 a3 true) else ((step_amount.f a3).bind fun t120 => (step_First.j0 k l0 a1 a2 a3 (!t120))))) else (step_First.j0 k l0 a1 a2 a3 true)) = some (r1, r2) := H
   have A8 := Aside0.mk A80
   clear A80
   by_cases c9 : t119 = true
   ·subst c9
    have H1 : (if a1 = 4611686018427387904 then (step_First.j0 k l0 a1 a2 a3 true) else (if a2 < 1 then (step_First.j0 k l0 a1 a2 a3 true) else ((step_amount.f a3).bind fun t120 => (step_First.j0 k l0 a1 a2 a3 (!t120))))) = some (r1, r2) := by rw [if_pos rfl] at H; exact H
    clear H
    have H := H1
    clear H1
    by_cases c10 : a1 = 4611686018427387904
    ·rw [if_pos c10] at H
     have c10b0 : (a1 == 4611686018427387904) = true := beq_iff_eq.mpr c10
     have c10b1 : (a1 != 4611686018427387904) = false := bne_eq_false_iff_eq.mpr c10
     clear c10
     (first | rw [c10b0] | (simp only [i64_w, i32_w]; rw [c10b0]) | skip)
     have H' := Aside0.mk H
     clear H
     go_wp2_with (first | ((with_reducible refine gate_callee (f := 17) rfl ?_); refine goesL_ (some 13) rfl rfl Try.func17 (by kernel_rfl) rfl #[.slice A0 l0.length c0] rfl (by (try simp only [List.map_toArray, List.map_cons, List.map_nil]); first | done | rfl | (simp only [List.length_drop, List.length_take]; rfl)) ?_; (with_reducible refine (step_Right.calls k _ _ l0 true _ ?side1 ?side2 A6.out).mono ?_); (case side1 => repeat (first | exact (Kd.C_below HR0.out HB.out) | (with_reducible refine Kd.C_alloc ?_ _) | (with_reducible refine Kd.C_drewN ?_ _) | (with_reducible refine Kd.C_drew ?_))); (case side2 => exact HC0.out); rintro e w11 ⟨rfl, hb⟩; refine ⟨_, rfl, ?_⟩; have n0_ := Aside0.mk (below_step (by repeat (first | (with_reducible first | exact HB.out | apply below_alloc | apply pw_below_drewN | apply below_drew1) | exact HB.out)) hb); clear HB; have HB := n0_; clear n0_; (try clear hb); (try clear hb2); (try clear hk); (try clear hi)) | (go_at_call 18; (with_reducible refine (when_Right.calls a1 true _ A8.out).mono ?_); rintro e w' ⟨rfl, ⟨nd, rfl⟩⟩))
     go_meet
     case rel => exact ⟨_, (true), (by first | rfl | (simp; done) | (simp [*]; done)), H', ⟨by first | omega | exact Nat.le_refl _⟩, ⟨by repeat (first | (with_reducible first | exact HB.out | apply below_alloc | apply pw_below_drewN | apply below_drew1) | exact HB.out)⟩⟩
    ·rw [if_neg c10] at H
     have c10b0 : (a1 == 4611686018427387904) = false := beq_eq_false_iff_ne.mpr c10
     have c10b1 : (a1 != 4611686018427387904) = true := bne_iff_ne.mpr c10
     (first | rw [c10b0] | (simp only [i64_w, i32_w]; rw [c10b0]) | skip)
     by_cases c12 : a2 < 1
     ·rw [if_pos c12] at H
      have c12b0 : decide (a2 < 1) = true := decide_eq_true c12
      clear c12
      have H' := Aside0.mk H
      clear H
      go_wp2_with (first | ((with_reducible refine gate_callee (f := 17) rfl ?_); refine goesL_ (some 13) rfl rfl Try.func17 (by kernel_rfl) rfl #[.slice A0 l0.length c0] rfl (by (try simp only [List.map_toArray, List.map_cons, List.map_nil]); first | done | rfl | (simp only [List.length_drop, List.length_take]; rfl)) ?_; (with_reducible refine (step_Right.calls k _ _ l0 true _ ?side1 ?side2 A6.out).mono ?_); (case side1 => repeat (first | exact (Kd.C_below HR0.out HB.out) | (with_reducible refine Kd.C_alloc ?_ _) | (with_reducible refine Kd.C_drewN ?_ _) | (with_reducible refine Kd.C_drew ?_))); (case side2 => exact HC0.out); rintro e w13 ⟨rfl, hb⟩; refine ⟨_, rfl, ?_⟩; have n0_ := Aside0.mk (below_step (by repeat (first | (with_reducible first | exact HB.out | apply below_alloc | apply pw_below_drewN | apply below_drew1) | exact HB.out)) hb); clear HB; have HB := n0_; clear n0_; (try clear hb); (try clear hb2); (try clear hk); (try clear hi)) | (go_at_call 18; (with_reducible refine (when_Right.calls a1 true _ A8.out).mono ?_); rintro e w' ⟨rfl, ⟨nd, rfl⟩⟩))
      go_meet
      case rel => exact ⟨_, (true), (by first | rfl | (simp; done) | (simp [*]; done)), H', ⟨by first | omega | exact Nat.le_refl _⟩, ⟨by repeat (first | (with_reducible first | exact HB.out | apply below_alloc | apply pw_below_drewN | apply below_drew1) | exact HB.out)⟩⟩
     ·rw [if_neg c12] at H
      have c12b0 : decide (a2 < 1) = false := decide_eq_false c12
      clear c12
      replace H := Option.bind_eq_some_iff.mp H
      obtain ⟨t120, A140, H⟩ := H
      replace H : (step_First.j0 k l0 a1 a2 a3 (!t120)) = some (r1, r2) := H
      have A14 := Aside0.mk A140
      clear A140
      have H' := Aside0.mk H
      clear H
      go_wp2_with (first | ((with_reducible refine gate_callee (f := 17) rfl ?_); refine goesL_ (some 13) rfl rfl Try.func17 (by kernel_rfl) rfl #[.slice A0 l0.length c0] rfl (by (try simp only [List.map_toArray, List.map_cons, List.map_nil]); first | done | rfl | (simp only [List.length_drop, List.length_take]; rfl)) ?_; (with_reducible refine (step_Right.calls k _ _ l0 true _ ?side1 ?side2 A6.out).mono ?_); (case side1 => repeat (first | exact (Kd.C_below HR0.out HB.out) | (with_reducible refine Kd.C_alloc ?_ _) | (with_reducible refine Kd.C_drewN ?_ _) | (with_reducible refine Kd.C_drew ?_))); (case side2 => exact HC0.out); rintro e w15 ⟨rfl, hb⟩; refine ⟨_, rfl, ?_⟩; have n0_ := Aside0.mk (below_step (by repeat (first | (with_reducible first | exact HB.out | apply below_alloc | apply pw_below_drewN | apply below_drew1) | exact HB.out)) hb); clear HB; have HB := n0_; clear n0_; (try clear hb); (try clear hb2); (try clear hk); (try clear hi)) | (go_at_call 18; (with_reducible refine (when_Right.calls a1 true _ A8.out).mono ?_); rintro e w' ⟨rfl, ⟨nd, rfl⟩⟩) | (go_at_call 47; (with_reducible refine (step_amount.calls a3 t120 _ A14.out).mono ?_); rintro e w' ⟨rfl, ⟨nd, rfl⟩⟩))
      go_meet
      case rel => exact ⟨_, (!t120), (by first | rfl | (simp; done) | (simp [*]; done)), H', ⟨by first | omega | exact Nat.le_refl _⟩, ⟨by repeat (first | (with_reducible first | exact HB.out | apply below_alloc | apply pw_below_drewN | apply below_drew1) | exact HB.out)⟩⟩
   ·replace c9 := Bool.eq_false_iff.mpr c9
    subst c9
    have H1 : (step_First.j0 k l0 a1 a2 a3 true) = some (r1, r2) := by rw [if_neg (show ¬ (false = true) by decide)] at H; exact H
    clear H
    have H := H1
    clear H1
    have H' := Aside0.mk H
    clear H
    go_wp2_with (first | ((with_reducible refine gate_callee (f := 17) rfl ?_); refine goesL_ (some 13) rfl rfl Try.func17 (by kernel_rfl) rfl #[.slice A0 l0.length c0] rfl (by (try simp only [List.map_toArray, List.map_cons, List.map_nil]); first | done | rfl | (simp only [List.length_drop, List.length_take]; rfl)) ?_; (with_reducible refine (step_Right.calls k _ _ l0 true _ ?side1 ?side2 A6.out).mono ?_); (case side1 => repeat (first | exact (Kd.C_below HR0.out HB.out) | (with_reducible refine Kd.C_alloc ?_ _) | (with_reducible refine Kd.C_drewN ?_ _) | (with_reducible refine Kd.C_drew ?_))); (case side2 => exact HC0.out); rintro e w16 ⟨rfl, hb⟩; refine ⟨_, rfl, ?_⟩; have n0_ := Aside0.mk (below_step (by repeat (first | (with_reducible first | exact HB.out | apply below_alloc | apply pw_below_drewN | apply below_drew1) | exact HB.out)) hb); clear HB; have HB := n0_; clear n0_; (try clear hb); (try clear hb2); (try clear hk); (try clear hi)) | (go_at_call 18; (with_reducible refine (when_Right.calls a1 false _ A8.out).mono ?_); rintro e w' ⟨rfl, ⟨nd, rfl⟩⟩))
    go_meet
    case rel => exact ⟨_, (true), (by first | rfl | (simp; done) | (simp [*]; done)), H', ⟨by first | omega | exact Nat.le_refl _⟩, ⟨by repeat (first | (with_reducible first | exact HB.out | apply below_alloc | apply pw_below_drewN | apply below_drew1) | exact HB.out)⟩⟩
  ·replace c7 := Bool.eq_false_iff.mpr c7
   subst c7
   have H1 : (step_First.j0 k l0 a1 a2 a3 true) = some (r1, r2) := by rw [if_neg (show ¬ (false = true) by decide)] at H; exact H
   clear H
   have H := H1
   clear H1
   have H' := Aside0.mk H
   clear H
   go_wp2_with (first | ((with_reducible refine gate_callee (f := 17) rfl ?_); refine goesL_ (some 13) rfl rfl Try.func17 (by kernel_rfl) rfl #[.slice A0 l0.length c0] rfl (by (try simp only [List.map_toArray, List.map_cons, List.map_nil]); first | done | rfl | (simp only [List.length_drop, List.length_take]; rfl)) ?_; (with_reducible refine (step_Right.calls k _ _ l0 false _ ?side1 ?side2 A6.out).mono ?_); (case side1 => repeat (first | exact (Kd.C_below HR0.out HB.out) | (with_reducible refine Kd.C_alloc ?_ _) | (with_reducible refine Kd.C_drewN ?_ _) | (with_reducible refine Kd.C_drew ?_))); (case side2 => exact HC0.out); rintro e w17 ⟨rfl, hb⟩; refine ⟨_, rfl, ?_⟩; have n0_ := Aside0.mk (below_step (by repeat (first | (with_reducible first | exact HB.out | apply below_alloc | apply pw_below_drewN | apply below_drew1) | exact HB.out)) hb); clear HB; have HB := n0_; clear n0_; (try clear hb); (try clear hb2); (try clear hk); (try clear hi)))
   go_meet
   case rel => exact ⟨_, (true), (by first | rfl | (simp; done) | (simp [*]; done)), H', ⟨by first | omega | exact Nat.le_refl _⟩, ⟨by repeat (first | (with_reducible first | exact HB.out | apply below_alloc | apply pw_below_drewN | apply below_drew1) | exact HB.out)⟩⟩
 case rest =>
  clear HC5
  try clear c1
  try clear p2
  try clear c7
  try clear c9
  try clear c10
  try clear c10b0
  try clear c10b1
  try clear c12
  try clear c12b0
  try clear c15
  try clear c17
  obtain ⟨kq, x32_4, rfl, HA, HJ4, HB⟩ := hcut
  cases kq with
  | zero => exact absurd HA.out (by simp [step_First.j0])
  | succ kj4 =>
   have H := HA.out
   clear HA
   simp only [step_First.j0] at H
   by_cases c18 : x32_4 = true
   ·subst c18
    have H1 : (some (0, false)) = some (r1, r2) := by rw [if_pos rfl] at H; exact H
    clear H
    have H := H1
    clear H1
    simp only [Option.some.injEq, Prod.mk.injEq] at H
    obtain ⟨rfl, rfl⟩ := H
    go_wp2
    go_ret2
    exact ⟨by first | rfl | (simp [errW_none, errW_some] <;> rfl) | (simp [*, errW_none, errW_some] <;> rfl), by repeat (first | (with_reducible first | exact HB.out | apply below_alloc | apply pw_below_drewN | apply below_drew1) | exact HB.out)⟩
   ·replace c18 := Bool.eq_false_iff.mpr c18
    subst c18
    have H1 : ((step_place.f kj4 l0 a1).bind fun t121 => (step_First.l0 kj4 l0 a2 a3 a1 t121)) = some (r1, r2) := by rw [if_neg (show ¬ (false = true) by decide)] at H; exact H
    clear H
    have H := H1
    clear H1
    replace H := Option.bind_eq_some_iff.mp H
    obtain ⟨t121, A190, H⟩ := H
    replace H : (step_First.l0 kj4 l0 a2 a3 a1 t121) = some (r1, r2) := H
    have A19 := Aside0.mk A190
    clear A190
    have H' := Aside0.mk H
    clear H
    go_wp2_with (first | ((with_reducible refine gate_callee (f := 48) rfl ?_); refine goesL_ (some 36) rfl rfl Try.func48 (by kernel_rfl) rfl #[.slice A0 l0.length c0, .int .i64 a1] rfl (by (try simp only [List.map_toArray, List.map_cons, List.map_nil]); first | done | rfl | (simp only [List.length_drop, List.length_take]; rfl)) ?_; (with_reducible refine (step_place.calls kj4 _ _ l0 a1 t121 _ ?side1 ?side2 A19.out).mono ?_); (case side1 => repeat (first | exact (Kd.C_below HR0.out HB.out) | (with_reducible refine Kd.C_alloc ?_ _) | (with_reducible refine Kd.C_drewN ?_ _) | (with_reducible refine Kd.C_drew ?_))); (case side2 => exact HC0.out); rintro e w20 ⟨rfl, hb⟩; refine ⟨_, rfl, ?_⟩; have n0_ := Aside0.mk (below_step (by repeat (first | (with_reducible first | exact HB.out | apply below_alloc | apply pw_below_drewN | apply below_drew1) | exact HB.out)) hb); clear HB; have HB := n0_; clear n0_; (try clear hb); (try clear hb2); (try clear hk); (try clear hi)))
    go_loopg [10, 11] kj4 (fun kq v10 v11 w' => ∃ (x10_2 : Int) (x11_2 : Int), v10 = .int .i64 x10_2 ∧ v11 = .int .i64 x11_2 ∧ Aside0 (step_First.l0 kq l0 a2 a3 x10_2 x11_2 = some (r1, r2)) ∧ Aside0 (kq ≤ kj4) ∧ Aside0 (Below w.heap.size w w'))
    case atStart => exact ⟨(a1), (t121), (by first | rfl | (simp; done) | (simp [*]; done)), (by first | rfl | (simp; done) | (simp [*]; done)), H', ⟨Nat.le_refl _⟩, ⟨by repeat (first | (with_reducible first | exact HB.out | apply below_alloc | apply pw_below_drewN | apply below_drew1) | exact HB.out)⟩⟩
    case round =>
     clear H'
     try clear c1
     try clear p2
     try clear c4
     try clear c7
     try clear c9
     try clear c10
     try clear c10b0
     try clear c10b1
     try clear c12
     try clear c12b0
     try clear c15
     try clear c17
     try clear c18
     try clear p2
     obtain ⟨x10_2, x11_2, rfl, rfl, HA, HK2, HB⟩ := hrel
     cases gk with
     | zero => exact absurd HA.out (by simp [step_First.l0])
     | succ k2 =>
      have H := HA.out
      clear HA
      simp only [step_First.l0] at H
      have HC21 := Aside0.mk H
      clear H
      go_upto_region 5 with (fail)
      go_cut [51] (fun v51 wc => ∃ (kq : Nat) (x51_20 : Bool), v51 = .bool x51_20 ∧ Aside0 (step_First.j2 kq l0 a2 a3 x10_2 x11_2 x51_20 = some (r1, r2)) ∧ Aside0 (kq ≤ k2) ∧ Aside0 (Below w.heap.size w wc))
      case first =>
       have H := HC21.out
       clear HC21
       by_cases c22 : x11_2 < (l0.length : Int)
       ·rw [if_pos c22] at H
        have c22b0 : decide (x11_2 < (l0.length : Int)) = true := decide_eq_true c22
        clear c22
        (first | rw [c22b0] | (simp only [i64_w, i32_w]; rw [c22b0]) | skip)
        by_cases c23 : 0 ≤ x11_2
        ·rw [if_pos c23] at H
         have c23b0 : decide (0 ≤ x11_2) = true := decide_eq_true c23
         clear c23
         replace H := Option.bind_eq_some_iff.mp H
         obtain ⟨t123, A240, H⟩ := H
         replace H : (step_First.j2 k2 l0 a2 a3 x10_2 x11_2 (decide (((rd_T45 l0 x11_2).f0) < t123))) = some (r1, r2) := H
         have A24 := Aside0.mk A240
         clear A240
         have H' := Aside0.mk H
         clear H
         try go_wp2
         have n0_ := Aside0.mk (below_drew1 HB.out)
         clear HB
         have HB := n0_
         clear n0_
         have p122 : 0 ≤ (x11_2 : Int) := of_decide_eq_true (by first | (with_reducible assumption) | assumption)
         have q122 : x11_2 < (l0.length : Int) := of_decide_eq_true (by first | (with_reducible assumption) | assumption)
         obtain ⟨ad122, e122, hx122_0, hx122_1⟩ := at_T45 HR0.out x11_2 p122 q122
         have hw122_1 := hx122_1
         have hw122_0 := hx122_0
         cases e122
         replace hx122_0 := (HB.out.cell (World.block_lt_of_cell? w _ hx122_0)).trans hx122_0
         replace hx122_1 := (HB.out.cell (World.block_lt_of_cell? w _ hx122_1)).trans hx122_1
         replace p122 := eq_true p122
         replace q122 := eq_true q122
         refine start_ (n := 15) (S := fun w' => w'.cell? (ad122.add ((x11_2).toNat * 2)) = some (.int .i64 ((rd_T45 l0 x11_2).f0)) ∧ w'.cell? ⟨(ad122.add ((x11_2).toNat * 2)).block, (ad122.add ((x11_2).toNat * 2)).off + 1, none⟩ = some (.int .i64 ((rd_T45 l0 x11_2).f1))) (ds := []) #[false, false, false, false, false, false, false, false, false, false, false, false, false, false, false] (by kernel_rfl) rfl rfl ⟨((HB.out.cell (World.block_lt_of_cell? w _ hw122_0)).trans hw122_0), ((HB.out.cell (World.block_lt_of_cell? w _ hw122_1)).trans hw122_1)⟩ (fun hHeld => ?_); refine with_tabW step_First.tab5 step_First.bits5 (fun HT_ HW_ => ?_)
         generalize wr.drew = w25 at HB hx122_0 hx122_1 hHeld ⊢
         refine pure_ (i := 0) (N := some 37) (v := ?_) (a' := ?_) #[true, false, false, false, false, false, false, false, false, false, false, false, false, false, false] rfl rfl (any_of HT_.out (by kernel_rfl)) (fun _ _ _ h => h) (Or.inl ⟨by rfl, ?_⟩) ?_ ?_
         rotate_left
         ·intro w'
          go_simp
          with_reducible rfl
         rotate_left
         ·simp only [Act.put, List.setIfInBounds_toArray, List.set_cons_zero, List.set_cons_succ, i64_w, i32_w]
          rfl
         refine pure_ (i := 1) (N := some 38) (v := ?_) (a' := ?_) #[true, true, false, false, false, false, false, false, false, false, false, false, false, false, false] rfl rfl (any_of HT_.out (by kernel_rfl)) (fun _ _ _ h => h) (Or.inl ⟨by rfl, ?_⟩) ?_ ?_
         rotate_left
         ·intro w'
          go_simp
          with_reducible rfl
         rotate_left
         ·simp only [Act.put, List.setIfInBounds_toArray, List.set_cons_zero, List.set_cons_succ, i64_w, i32_w]
          rfl
         refine pure_ (i := 2) (N := some 39) (v := ?_) (a' := ?_) #[true, true, true, false, false, false, false, false, false, false, false, false, false, false, false] rfl rfl (any_of HT_.out (by kernel_rfl)) (fun _ _ _ h => h) (Or.inl ⟨by rfl, ?_⟩) ?_ ?_
         rotate_left
         ·intro w'
          go_simp
          with_reducible rfl
         rotate_left
         ·simp only [Act.put, List.setIfInBounds_toArray, List.set_cons_zero, List.set_cons_succ, i64_w, i32_w]
          rfl
         refine pure_ (i := 3) (N := some 40) (v := ?_) (a' := ?_) #[true, true, true, true, false, false, false, false, false, false, false, false, false, false, false] rfl rfl (any_of HT_.out (by kernel_rfl)) (fun _ _ _ h => h) (Or.inl ⟨by rfl, ?_⟩) ?_ ?_
         rotate_left
         ·intro w'
          go_simp
          with_reducible rfl
         rotate_left
         ·simp only [Act.put, List.setIfInBounds_toArray, List.set_cons_zero, List.set_cons_succ, i64_w, i32_w]
          rfl
         refine pure_ (i := 4) (N := some 41) (v := ?_) (a' := ?_) #[true, true, true, true, true, false, false, false, false, false, false, false, false, false, false] rfl rfl (any_of HT_.out (by kernel_rfl)) (fun _ _ _ h => h) (Or.inl ⟨by rfl, ?_⟩) ?_ ?_
         rotate_left
         ·intro w'
          go_simp
          with_reducible rfl
         rotate_left
         ·simp only [Act.put, List.setIfInBounds_toArray, List.set_cons_zero, List.set_cons_succ, i64_w, i32_w]
          rfl
         refine pure_ (i := 5) (N := some 42) (v := ?_) (a' := ?_) #[true, true, true, true, true, true, false, false, false, false, false, false, false, false, false] rfl rfl (any_of HT_.out (by kernel_rfl)) (fun _ _ _ h => h) (Or.inl ⟨by rfl, ?_⟩) ?_ ?_
         rotate_left
         ·intro w'
          go_simp
          with_reducible rfl
         rotate_left
         ·simp only [Act.put, List.setIfInBounds_toArray, List.set_cons_zero, List.set_cons_succ, i64_w, i32_w]
          rfl
         refine pure_ (i := 6) (N := some 43) (v := ?_) (a' := ?_) #[true, true, true, true, true, true, true, false, false, false, false, false, false, false, false] rfl rfl (any_of HT_.out (by kernel_rfl)) (fun _ _ _ h => h) (Or.inl ⟨by rfl, ?_⟩) ?_ ?_
         rotate_left
         ·intro w'
          go_simp
          with_reducible rfl
         rotate_left
         ·simp only [Act.put, List.setIfInBounds_toArray, List.set_cons_zero, List.set_cons_succ, i64_w, i32_w]
          rfl
         refine pure_ (i := 7) (N := some 44) (v := ?_) (a' := ?_) #[true, true, true, true, true, true, true, true, false, false, false, false, false, false, false] rfl rfl (any_of HT_.out (by kernel_rfl)) (fun _ _ _ h => h) (Or.inl ⟨by rfl, ?_⟩) ?_ ?_
         rotate_left
         ·intro w'
          go_simp
          with_reducible rfl
         rotate_left
         ·simp only [Act.put, List.setIfInBounds_toArray, List.set_cons_zero, List.set_cons_succ, i64_w, i32_w]
          rfl
         refine pure_ (i := 8) (N := some 45) (v := ?_) (a' := ?_) #[true, true, true, true, true, true, true, true, true, false, false, false, false, false, false] rfl rfl (any_of HT_.out (by kernel_rfl)) (fun _ _ _ h => h) (Or.inl ⟨by rfl, ?_⟩) ?_ ?_
         rotate_left
         ·intro w'
          go_simp
          with_reducible rfl
         rotate_left
         ·simp only [Act.put, List.setIfInBounds_toArray, List.set_cons_zero, List.set_cons_succ, i64_w, i32_w]
          rfl
         refine pure_ (i := 10) (N := some 47) (v := ?_) (a' := ?_) #[true, true, true, true, true, true, true, true, true, false, true, false, false, false, false] rfl rfl (any_of HT_.out (by kernel_rfl)) (fun _ _ _ h => h) (Or.inl ⟨by rfl, ?_⟩) ?_ ?_
         rotate_left
         ·intro w'
          go_simp
          with_reducible rfl
         rotate_left
         ·simp only [Act.put, List.setIfInBounds_toArray, List.set_cons_zero, List.set_cons_succ, i64_w, i32_w]
          rfl
         refine pure_ (i := 11) (N := some 48) (v := ?_) (a' := ?_) #[true, true, true, true, true, true, true, true, true, false, true, true, false, false, false] rfl rfl (any_of HT_.out (by kernel_rfl)) (fun _ _ _ h => h) (Or.inl ⟨by rfl, ?_⟩) ?_ ?_
         rotate_left
         ·intro w'
          go_simp
          with_reducible rfl
         rotate_left
         ·simp only [Act.put, List.setIfInBounds_toArray, List.set_cons_zero, List.set_cons_succ, i64_w, i32_w]
          rfl
         refine take_ (i := 9) (N := some 46) (v := ?_) (a' := ?_) #[true, true, true, true, true, true, true, true, true, true, true, true, false, false, false] rfl rfl (take_ofW HT_.out HW_.out (by kernel_rfl)) (fun _ _ _ h => h) (Or.inl ⟨by rfl, ?_⟩) hHeld ?_ ?_
         rotate_left
         ·rintro w' ⟨s0, s1⟩
          go_simp
          with_reducible rfl
         rotate_left
         ·simp only [Act.put, List.setIfInBounds_toArray, List.set_cons_zero, List.set_cons_succ, i64_w, i32_w]
          rfl
         refine one_ (i := 12) (N := some 49) #[true, true, true, true, true, true, true, true, true, true, true, true, true, false, false] rfl rfl (one_of HT_.out (by kernel_rfl)) (by decide) (fun K hK => ?_)
         refine goes_ Try.func20 (by kernel_rfl) rfl #[.int .i64 x10_2, .int .i64 a2] (by rfl) rfl rfl (by (try simp only [List.map_toArray, List.map_cons, List.map_nil]); first | done | rfl | (simp only [List.length_drop, List.length_take]; rfl)) ?_
         with_reducible refine (when_Plus.calls x10_2 a2 t123 _ A24.out).mono ?_
         rintro e w26 ⟨rfl, hb⟩
         refine ⟨_, rfl, ?_⟩
         have n0_ := Aside0.mk (below_step (by repeat (first | (with_reducible first | exact HB.out | apply below_alloc | apply pw_below_drewN | apply below_drew1) | exact HB.out)) hb)
         clear HB
         have HB := n0_
         clear n0_
         (try clear hb)
         (try clear hb2)
         (try clear hk)
         (try clear hi)
         refine hK.out _ _ ⟨((HB.out.cell (World.block_lt_of_cell? w _ hw122_0)).trans hw122_0), ((HB.out.cell (World.block_lt_of_cell? w _ hw122_1)).trans hw122_1)⟩ (fun hHeld => ?_)
         clear hK K
         refine norm_ (a' := ?_) ?_ ?_
         rotate_left
         ·show Act.put _ (some 49) _ = _
          simp only [Act.put, List.setIfInBounds_toArray, List.set_cons_zero, List.set_cons_succ, i64_w, i32_w]
          rfl
         refine pure_ (i := 13) (N := some 50) (v := ?_) (a' := ?_) #[true, true, true, true, true, true, true, true, true, true, true, true, true, true, false] rfl rfl (any_of HT_.out (by kernel_rfl)) (fun _ _ _ h => h) (Or.inl ⟨by rfl, ?_⟩) ?_ ?_
         rotate_left
         ·intro w'
          go_simp
          with_reducible rfl
         rotate_left
         ·simp only [Act.put, List.setIfInBounds_toArray, List.set_cons_zero, List.set_cons_succ, i64_w, i32_w]
          rfl
         refine pure_ (i := 14) (N := some 51) (v := ?_) (a' := ?_) #[true, true, true, true, true, true, true, true, true, true, true, true, true, true, true] rfl rfl (any_of HT_.out (by kernel_rfl)) (fun _ _ _ h => h) (Or.inl ⟨by rfl, ?_⟩) ?_ ?_
         rotate_left
         ·intro w'
          go_simp
          with_reducible rfl
         rotate_left
         ·simp only [Act.put, List.setIfInBounds_toArray, List.set_cons_zero, List.set_cons_succ, i64_w, i32_w]
          rfl
         refine done_ (done_of HT_.out (by kernel_rfl)) ?_
         try go_wp2
         go_meet
         case rel => exact ⟨_, (decide (((rd_T45 l0 x11_2).f0) < t123)), (by first | rfl | (simp; done) | (simp [*]; done)), H', ⟨by have := HJ4.out; have := HK2.out; first | omega | exact Nat.le_refl _⟩, ⟨by repeat (first | (with_reducible first | exact HB.out | apply below_alloc | apply pw_below_drewN | apply below_drew1) | exact HB.out)⟩⟩
        ·rw [if_neg c23] at H
         exact absurd H (by simp)
       ·rw [if_neg c22] at H
        have c22b0 : decide (x11_2 < (l0.length : Int)) = false := decide_eq_false c22
        clear c22
        (first | rw [c22b0] | (simp only [i64_w, i32_w]; rw [c22b0]) | skip)
        have H' := Aside0.mk H
        clear H
        try go_wp2
        have n0_ := Aside0.mk (below_drew1 HB.out)
        clear HB
        have HB := n0_
        clear n0_
        refine start_ (n := 15) (S := fun w' => True) (ds := []) #[false, false, false, false, false, false, false, false, false, false, false, false, false, false, false] (by kernel_rfl) rfl rfl trivial (fun hHeld => ?_); refine with_tabW step_First.tab5 step_First.bits5 (fun HT_ HW_ => ?_)
        generalize wr.drew = w27 at HB hHeld ⊢
        refine pure_ (i := 0) (N := some 37) (v := ?_) (a' := ?_) #[true, false, false, false, false, false, false, false, false, false, false, false, false, false, false] rfl rfl (any_of HT_.out (by kernel_rfl)) (fun _ _ _ h => h) (Or.inl ⟨by rfl, ?_⟩) ?_ ?_
        rotate_left
        ·intro w'
         go_simp
         with_reducible rfl
        rotate_left
        ·simp only [Act.put, List.setIfInBounds_toArray, List.set_cons_zero, List.set_cons_succ, i64_w, i32_w]
         rfl
        refine pure_ (i := 1) (N := some 38) (v := ?_) (a' := ?_) #[true, true, false, false, false, false, false, false, false, false, false, false, false, false, false] rfl rfl (any_of HT_.out (by kernel_rfl)) (fun _ _ _ h => h) (Or.inl ⟨by rfl, ?_⟩) ?_ ?_
        rotate_left
        ·intro w'
         go_simp
         with_reducible rfl
        rotate_left
        ·simp only [Act.put, List.setIfInBounds_toArray, List.set_cons_zero, List.set_cons_succ, i64_w, i32_w]
         rfl
        refine pure_ (i := 2) (N := some 39) (v := ?_) (a' := ?_) #[true, true, true, false, false, false, false, false, false, false, false, false, false, false, false] rfl rfl (any_of HT_.out (by kernel_rfl)) (fun _ _ _ h => h) (Or.inl ⟨by rfl, ?_⟩) ?_ ?_
        rotate_left
        ·intro w'
         go_simp
         with_reducible rfl
        rotate_left
        ·simp only [Act.put, List.setIfInBounds_toArray, List.set_cons_zero, List.set_cons_succ, i64_w, i32_w]
         rfl
        refine pure_ (i := 3) (N := some 40) (v := ?_) (a' := ?_) #[true, true, true, true, false, false, false, false, false, false, false, false, false, false, false] rfl rfl (any_of HT_.out (by kernel_rfl)) (fun _ _ _ h => h) (Or.inl ⟨by rfl, ?_⟩) ?_ ?_
        rotate_left
        ·intro w'
         go_simp
         with_reducible rfl
        rotate_left
        ·simp only [Act.put, List.setIfInBounds_toArray, List.set_cons_zero, List.set_cons_succ, i64_w, i32_w]
         rfl
        refine pure_ (i := 4) (N := some 41) (v := ?_) (a' := ?_) #[true, true, true, true, true, false, false, false, false, false, false, false, false, false, false] rfl rfl (any_of HT_.out (by kernel_rfl)) (fun _ _ _ h => h) (Or.inl ⟨by rfl, ?_⟩) ?_ ?_
        rotate_left
        ·intro w'
         go_simp
         with_reducible rfl
        rotate_left
        ·simp only [Act.put, List.setIfInBounds_toArray, List.set_cons_zero, List.set_cons_succ, i64_w, i32_w]
         rfl
        refine pure_ (i := 5) (N := some 42) (v := undef) (a' := ?_) #[true, true, true, true, true, true, false, false, false, false, false, false, false, false, false] rfl rfl (any_of HT_.out (by kernel_rfl)) (fun _ _ _ h => h) (Or.inr ⟨by rfl, rfl⟩) ?_ ?_
        rotate_left
        ·simp only [Act.put, List.setIfInBounds_toArray, List.set_cons_zero, List.set_cons_succ, i64_w, i32_w]
         rfl
        refine pure_ (i := 6) (N := some 43) (v := undef) (a' := ?_) #[true, true, true, true, true, true, true, false, false, false, false, false, false, false, false] rfl rfl (any_of HT_.out (by kernel_rfl)) (fun _ _ _ h => h) (Or.inr ⟨by rfl, rfl⟩) ?_ ?_
        rotate_left
        ·simp only [Act.put, List.setIfInBounds_toArray, List.set_cons_zero, List.set_cons_succ, i64_w, i32_w]
         rfl
        refine pure_ (i := 7) (N := some 44) (v := undef) (a' := ?_) #[true, true, true, true, true, true, true, true, false, false, false, false, false, false, false] rfl rfl (any_of HT_.out (by kernel_rfl)) (fun _ _ _ h => h) (Or.inr ⟨by rfl, rfl⟩) ?_ ?_
        rotate_left
        ·simp only [Act.put, List.setIfInBounds_toArray, List.set_cons_zero, List.set_cons_succ, i64_w, i32_w]
         rfl
        refine pure_ (i := 8) (N := some 45) (v := undef) (a' := ?_) #[true, true, true, true, true, true, true, true, true, false, false, false, false, false, false] rfl rfl (any_of HT_.out (by kernel_rfl)) (fun _ _ _ h => h) (Or.inr ⟨by rfl, rfl⟩) ?_ ?_
        rotate_left
        ·simp only [Act.put, List.setIfInBounds_toArray, List.set_cons_zero, List.set_cons_succ, i64_w, i32_w]
         rfl
        refine pure_ (i := 9) (N := some 46) (v := undef) (a' := ?_) #[true, true, true, true, true, true, true, true, true, true, false, false, false, false, false] rfl rfl (any_of HT_.out (by kernel_rfl)) (fun _ _ _ h => h) (Or.inr ⟨by rfl, rfl⟩) ?_ ?_
        rotate_left
        ·simp only [Act.put, List.setIfInBounds_toArray, List.set_cons_zero, List.set_cons_succ, i64_w, i32_w]
         rfl
        refine pure_ (i := 10) (N := some 47) (v := undef) (a' := ?_) #[true, true, true, true, true, true, true, true, true, true, true, false, false, false, false] rfl rfl (any_of HT_.out (by kernel_rfl)) (fun _ _ _ h => h) (Or.inr ⟨by rfl, rfl⟩) ?_ ?_
        rotate_left
        ·simp only [Act.put, List.setIfInBounds_toArray, List.set_cons_zero, List.set_cons_succ, i64_w, i32_w]
         rfl
        refine pure_ (i := 11) (N := some 48) (v := undef) (a' := ?_) #[true, true, true, true, true, true, true, true, true, true, true, true, false, false, false] rfl rfl (any_of HT_.out (by kernel_rfl)) (fun _ _ _ h => h) (Or.inr ⟨by rfl, rfl⟩) ?_ ?_
        rotate_left
        ·simp only [Act.put, List.setIfInBounds_toArray, List.set_cons_zero, List.set_cons_succ, i64_w, i32_w]
         rfl
        refine pure_ (i := 12) (N := some 49) (v := undef) (a' := ?_) #[true, true, true, true, true, true, true, true, true, true, true, true, true, false, false] rfl rfl (any_of HT_.out (by kernel_rfl)) (fun _ _ _ h => h) (Or.inr ⟨by rfl, rfl⟩) ?_ ?_
        rotate_left
        ·simp only [Act.put, List.setIfInBounds_toArray, List.set_cons_zero, List.set_cons_succ, i64_w, i32_w]
         rfl
        refine pure_ (i := 13) (N := some 50) (v := undef) (a' := ?_) #[true, true, true, true, true, true, true, true, true, true, true, true, true, true, false] rfl rfl (any_of HT_.out (by kernel_rfl)) (fun _ _ _ h => h) (Or.inr ⟨by rfl, rfl⟩) ?_ ?_
        rotate_left
        ·simp only [Act.put, List.setIfInBounds_toArray, List.set_cons_zero, List.set_cons_succ, i64_w, i32_w]
         rfl
        refine pure_ (i := 14) (N := some 51) (v := ?_) (a' := ?_) #[true, true, true, true, true, true, true, true, true, true, true, true, true, true, true] rfl rfl (any_of HT_.out (by kernel_rfl)) (fun _ _ _ h => h) (Or.inl ⟨by rfl, ?_⟩) ?_ ?_
        rotate_left
        ·intro w'
         go_simp
         with_reducible rfl
        rotate_left
        ·simp only [Act.put, List.setIfInBounds_toArray, List.set_cons_zero, List.set_cons_succ, i64_w, i32_w]
         rfl
        refine done_ (done_of HT_.out (by kernel_rfl)) ?_
        try go_wp2
        go_meet
        case rel => exact ⟨_, (false), (by first | rfl | (simp; done) | (simp [*]; done)), H', ⟨by have := HJ4.out; have := HK2.out; first | omega | exact Nat.le_refl _⟩, ⟨by repeat (first | (with_reducible first | exact HB.out | apply below_alloc | apply pw_below_drewN | apply below_drew1) | exact HB.out)⟩⟩
      case rest =>
       clear HC21
       try clear c1
       try clear p1
       try clear q1
       try clear hx1
       try clear c2
       try clear p2
       try clear c4
       try clear c7
       try clear c9
       try clear c10
       try clear c10b0
       try clear c10b1
       try clear c12
       try clear c12b0
       try clear p12
       try clear q12
       try clear hx12
       try clear c15
       try clear c17
       try clear c18
       try clear c20
       try clear c22
       try clear c22b0
       try clear c23
       try clear c23b0
       try clear hx122_0
       try clear hx122_1
       try clear p122
       try clear p2
       try clear q122
       obtain ⟨kq, x51_20, rfl, HA, HJ20, HB⟩ := hcut
       cases kq with
       | zero => exact absurd HA.out (by simp [step_First.j2])
       | succ kj20 =>
        have H := HA.out
        clear HA
        simp only [step_First.j2] at H
        by_cases c28 : x51_20 = true
        ·subst c28
         have H1 : (if 0 ≤ x11_2 then (if x11_2 < (l0.length : Int) then (if ((rd_T45 l0 x11_2).f1) < a3 then (if (wrap64 (x11_2 + 1)) = (l0.length : Int) then (some (0, false)) else (if 0 ≤ (wrap64 (x11_2 + 1)) then (if (wrap64 (x11_2 + 1)) < (l0.length : Int) then (step_First.l0 kj20 l0 a2 a3 ((rd_T45 l0 (wrap64 (x11_2 + 1))).f0) (wrap64 (x11_2 + 1))) else (none)) else (none))) else (step_First.l0 kj20 l0 a2 a3 x10_2 (wrap64 (x11_2 + 1)))) else (none)) else (none)) = some (r1, r2) := by rw [if_pos rfl] at H; exact H
         clear H
         have H := H1
         clear H1
         by_cases c29 : 0 ≤ x11_2
         ·rw [if_pos c29] at H
          have c29b0 : decide (0 ≤ x11_2) = true := decide_eq_true c29
          clear c29
          by_cases c30 : x11_2 < (l0.length : Int)
          ·rw [if_pos c30] at H
           have c30b0 : decide (x11_2 < (l0.length : Int)) = true := decide_eq_true c30
           clear c30
           by_cases c31 : ((rd_T45 l0 x11_2).f1) < a3
           ·rw [if_pos c31] at H
            have c31b0 : decide (((rd_T45 l0 x11_2).f1) < a3) = true := decide_eq_true c31
            clear c31
            by_cases c32 : (wrap64 (x11_2 + 1)) = (l0.length : Int)
            ·rw [if_pos c32] at H
             have c32b0 : ((wrap64 (x11_2 + 1)) == (l0.length : Int)) = true := beq_iff_eq.mpr c32
             have c32b1 : ((wrap64 (x11_2 + 1)) != (l0.length : Int)) = false := bne_eq_false_iff_eq.mpr c32
             clear c32
             simp only [Option.some.injEq, Prod.mk.injEq] at H
             obtain ⟨rfl, rfl⟩ := H
             have p124 : 0 ≤ (x11_2 : Int) := of_decide_eq_true (by first | (with_reducible assumption) | assumption)
             have q124 : x11_2 < (l0.length : Int) := of_decide_eq_true (by first | (with_reducible assumption) | assumption)
             obtain ⟨ad124, e124, hx124_0, hx124_1⟩ := at_T45 HR0.out x11_2 p124 q124
             cases e124
             replace hx124_0 := (HB.out.cell (World.block_lt_of_cell? w _ hx124_0)).trans hx124_0
             replace hx124_1 := (HB.out.cell (World.block_lt_of_cell? w _ hx124_1)).trans hx124_1
             replace p124 := eq_true p124
             replace q124 := eq_true q124
             go_wp2
             go_ret2
             exact ⟨by first | rfl | (simp [errW_none, errW_some] <;> rfl) | (simp [*, errW_none, errW_some] <;> rfl), by repeat (first | (with_reducible first | exact HB.out | apply below_alloc | apply pw_below_drewN | apply below_drew1) | exact HB.out)⟩
            ·rw [if_neg c32] at H
             have c32b0 : ((wrap64 (x11_2 + 1)) == (l0.length : Int)) = false := beq_eq_false_iff_ne.mpr c32
             have c32b1 : ((wrap64 (x11_2 + 1)) != (l0.length : Int)) = true := bne_iff_ne.mpr c32
             obtain ⟨ji33, hji33⟩ : ∃ j_ : Int, (wrap64 (x11_2 + 1)) = j_ := ⟨_, rfl⟩
             replace H : (if 0 ≤ (ji33) then (if (ji33) < (l0.length : Int) then (step_First.l0 kj20 l0 a2 a3 ((rd_T45 l0 (ji33)).f0) ji33) else (none)) else (none)) = some (r1, r2) := by first | (rw [hji33] at H; exact H) | (simp only [hji33] at H ⊢; exact H)
             (try rw [hji33] at c32b0)
             (try rw [hji33] at c32b1)
             have hji33w : (IntKind.i64.wrap (x11_2 + 1)) = ji33 := (i64_w _).trans hji33
             by_cases c34 : 0 ≤ (ji33)
             ·rw [if_pos c34] at H
              have c34b0 : decide (0 ≤ (ji33)) = true := decide_eq_true c34
              clear c34
              by_cases c35 : (ji33) < (l0.length : Int)
              ·rw [if_pos c35] at H
               have c35b0 : decide ((ji33) < (l0.length : Int)) = true := decide_eq_true c35
               clear c35
               have H' := Aside0.mk H
               clear H
               have p124 : 0 ≤ (x11_2 : Int) := of_decide_eq_true (by first | (with_reducible assumption) | assumption)
               have q124 : x11_2 < (l0.length : Int) := of_decide_eq_true (by first | (with_reducible assumption) | assumption)
               obtain ⟨ad124, e124, hx124_0, hx124_1⟩ := at_T45 HR0.out x11_2 p124 q124
               cases e124
               replace hx124_0 := (HB.out.cell (World.block_lt_of_cell? w _ hx124_0)).trans hx124_0
               replace hx124_1 := (HB.out.cell (World.block_lt_of_cell? w _ hx124_1)).trans hx124_1
               replace p124 := eq_true p124
               replace q124 := eq_true q124
               have p125 : 0 ≤ ((ji33) : Int) := of_decide_eq_true (by first | (with_reducible assumption) | assumption)
               have q125 : (ji33) < (l0.length : Int) := of_decide_eq_true (by first | (with_reducible assumption) | assumption)
               obtain ⟨ad125, e125, hx125_0, hx125_1⟩ := at_T45 HR0.out (ji33) p125 q125
               obtain rfl : ad124 = ad125 := (by injection e125)
               replace hx125_0 := (HB.out.cell (World.block_lt_of_cell? w _ hx125_0)).trans hx125_0
               replace hx125_1 := (HB.out.cell (World.block_lt_of_cell? w _ hx125_1)).trans hx125_1
               replace p125 := eq_true p125
               replace q125 := eq_true q125
               go_wp2
               go_roundg kj20
               case measure => have := HJ4.out; have := HK2.out; have := HJ20.out; omega
               case rel => exact ⟨((rd_T45 l0 (ji33)).f0), (ji33), (by first | rfl | (simp; done) | (simp only [← hji33] <;> (first | rfl | simp)) | (simp [*]; done)), (by first | rfl | (simp; done) | (simp only [← hji33] <;> (first | rfl | simp)) | (simp [*]; done)), H', ⟨by have := HJ4.out; have := HK2.out; have := HJ20.out; omega⟩, ⟨by repeat (first | (with_reducible first | exact HB.out | apply below_alloc | apply pw_below_drewN | apply below_drew1) | exact HB.out)⟩⟩
              ·rw [if_neg c35] at H
               exact absurd H (by simp)
             ·rw [if_neg c34] at H
              exact absurd H (by simp)
           ·rw [if_neg c31] at H
            have c31b0 : decide (((rd_T45 l0 x11_2).f1) < a3) = false := decide_eq_false c31
            clear c31
            have H' := Aside0.mk H
            clear H
            have p124 : 0 ≤ (x11_2 : Int) := of_decide_eq_true (by first | (with_reducible assumption) | assumption)
            have q124 : x11_2 < (l0.length : Int) := of_decide_eq_true (by first | (with_reducible assumption) | assumption)
            obtain ⟨ad124, e124, hx124_0, hx124_1⟩ := at_T45 HR0.out x11_2 p124 q124
            cases e124
            replace hx124_0 := (HB.out.cell (World.block_lt_of_cell? w _ hx124_0)).trans hx124_0
            replace hx124_1 := (HB.out.cell (World.block_lt_of_cell? w _ hx124_1)).trans hx124_1
            replace p124 := eq_true p124
            replace q124 := eq_true q124
            go_wp2
            go_roundg kj20
            case measure => have := HJ4.out; have := HK2.out; have := HJ20.out; omega
            case rel => exact ⟨(x10_2), (wrap64 (x11_2 + 1)), (by first | rfl | (simp; done) | (simp [*]; done)), (by first | rfl | (simp; done) | (simp [*]; done)), H', ⟨by have := HJ4.out; have := HK2.out; have := HJ20.out; omega⟩, ⟨by repeat (first | (with_reducible first | exact HB.out | apply below_alloc | apply pw_below_drewN | apply below_drew1) | exact HB.out)⟩⟩
          ·rw [if_neg c30] at H
           exact absurd H (by simp)
         ·rw [if_neg c29] at H
          exact absurd H (by simp)
        ·replace c28 := Bool.eq_false_iff.mpr c28
         subst c28
         have H1 : (if x10_2 = 4611686018427387904 then (some (0, false)) else (some (x10_2, true))) = some (r1, r2) := by rw [if_neg (show ¬ (false = true) by decide)] at H; exact H
         clear H
         have H := H1
         clear H1
         by_cases c36 : x10_2 = 4611686018427387904
         ·rw [if_pos c36] at H
          have c36b0 : (x10_2 == 4611686018427387904) = true := beq_iff_eq.mpr c36
          have c36b1 : (x10_2 != 4611686018427387904) = false := bne_eq_false_iff_eq.mpr c36
          clear c36
          simp only [Option.some.injEq, Prod.mk.injEq] at H
          obtain ⟨rfl, rfl⟩ := H
          go_wp2
          go_ret2
          exact ⟨by first | rfl | (simp [errW_none, errW_some] <;> rfl) | (simp [*, errW_none, errW_some] <;> rfl), by repeat (first | (with_reducible first | exact HB.out | apply below_alloc | apply pw_below_drewN | apply below_drew1) | exact HB.out)⟩
         ·rw [if_neg c36] at H
          have c36b0 : (x10_2 == 4611686018427387904) = false := beq_eq_false_iff_ne.mpr c36
          have c36b1 : (x10_2 != 4611686018427387904) = true := bne_iff_ne.mpr c36
          simp only [Option.some.injEq, Prod.mk.injEq] at H
          obtain ⟨rfl, rfl⟩ := H
          go_wp2
          go_ret2
          exact ⟨by first | rfl | (simp [errW_none, errW_some] <;> rfl) | (simp [*, errW_none, errW_some] <;> rfl), by repeat (first | (with_reducible first | exact HB.out | apply below_alloc | apply pw_below_drewN | apply below_drew1) | exact HB.out)⟩

end Go.Proofs.Ytimllhflecippaa.F
end
