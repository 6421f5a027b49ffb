/- The texts of the law StepRight, without what it does not use, laid together: part 3. -/
import Derived.Test.YtimllhflecippaaPkStepRight1
import Derived.Test.YtimllhflecippaaPkStepRight2
import Derived.Test.YtimllhflecippaaProg
import Derived.WalkSpells
import Derived.Below
import Derived.Deep.Draws
import Derived.Deep.AppendLies
import Derived.Maps.AppendAt
import Derived.OwnWalk
import Derived.Laws.BytesArg
import Derived.Laws.MakeOwn
import Derived.Laws.OwnMore
import Derived.Deep.OwnRows
import Derived.Tactics
import Derived.Lib.ConvBytes
import Derived.Laws.Slices
import Derived.WalkKit
import Derived.KernelRfl
import Derived.RowKit3
import Derived.Deep.LoopGhost
import Derived.Deep.QuietTactic
import Derived.BigQuiet
import Derived.WideLaws
import Derived.Deep.DeepCutAuto
import Derived.Deep.CutBlock
import Derived.Deep.RegionHeld3
import Derived.Laws.Rows
import Derived.Lib.AppendStr
import Derived.ArgAppend
import Derived.Laws.IdiomCopy
import Derived.RowKit
import Derived.OrdersHeld
import Derived.Laws.BitsLemmas
import Derived.Laws.StructEq

section
namespace Go.Proofs.Ytimllhflecippaa.F
open Go.RowKit Go.Proofs.YtimllhflecippaaW.PrintWords Go.Proofs.YtimllhflecippaaW.PrintLast Go.Proofs.YtimllhflecippaaW.PrintMore
attribute [local go_sem] max2_int min2_int max_two min_two
set_option linter.unusedVariables false
set_option linter.unusedSimpArgs false

def step_may.f (k : Nat) (l0 : List (S45)) (a1 : Int) (a2 : Int) : Option (Bool) := (step_Right.f k l0).bind fun t126 => (if t126 = true then ((when_Right.f a1).bind fun t127 => (if t127 = true then ((when_Right.f a2).bind fun t128 => (if t128 = true then (some (decide (a1 < a2))) else (some false))) else (some false))) else (some false))
theorem step_may.mono : ∀ a0 a1 a2 k, LeO (step_may.f k a0 a1 a2) (step_may.f (k + 1) a0 a1 a2) := by
 intro a0 a1 a2 k
 unfold step_may.f
 repeat' first
   | (with_reducible exact step_Right.mono _ _)
   | (with_reducible exact LeO.refl _)
   | (with_reducible exact LeO.none _)
   | (with_reducible refine LeO.ite ?_ ?_)
   | (with_reducible refine LeO.bind ?_ (fun _ => ?_))
   | exact step_Right.mono _ _
   | exact LeO.none _
   | refine LeO.ite ?_ ?_
   | refine LeO.bind ?_ (fun _ => ?_)
set_option maxHeartbeats 8000000 in
set_option maxRecDepth 100000 in
theorem step_may.calls (k : Nat) (A0 : Option Addr) (c0 : Nat) (l0 : List (S45)) (a1 : Int) (a2 : Int) (r : Bool) (w : World) (hr0 : Kd.C k45 w A0 l0.length l0) (hc0 : l0.length ≤ c0) (h : step_may.f k l0 a1 a2 = some r) :
  Calls Try.prog 50 #[.slice A0 l0.length c0, .int .i64 a1, .int .i64 a2] w fun e w' => e = .returned (.bool r) ∧ Below w.heap.size w w' := by
 have HR0 := Aside0.mk hr0
 have HC0 := Aside0.mk hc0
 clear hr0 hc0
 have HB := Aside0.mk (Below.refl w.heap.size w)
 have H : ((step_Right.f k l0).bind fun t126 => (if t126 = true then ((when_Right.f a1).bind fun t127 => (if t127 = true then ((when_Right.f a2).bind fun t128 => (if t128 = true then (some (decide (a1 < a2))) else (some false))) else (some false))) else (some false))) = some r := h
 clear h
 replace H := Option.bind_eq_some_iff.mp H
 obtain ⟨t126, A40, H⟩ := H
 replace H : (if t126 = true then ((when_Right.f a1).bind fun t127 => (if t127 = true then ((when_Right.f a2).bind fun t128 => (if t128 = true then (some (decide (a1 < a2))) else (some false))) else (some false))) else (some false)) = some r := H
 have A4 := Aside0.mk A40
 clear A40
 by_cases c5 : t126 = true
 ·subst c5
  have H1 : ((when_Right.f a1).bind fun t127 => (if t127 = true then ((when_Right.f a2).bind fun t128 => (if t128 = true then (some (decide (a1 < a2))) else (some false))) else (some false))) = some r := by rw [if_pos rfl] at H; exact H
  clear H
  have H := H1
  clear H1
  replace H := Option.bind_eq_some_iff.mp H
  obtain ⟨t127, A60, H⟩ := H
  replace H : (if t127 = true then ((when_Right.f a2).bind fun t128 => (if t128 = true then (some (decide (a1 < a2))) else (some false))) else (some false)) = some r := H
  have A6 := Aside0.mk A60
  clear A60
  by_cases c7 : t127 = true
  ·subst c7
   have H1 : ((when_Right.f a2).bind fun t128 => (if t128 = true then (some (decide (a1 < a2))) else (some false))) = some r := by rw [if_pos rfl] at H; exact H
   clear H
   have H := H1
   clear H1
   replace H := Option.bind_eq_some_iff.mp H
   obtain ⟨t128, A80, H⟩ := H
   replace H : (if t128 = true then (some (decide (a1 < a2))) else (some false)) = some r := H
   have A8 := Aside0.mk A80
   clear A80
   by_cases c9 : t128 = true
   ·subst c9
    have H1 : (some (decide (a1 < a2))) = some r := by rw [if_pos rfl] at H; exact H
    clear H
    have H := H1
    clear H1
    obtain rfl := Option.some.inj H
    go_enter Try.func50, Try.ntmps50
    go_wp2_with (first | ((with_reducible refine gate_callee (f := 17) rfl ?_); refine goesL_ (some 8) rfl rfl Try.func17 (by kernel_rfl) rfl #[.slice A0 l0.length c0] rfl (by (try simp only [List.map_toArray, List.map_cons, List.map_nil]); first | done | rfl | (simp only [List.length_drop, List.length_take]; rfl)) ?_; (with_reducible refine (step_Right.calls k _ _ l0 true _ ?side1 ?side2 A4.out).mono ?_); (case side1 => repeat (first | exact HR0.out | (with_reducible refine Kd.C_alloc ?_ _) | (with_reducible refine Kd.C_drewN ?_ _) | (with_reducible refine Kd.C_drew ?_))); (case side2 => exact HC0.out); rintro e w10 ⟨rfl, hb⟩; refine ⟨_, rfl, ?_⟩; have n0_ := Aside0.mk (below_step (by repeat (first | (with_reducible first | exact HB.out | apply below_alloc | apply pw_below_drewN | apply below_drew1) | exact HB.out)) hb); clear HB; have HB := n0_; clear n0_; (try clear hb); (try clear hb2); (try clear hk); (try clear hi)) | (go_at_call 18; (with_reducible refine (when_Right.calls a1 true _ A6.out).mono ?_); rintro e w' ⟨rfl, ⟨nd, rfl⟩⟩) | (go_at_call 18; (with_reducible refine (when_Right.calls a2 true _ A8.out).mono ?_); rintro e w' ⟨rfl, ⟨nd, rfl⟩⟩))
    go_ret
    exact ⟨by first | rfl | (simp [errW_none, errW_some] <;> rfl) | (simp [*, errW_none, errW_some] <;> rfl), by repeat (first | (with_reducible first | exact HB.out | apply below_alloc | apply pw_below_drewN | apply below_drew1) | exact HB.out)⟩
   ·replace c9 := Bool.eq_false_iff.mpr c9
    subst c9
    have H1 : (some false) = some r := by rw [if_neg (show ¬ (false = true) by decide)] at H; exact H
    clear H
    have H := H1
    clear H1
    obtain rfl := Option.some.inj H
    go_enter Try.func50, Try.ntmps50
    go_wp2_with (first | ((with_reducible refine gate_callee (f := 17) rfl ?_); refine goesL_ (some 8) rfl rfl Try.func17 (by kernel_rfl) rfl #[.slice A0 l0.length c0] rfl (by (try simp only [List.map_toArray, List.map_cons, List.map_nil]); first | done | rfl | (simp only [List.length_drop, List.length_take]; rfl)) ?_; (with_reducible refine (step_Right.calls k _ _ l0 true _ ?side1 ?side2 A4.out).mono ?_); (case side1 => repeat (first | exact HR0.out | (with_reducible refine Kd.C_alloc ?_ _) | (with_reducible refine Kd.C_drewN ?_ _) | (with_reducible refine Kd.C_drew ?_))); (case side2 => exact HC0.out); rintro e w11 ⟨rfl, hb⟩; refine ⟨_, rfl, ?_⟩; have n0_ := Aside0.mk (below_step (by repeat (first | (with_reducible first | exact HB.out | apply below_alloc | apply pw_below_drewN | apply below_drew1) | exact HB.out)) hb); clear HB; have HB := n0_; clear n0_; (try clear hb); (try clear hb2); (try clear hk); (try clear hi)) | (go_at_call 18; (with_reducible refine (when_Right.calls a1 true _ A6.out).mono ?_); rintro e w' ⟨rfl, ⟨nd, rfl⟩⟩) | (go_at_call 18; (with_reducible refine (when_Right.calls a2 false _ A8.out).mono ?_); rintro e w' ⟨rfl, ⟨nd, rfl⟩⟩))
    go_ret
    exact ⟨by first | rfl | (simp [errW_none, errW_some] <;> rfl) | (simp [*, errW_none, errW_some] <;> rfl), by repeat (first | (with_reducible first | exact HB.out | apply below_alloc | apply pw_below_drewN | apply below_drew1) | exact HB.out)⟩
  ·replace c7 := Bool.eq_false_iff.mpr c7
   subst c7
   have H1 : (some false) = some r := by rw [if_neg (show ¬ (false = true) by decide)] at H; exact H
   clear H
   have H := H1
   clear H1
   obtain rfl := Option.some.inj H
   go_enter Try.func50, Try.ntmps50
   go_wp2_with (first | ((with_reducible refine gate_callee (f := 17) rfl ?_); refine goesL_ (some 8) rfl rfl Try.func17 (by kernel_rfl) rfl #[.slice A0 l0.length c0] rfl (by (try simp only [List.map_toArray, List.map_cons, List.map_nil]); first | done | rfl | (simp only [List.length_drop, List.length_take]; rfl)) ?_; (with_reducible refine (step_Right.calls k _ _ l0 true _ ?side1 ?side2 A4.out).mono ?_); (case side1 => repeat (first | exact HR0.out | (with_reducible refine Kd.C_alloc ?_ _) | (with_reducible refine Kd.C_drewN ?_ _) | (with_reducible refine Kd.C_drew ?_))); (case side2 => exact HC0.out); rintro e w12 ⟨rfl, hb⟩; refine ⟨_, rfl, ?_⟩; have n0_ := Aside0.mk (below_step (by repeat (first | (with_reducible first | exact HB.out | apply below_alloc | apply pw_below_drewN | apply below_drew1) | exact HB.out)) hb); clear HB; have HB := n0_; clear n0_; (try clear hb); (try clear hb2); (try clear hk); (try clear hi)) | (go_at_call 18; (with_reducible refine (when_Right.calls a1 false _ A6.out).mono ?_); rintro e w' ⟨rfl, ⟨nd, rfl⟩⟩))
   go_ret
   exact ⟨by first | rfl | (simp [errW_none, errW_some] <;> rfl) | (simp [*, errW_none, errW_some] <;> rfl), by repeat (first | (with_reducible first | exact HB.out | apply below_alloc | apply pw_below_drewN | apply below_drew1) | exact HB.out)⟩
 ·replace c5 := Bool.eq_false_iff.mpr c5
  subst c5
  have H1 : (some false) = some r := by rw [if_neg (show ¬ (false = true) by decide)] at H; exact H
  clear H
  have H := H1
  clear H1
  obtain rfl := Option.some.inj H
  go_enter Try.func50, Try.ntmps50
  go_wp2_with (first | ((with_reducible refine gate_callee (f := 17) rfl ?_); refine goesL_ (some 8) rfl rfl Try.func17 (by kernel_rfl) rfl #[.slice A0 l0.length c0] rfl (by (try simp only [List.map_toArray, List.map_cons, List.map_nil]); first | done | rfl | (simp only [List.length_drop, List.length_take]; rfl)) ?_; (with_reducible refine (step_Right.calls k _ _ l0 false _ ?side1 ?side2 A4.out).mono ?_); (case side1 => repeat (first | exact HR0.out | (with_reducible refine Kd.C_alloc ?_ _) | (with_reducible refine Kd.C_drewN ?_ _) | (with_reducible refine Kd.C_drew ?_))); (case side2 => exact HC0.out); rintro e w13 ⟨rfl, hb⟩; refine ⟨_, rfl, ?_⟩; have n0_ := Aside0.mk (below_step (by repeat (first | (with_reducible first | exact HB.out | apply below_alloc | apply pw_below_drewN | apply below_drew1) | exact HB.out)) hb); clear HB; have HB := n0_; clear n0_; (try clear hb); (try clear hb2); (try clear hk); (try clear hi)))
  go_ret
  exact ⟨by first | rfl | (simp [errW_none, errW_some] <;> rfl) | (simp [*, errW_none, errW_some] <;> rfl), by repeat (first | (with_reducible first | exact HB.out | apply below_alloc | apply pw_below_drewN | apply below_drew1) | exact HB.out)⟩

def step_least.l0 : Nat → List (S45) → Int → Int → Int → Option (Int)
 | 0, _, _, _, _ => none
 | k + 1, x0, x2, x7, x8 => if x8 < (x0.length : Int) then (if 0 ≤ x8 then (if ((rd_T45 x0 x8).f0) < x2 then (step_least.l0 k x0 x2 (mn x7 ((rd_T45 x0 x8).f1)) (wrap64 (x8 + 1))) else (some x7)) else (none)) else (some x7)
def step_least.f (k : Nat) (l0 : List (S45)) (a1 : Int) (a2 : Int) : Option (Int) := (step_place.f k l0 a1).bind fun t129 => (step_least.l0 k l0 a2 1048576 t129)
theorem step_least.mono_l : ∀ k, (∀ y0 y1 y2 y3, LeO (step_least.l0 k y0 y1 y2 y3) (step_least.l0 (k + 1) y0 y1 y2 y3))
 | 0 => fun _ _ _ _ r h => by simp [step_least.l0] at h
 | k + 1 => by
  have ih0 := step_least.mono_l k
  ·intro y0 y1 y2 y3
   unfold step_least.l0
   repeat' first
   | (with_reducible exact ih0 _ _ _ _)
   | (with_reducible exact step_place.mono _ _ _)
   | (with_reducible exact LeO.refl _)
   | (with_reducible exact LeO.none _)
   | (with_reducible refine LeO.ite ?_ ?_)
   | (with_reducible refine LeO.bind ?_ (fun _ => ?_))
   | exact ih0 _ _ _ _
   | exact step_place.mono _ _ _
   | exact LeO.none _
   | refine LeO.ite ?_ ?_
   | refine LeO.bind ?_ (fun _ => ?_)
theorem step_least.mono : ∀ a0 a1 a2 k, LeO (step_least.f k a0 a1 a2) (step_least.f (k + 1) a0 a1 a2) := by
 intro a0 a1 a2 k
 have ih0 := step_least.mono_l k
 unfold step_least.f
 repeat' first
   | (with_reducible exact ih0 _ _ _ _)
   | (with_reducible exact step_place.mono _ _ _)
   | (with_reducible exact LeO.refl _)
   | (with_reducible exact LeO.none _)
   | (with_reducible refine LeO.ite ?_ ?_)
   | (with_reducible refine LeO.bind ?_ (fun _ => ?_))
   | exact ih0 _ _ _ _
   | exact step_place.mono _ _ _
   | exact LeO.none _
   | refine LeO.ite ?_ ?_
   | refine LeO.bind ?_ (fun _ => ?_)
set_option maxHeartbeats 8000000 in
set_option maxRecDepth 100000 in
theorem step_least.calls (k : Nat) (A0 : Option Addr) (c0 : Nat) (l0 : List (S45)) (a1 : Int) (a2 : Int) (r : Int) (w : World) (hr0 : Kd.C k45 w A0 l0.length l0) (hc0 : l0.length ≤ c0) (h : step_least.f k l0 a1 a2 = some r) :
  Calls Try.prog 51 #[.slice A0 l0.length c0, .int .i64 a1, .int .i64 a2] w fun e w' => e = .returned (.int .i64 r) ∧ Below w.heap.size w w' := by
 have HR0 := Aside0.mk hr0
 have HC0 := Aside0.mk hc0
 clear hr0 hc0
 have HB := Aside0.mk (Below.refl w.heap.size w)
 have H : ((step_place.f k l0 a1).bind fun t129 => (step_least.l0 k l0 a2 1048576 t129)) = some r := h
 clear h
 replace H := Option.bind_eq_some_iff.mp H
 obtain ⟨t129, A40, H⟩ := H
 replace H : (step_least.l0 k l0 a2 1048576 t129) = some r := H
 have A4 := Aside0.mk A40
 clear A40
 have H' := Aside0.mk H
 clear H
 go_enter Try.func51, Try.ntmps51
 go_wp2_with (first | ((with_reducible refine gate_callee (f := 48) rfl ?_); refine goesL_ (some 11) rfl rfl Try.func48 (by kernel_rfl) rfl #[.slice A0 l0.length c0, .int .i64 a1] rfl (by (try simp only [List.map_toArray, List.map_cons, List.map_nil]); first | done | rfl | (simp only [List.length_drop, List.length_take]; rfl)) ?_; (with_reducible refine (step_place.calls k _ _ l0 a1 t129 _ ?side1 ?side2 A4.out).mono ?_); (case side1 => repeat (first | exact HR0.out | (with_reducible refine Kd.C_alloc ?_ _) | (with_reducible refine Kd.C_drewN ?_ _) | (with_reducible refine Kd.C_drew ?_))); (case side2 => exact HC0.out); rintro e w5 ⟨rfl, hb⟩; refine ⟨_, rfl, ?_⟩; have n0_ := Aside0.mk (below_step (by repeat (first | (with_reducible first | exact HB.out | apply below_alloc | apply pw_below_drewN | apply below_drew1) | exact HB.out)) hb); clear HB; have HB := n0_; clear n0_; (try clear hb); (try clear hb2); (try clear hk); (try clear hi)))
 go_loopg [7, 8] k (fun kq v7 v8 w' => ∃ (x7_1 : Int) (x8_1 : Int), v7 = .int .i64 x7_1 ∧ v8 = .int .i64 x8_1 ∧ Aside0 (step_least.l0 kq l0 a2 x7_1 x8_1 = some r) ∧ Aside0 (kq ≤ k) ∧ Aside0 (Below w.heap.size w w'))
 case atStart => exact ⟨(1048576), (t129), (by first | rfl | (simp; done) | (simp [*]; done)), (by first | rfl | (simp; done) | (simp [*]; done)), H', ⟨Nat.le_refl _⟩, ⟨by repeat (first | (with_reducible first | exact HB.out | apply below_alloc | apply pw_below_drewN | apply below_drew1) | exact HB.out)⟩⟩
 case round =>
  clear H'
  try clear p2
  try clear c4
  try clear c5
  obtain ⟨x7_1, x8_1, rfl, rfl, HA, HK1, HB⟩ := hrel
  cases gk with
  | zero => exact absurd HA.out (by simp [step_least.l0])
  | succ k1 =>
   have H := HA.out
   clear HA
   simp only [step_least.l0] at H
   by_cases c6 : x8_1 < (l0.length : Int)
   ·rw [if_pos c6] at H
    have c6b0 : decide (x8_1 < (l0.length : Int)) = true := decide_eq_true c6
    clear c6
    by_cases c7 : 0 ≤ x8_1
    ·rw [if_pos c7] at H
     have c7b0 : decide (0 ≤ x8_1) = true := decide_eq_true c7
     clear c7
     by_cases c8 : ((rd_T45 l0 x8_1).f0) < a2
     ·rw [if_pos c8] at H
      have c8b0 : decide (((rd_T45 l0 x8_1).f0) < a2) = true := decide_eq_true c8
      clear c8
      obtain ⟨ji9, hji9⟩ : ∃ j_ : Int, (mn x7_1 ((rd_T45 l0 x8_1).f1)) = j_ := ⟨_, rfl⟩
      replace H : (step_least.l0 k1 l0 a2 ji9 (wrap64 (x8_1 + 1))) = some r := by first | (rw [hji9] at H; exact H) | (simp only [hji9] at H ⊢; exact H)
      have hji9_ : (if ((rd_T45 l0 x8_1).f1) < x7_1 then ((rd_T45 l0 x8_1).f1) else x7_1) = ji9 := hji9
      have H' := Aside0.mk H
      clear H
      have p130 : 0 ≤ (x8_1 : Int) := of_decide_eq_true (by first | (with_reducible assumption) | assumption)
      have q130 : x8_1 < (l0.length : Int) := of_decide_eq_true (by first | (with_reducible assumption) | assumption)
      obtain ⟨ad130, e130, hx130_0, hx130_1⟩ := at_T45 HR0.out x8_1 p130 q130
      cases e130
      replace hx130_0 := (HB.out.cell (World.block_lt_of_cell? w _ hx130_0)).trans hx130_0
      replace hx130_1 := (HB.out.cell (World.block_lt_of_cell? w _ hx130_1)).trans hx130_1
      replace p130 := eq_true p130
      replace q130 := eq_true q130
      have p131 : 0 ≤ (x8_1 : Int) := of_decide_eq_true (by first | (with_reducible assumption) | assumption)
      have q131 : x8_1 < (l0.length : Int) := of_decide_eq_true (by first | (with_reducible assumption) | assumption)
      obtain ⟨ad131, e131, hx131_0, hx131_1⟩ := at_T45 HR0.out x8_1 p131 q131
      obtain rfl : ad130 = ad131 := (by injection e131)
      replace hx131_0 := (HB.out.cell (World.block_lt_of_cell? w _ hx131_0)).trans hx131_0
      replace hx131_1 := (HB.out.cell (World.block_lt_of_cell? w _ hx131_1)).trans hx131_1
      replace p131 := eq_true p131
      replace q131 := eq_true q131
      go_wp2
      go_roundg k1
      case measure => have := HK1.out; omega
      case rel => exact ⟨(ji9), (wrap64 (x8_1 + 1)), (by first | rfl | (simp; done) | (simp only [← hji9] <;> (first | rfl | simp)) | (simp [*]; done)), (by first | rfl | (simp; done) | (simp [*]; done)), H', ⟨by have := HK1.out; omega⟩, ⟨by repeat (first | (with_reducible first | exact HB.out | apply below_alloc | apply pw_below_drewN | apply below_drew1) | exact HB.out)⟩⟩
     ·rw [if_neg c8] at H
      have c8b0 : decide (((rd_T45 l0 x8_1).f0) < a2) = false := decide_eq_false c8
      clear c8
      obtain rfl := Option.some.inj H
      have p130 : 0 ≤ (x8_1 : Int) := of_decide_eq_true (by first | (with_reducible assumption) | assumption)
      have q130 : x8_1 < (l0.length : Int) := of_decide_eq_true (by first | (with_reducible assumption) | assumption)
      obtain ⟨ad130, e130, hx130_0, hx130_1⟩ := at_T45 HR0.out x8_1 p130 q130
      cases e130
      replace hx130_0 := (HB.out.cell (World.block_lt_of_cell? w _ hx130_0)).trans hx130_0
      replace hx130_1 := (HB.out.cell (World.block_lt_of_cell? w _ hx130_1)).trans hx130_1
      replace p130 := eq_true p130
      replace q130 := eq_true q130
      go_wp2
      go_ret
      exact ⟨by first | rfl | (simp [errW_none, errW_some] <;> rfl) | (simp [*, errW_none, errW_some] <;> rfl), by repeat (first | (with_reducible first | exact HB.out | apply below_alloc | apply pw_below_drewN | apply below_drew1) | exact HB.out)⟩
    ·rw [if_neg c7] at H
     exact absurd H (by simp)
   ·rw [if_neg c6] at H
    have c6b0 : decide (x8_1 < (l0.length : Int)) = false := decide_eq_false c6
    clear c6
    obtain rfl := Option.some.inj H
    go_wp2
    go_ret
    exact ⟨by first | rfl | (simp [errW_none, errW_some] <;> rfl) | (simp [*, errW_none, errW_some] <;> rfl), by repeat (first | (with_reducible first | exact HB.out | apply below_alloc | apply pw_below_drewN | apply below_drew1) | exact HB.out)⟩

def step_Least.f (k : Nat) (l0 : List (S45)) (a1 : Int) (a2 : Int) : Option (Int × Int) := (step_may.f k l0 a1 a2).bind fun t132 => (if t132 = true then ((step_least.f k l0 a1 a2).bind fun t133 => (some (t133, 0))) else (some (0, 1)))
theorem step_Least.mono : ∀ a0 a1 a2 k, LeO (step_Least.f k a0 a1 a2) (step_Least.f (k + 1) a0 a1 a2) := by
 intro a0 a1 a2 k
 unfold step_Least.f
 repeat' first
   | (with_reducible exact step_least.mono _ _ _ _)
   | (with_reducible exact step_may.mono _ _ _ _)
   | (with_reducible exact LeO.refl _)
   | (with_reducible exact LeO.none _)
   | (with_reducible refine LeO.ite ?_ ?_)
   | (with_reducible refine LeO.bind ?_ (fun _ => ?_))
   | exact step_least.mono _ _ _ _
   | exact step_may.mono _ _ _ _
   | exact LeO.none _
   | refine LeO.ite ?_ ?_
   | refine LeO.bind ?_ (fun _ => ?_)
set_option maxHeartbeats 8000000 in
set_option maxRecDepth 100000 in
theorem step_Least.calls (k : Nat) (A0 : Option Addr) (c0 : Nat) (l0 : List (S45)) (a1 : Int) (a2 : Int) (r1 : Int) (r2 : Int) (w : World) (hr0 : Kd.C k45 w A0 l0.length l0) (hc0 : l0.length ≤ c0) (h : step_Least.f k l0 a1 a2 = some (r1, r2)) :
  Calls Try.prog 19 #[.slice A0 l0.length c0, .int .i64 a1, .int .i64 a2] w fun e w' => e = .returned (.tuple #[.int .i64 r1, .int .i64 r2]) ∧ Below w.heap.size w w' := by
 have HR0 := Aside0.mk hr0
 have HC0 := Aside0.mk hc0
 clear hr0 hc0
 have HB := Aside0.mk (Below.refl w.heap.size w)
 have H : ((step_may.f k l0 a1 a2).bind fun t132 => (if t132 = true then ((step_least.f k l0 a1 a2).bind fun t133 => (some (t133, 0))) else (some (0, 1)))) = some (r1, r2) := h
 clear h
 replace H := Option.bind_eq_some_iff.mp H
 obtain ⟨t132, A40, H⟩ := H
 replace H : (if t132 = true then ((step_least.f k l0 a1 a2).bind fun t133 => (some (t133, 0))) else (some (0, 1))) = some (r1, r2) := H
 have A4 := Aside0.mk A40
 clear A40
 by_cases c5 : t132 = true
 ·subst c5
  have H1 : ((step_least.f k l0 a1 a2).bind fun t133 => (some (t133, 0))) = some (r1, r2) := by rw [if_pos rfl] at H; exact H
  clear H
  have H := H1
  clear H1
  replace H := Option.bind_eq_some_iff.mp H
  obtain ⟨t133, A60, H⟩ := H
  replace H : (some (t133, 0)) = some (r1, r2) := H
  have A6 := Aside0.mk A60
  clear A60
  simp only [Option.some.injEq, Prod.mk.injEq] at H
  obtain ⟨rfl, rfl⟩ := H
  go_enter Try.func19, Try.ntmps19
  go_wp2_with (first | ((with_reducible refine gate_callee (f := 50) rfl ?_); refine goesL_ (some 11) rfl rfl Try.func50 (by kernel_rfl) rfl #[.slice A0 l0.length c0, .int .i64 a1, .int .i64 a2] rfl (by (try simp only [List.map_toArray, List.map_cons, List.map_nil]); first | done | rfl | (simp only [List.length_drop, List.length_take]; rfl)) ?_; (with_reducible refine (step_may.calls k _ _ l0 a1 a2 true _ ?side1 ?side2 A4.out).mono ?_); (case side1 => repeat (first | exact HR0.out | (with_reducible refine Kd.C_alloc ?_ _) | (with_reducible refine Kd.C_drewN ?_ _) | (with_reducible refine Kd.C_drew ?_))); (case side2 => exact HC0.out); rintro e w7 ⟨rfl, hb⟩; refine ⟨_, rfl, ?_⟩; have n0_ := Aside0.mk (below_step (by repeat (first | (with_reducible first | exact HB.out | apply below_alloc | apply pw_below_drewN | apply below_drew1) | exact HB.out)) hb); clear HB; have HB := n0_; clear n0_; (try clear hb); (try clear hb2); (try clear hk); (try clear hi)) | ((with_reducible refine gate_callee (f := 51) rfl ?_); refine goesL_ (some 16) rfl rfl Try.func51 (by kernel_rfl) rfl #[.slice A0 l0.length c0, .int .i64 a1, .int .i64 a2] rfl (by (try simp only [List.map_toArray, List.map_cons, List.map_nil]); first | done | rfl | (simp only [List.length_drop, List.length_take]; rfl)) ?_; (with_reducible refine (step_least.calls k _ _ l0 a1 a2 t133 _ ?side1 ?side2 A6.out).mono ?_); (case side1 => repeat (first | exact (Kd.C_below HR0.out HB.out) | (with_reducible refine Kd.C_alloc ?_ _) | (with_reducible refine Kd.C_drewN ?_ _) | (with_reducible refine Kd.C_drew ?_))); (case side2 => exact HC0.out); rintro e w8 ⟨rfl, hb⟩; refine ⟨_, rfl, ?_⟩; have n0_ := Aside0.mk (below_step (by repeat (first | (with_reducible first | exact HB.out | apply below_alloc | apply pw_below_drewN | apply below_drew1) | exact HB.out)) hb); clear HB; have HB := n0_; clear n0_; (try clear hb); (try clear hb2); (try clear hk); (try clear hi)))
  go_ret2
  exact ⟨by first | rfl | (simp [errW_none, errW_some] <;> rfl) | (simp [*, errW_none, errW_some] <;> rfl), by repeat (first | (with_reducible first | exact HB.out | apply below_alloc | apply pw_below_drewN | apply below_drew1) | exact HB.out)⟩
 ·replace c5 := Bool.eq_false_iff.mpr c5
  subst c5
  have H1 : (some (0, 1)) = some (r1, r2) := by rw [if_neg (show ¬ (false = true) by decide)] at H; exact H
  clear H
  have H := H1
  clear H1
  simp only [Option.some.injEq, Prod.mk.injEq] at H
  obtain ⟨rfl, rfl⟩ := H
  go_enter Try.func19, Try.ntmps19
  go_wp2_with (first | ((with_reducible refine gate_callee (f := 50) rfl ?_); refine goesL_ (some 11) rfl rfl Try.func50 (by kernel_rfl) rfl #[.slice A0 l0.length c0, .int .i64 a1, .int .i64 a2] rfl (by (try simp only [List.map_toArray, List.map_cons, List.map_nil]); first | done | rfl | (simp only [List.length_drop, List.length_take]; rfl)) ?_; (with_reducible refine (step_may.calls k _ _ l0 a1 a2 false _ ?side1 ?side2 A4.out).mono ?_); (case side1 => repeat (first | exact HR0.out | (with_reducible refine Kd.C_alloc ?_ _) | (with_reducible refine Kd.C_drewN ?_ _) | (with_reducible refine Kd.C_drew ?_))); (case side2 => exact HC0.out); rintro e w9 ⟨rfl, hb⟩; refine ⟨_, rfl, ?_⟩; have n0_ := Aside0.mk (below_step (by repeat (first | (with_reducible first | exact HB.out | apply below_alloc | apply pw_below_drewN | apply below_drew1) | exact HB.out)) hb); clear HB; have HB := n0_; clear n0_; (try clear hb); (try clear hb2); (try clear hk); (try clear hi)))
  go_ret2
  exact ⟨by first | rfl | (simp [errW_none, errW_some] <;> rfl) | (simp [*, errW_none, errW_some] <;> rfl), by repeat (first | (with_reducible first | exact HB.out | apply below_alloc | apply pw_below_drewN | apply below_drew1) | exact HB.out)⟩

def slices_Clone_api_Step_api_Step.f (l0 : List (S45)) : Option ((List (S45))) := (some (([] : List (S45)) : List (S45))).bind fun y134 => (if y134.length + l0.length < 8796093022208 then (some (y134 ++ l0)) else (none))
set_option maxHeartbeats 8000000 in
set_option maxRecDepth 100000 in
theorem slices_Clone_api_Step_api_Step.calls_some (A0 : Addr) (c0 : Nat) (l0 : List (S45)) (r : List (S45)) (w : World) (hr0 : Kd.C k45 w (some A0) l0.length l0) (hc0 : l0.length ≤ c0) (h : slices_Clone_api_Step_api_Step.f l0 = some r) :
  Calls Try.prog 53 #[.slice (some A0) l0.length c0] w fun e w' => ∃ v0_ : Value, e = .returned (v0_) ∧ Kd.R k45 45 w' w.heap.size (fun _ => True) v0_ r ∧ Below w.heap.size w w' := by
 have HR0 := Aside0.mk hr0
 have HC0 := Aside0.mk hc0
 clear hr0 hc0
 have HB := Aside0.mk (Below.refl w.heap.size w)
 have H : ((some (([] : List (S45)) : List (S45))).bind fun y134 => (if y134.length + l0.length < 8796093022208 then (some (y134 ++ l0)) else (none))) = some r := h
 clear h
 obtain ⟨y134, hy134⟩ : ∃ y_ : List (S45), y_ = (([] : List (S45))) := ⟨_, rfl⟩
 replace H : (if y134.length + l0.length < 8796093022208 then (some (y134 ++ l0)) else (none)) = some r := by first | (rw [hy134]; with_reducible exact H) | (have H2_ := (Option.bind_some _ _).symm.trans H; rw [hy134]; with_reducible exact H2_) | (have H2_ := (Option.bind_some _ _).symm.trans H; with_reducible exact H2_) | with_reducible exact H | (rw [hy134]; exact H) | exact H
 have Ny134 := Aside0.mk hy134
 clear hy134
 by_cases c2 : y134.length + l0.length < 8796093022208
 ·rw [if_pos c2] at H
  have LMc2 := Aside0.mk c2
  clear c2
  obtain ⟨y137, hy137⟩ : ∃ y_ : List (S45), y_ = (y134 ++ l0) := ⟨_, rfl⟩
  replace H : (some y137) = some r := by first | (rw [hy137]; with_reducible exact H) | (have H2_ := (Option.bind_some _ _).symm.trans H; rw [hy137]; with_reducible exact H2_) | (have H2_ := (Option.bind_some _ _).symm.trans H; with_reducible exact H2_) | with_reducible exact H | (rw [hy137]; exact H) | exact H
  have Ny137 := Aside0.mk hy137
  clear hy137
  obtain rfl := Option.some.inj H
  have hnil_ := fun (W : World) => Lib.run_eql_slice_nil (P := Try.prog) W 22 45 (some A0) l0.length c0 0 0 Try.underlying22
  go_enter Try.func53, Try.ntmps53
  go_wp2_with (first | ((with_reducible refine gate_dst (N := 5) rfl ?_); refine Kd.R_lit k45 _ 45 ?hg (N := 5) ?hd (xs := ([] : List (S45))) (inner := []) (ok := fun _ => True) (okp := fun _ => True) ?hr ?hp (fun _ hk => hk) trivial (Below.refl _ _) (Nat.le_refl _) (by simp) ?_; (case hd => rfl); (case hg => rfl); (case hr => first | (go_simp; done) | (go_simp; rfl)); (case hp => exact (Reps.none _ _)); intro v135 w3 ho4 hb hg_ hnew_; clear hg_ hnew_; (first | rw [← Ny134.out] at ho4 | (simp only [Int.reduceToNat] at ho4; rw [← Ny134.out] at ho4)); have n0_ := Aside0.mk (Kd.R_lower ho4 (below_size (by repeat (first | (with_reducible first | exact HB.out | apply below_alloc | apply pw_below_drewN | apply below_drew1) | exact HB.out)))); have n1_ := Aside0.mk (below_step (by repeat (first | (with_reducible first | exact HB.out | apply below_alloc | apply pw_below_drewN | apply below_drew1) | exact HB.out)) hb); clear HB; have HO136 := n0_; have HB := n1_; clear n0_ n1_; clear hb ho4) | ((with_reducible refine gate_builtin (b := .append) (xs := #[.tmp 5, .tmp 6]) rfl ?_); at_builtin; refine Kd.R_append_rows k45 (w0 := w) w.heap.size rfl (.tmp 5) (.tmp 6) 22 45 (.agg #[(.int .i64 0), (.int .i64 0)]) 16 rfl Try.underlying22 info45 rfl (by decide) (by omega) v135 y134 l0 _ _ _ (fun _ => True) (fun _ => False) rfl rfl ?aO ?aR (fun _ _ h => h) (fun _ h => h.elim) ?aF ?aB ?aS ?aL ?_; (case aR => repeat (first | exact (Kd.C_below HR0.out HB.out) | (with_reducible refine Kd.C_alloc ?_ _) | (with_reducible refine Kd.C_drewN ?_ _) | (with_reducible refine Kd.C_drew ?_))); (case aB => exact (by repeat (first | (with_reducible first | exact HB.out | apply below_alloc | apply pw_below_drewN | apply below_drew1) | exact HB.out))); (case aF => exact (fun _ _ => trivial)); (case aO => exact (by (with_reducible repeat (first | apply Kd.R_alloc | apply Kd.R_drewN | apply Kd.R_drew)); exact HO136.out)); (case aS => exact (below_size (by repeat (first | (with_reducible first | exact HB.out | apply below_alloc | apply pw_below_drewN | apply below_drew1) | exact HB.out)))); (case aL => have := LMc2.out; omega); intro v138 w5 ho hb hg hat; rw [← Ny137.out] at ho; have n0_ := Aside0.mk (hb); have n1_ := Aside0.mk (ho); clear HB; clear HO136; have HB := n0_; have HO139 := n1_; clear n0_ n1_; clear ho hb hg hat))
  go_ret
  exact ⟨_, by first | rfl | (simp [errW_none, errW_some] <;> rfl) | (simp [*, errW_none, errW_some] <;> rfl), by (with_reducible repeat (first | apply Kd.R_alloc | apply Kd.R_drewN | apply Kd.R_drew)); exact HO139.out, by repeat (first | (with_reducible first | exact HB.out | apply below_alloc | apply pw_below_drewN | apply below_drew1) | exact HB.out)⟩
 ·rw [if_neg c2] at H
  exact absurd H (by simp)
set_option maxHeartbeats 8000000 in
set_option maxRecDepth 100000 in
theorem slices_Clone_api_Step_api_Step.calls (A0 : Option Addr) (c0 : Nat) (l0 : List (S45)) (r : List (S45)) (w : World) (hr0 : Kd.C k45 w A0 l0.length l0) (hc0 : l0.length ≤ c0) (h : slices_Clone_api_Step_api_Step.f l0 = some r) :
  Calls Try.prog 53 #[.slice A0 l0.length c0] w fun e w' => ∃ v0_ : Value, e = .returned (v0_) ∧ Kd.R k45 45 w' w.heap.size (fun _ => True) v0_ r ∧ Below w.heap.size w w' := by
 cases A0 with
 | some A0 => exact slices_Clone_api_Step_api_Step.calls_some A0 c0 l0 r w hr0 hc0 h
 | none =>
  have he : l0 = [] := by
   cases l0 with
   | nil => rfl
   | cons x xs => obtain ⟨ad, e, _⟩ := hr0.2.2 (by simp); cases e
  subst he
  have hr_ : r = [] := by simpa [slices_Clone_api_Step_api_Step.f] using h.symm
  subst hr_
  clear hr0 hc0 h
  have hnil_ := fun (W : World) => Lib.run_eql_slice_nil (P := Try.prog) W 22 45 none 0 c0 0 0 Try.underlying22
  go_enter Try.func53, Try.ntmps53
  go_wp2
  go_ret
  exact ⟨_, rfl, Kd.R_nil _ _ _ _ _, Below.refl _ _⟩

end Go.Proofs.Ytimllhflecippaa.F
end

section
namespace Go.Proofs.Ytimllhflecippaa.F
open Go.RowKit Go.Proofs.YtimllhflecippaaW.PrintWords Go.Proofs.YtimllhflecippaaW.PrintLast Go.Proofs.YtimllhflecippaaW.PrintMore
attribute [local go_sem] max2_int min2_int max_two min_two
set_option linter.unusedVariables false
set_option linter.unusedSimpArgs false

def when_Meets.f (a0 : Int) (a1 : Int) (a2 : Int) (a3 : Int) : Option (Bool) := some (decide ((mx a0 a2) < (mn a1 a3)))
set_option maxHeartbeats 8000000 in
set_option maxRecDepth 100000 in
theorem when_Meets.calls (a0 : Int) (a1 : Int) (a2 : Int) (a3 : Int) (r : Bool) (w : World) (h : when_Meets.f a0 a1 a2 a3 = some r) :
  Calls Try.prog 70 #[.int .i64 a0, .int .i64 a1, .int .i64 a2, .int .i64 a3] w fun e w' => e = .returned (.bool r) ∧ Below w.heap.size w w' := by
 have HB := Aside0.mk (Below.refl w.heap.size w)
 have H : (some (decide ((mx a0 a2) < (mn a1 a3)))) = some r := h
 clear h
 obtain ⟨ji5, hji5⟩ : ∃ j_ : Int, (mx a0 a2) = j_ := ⟨_, rfl⟩
 replace H : (some (decide ((ji5) < (mn a1 a3)))) = some r := by first | (rw [hji5] at H; exact H) | (simp only [hji5] at H ⊢; exact H)
 have hji5_ : (if a0 < a2 then a2 else a0) = ji5 := hji5
 obtain ⟨ji6, hji6⟩ : ∃ j_ : Int, (mn a1 a3) = j_ := ⟨_, rfl⟩
 replace H : (some (decide ((ji5) < (ji6)))) = some r := by first | (rw [hji6] at H; exact H) | (simp only [hji6] at H ⊢; exact H)
 have hji6_ : (if a3 < a1 then a3 else a1) = ji6 := hji6
 obtain rfl := Option.some.inj H
 go_enter Try.func70, Try.ntmps70
 go_wp2
 go_ret
 exact ⟨by first | rfl | (simp [errW_none, errW_some] <;> rfl) | (simp only [← hji5, ← hji6]; first | rfl | (simp [errW_none, errW_some] <;> rfl)) | (simp [*, errW_none, errW_some] <;> rfl), by repeat (first | (with_reducible first | exact HB.out | apply below_alloc | apply pw_below_drewN | apply below_drew1) | exact HB.out)⟩

/-- A step is added, if it says something else. -/
def addS (out : List S45) (at_ free : Int) : List S45 := if out.getLast?.map (·.f1) = some free then out else out ++ [⟨at_, free⟩]
theorem addS_len (out : List S45) (a f : Int) : (addS out a f).length ≤ out.length + 1 := by unfold addS; split <;> simp
/-- What the literal that adds leaves: the variable's block g, and the row. -/
def AddPost (base : Nat) (ok : Nat → Prop) (g : Nat) (v : Value) (xs : List S45) (w0 w : World) (e : Ending) (w' : World) : Prop :=
 e = .returned (.tuple #[]) ∧ ∃ v', w'.heap[g]? = some (.cells #[v'] 22 (0, 0)) ∧ Kd.R k45 45 w' base ok v' xs ∧ Below base w0 w' ∧ Kept w w' (fun k => k = g ∨ some k = v.ownBlock)
set_option maxHeartbeats 8000000 in
set_option maxRecDepth 100000 in
theorem add_calls (at_ free : Int) (g base : Nat) (ok : Nat → Prop) (v : Value) (xs : List S45) (w0 w : World) (hcell : w.heap[g]? = some (.cells #[v] 22 (0, 0))) (hR : Kd.R k45 45 w base ok v xs) (hok : ∀ k, ok k → k ≠ g) (hfr : ∀ k, w.heap.size ≤ k → ok k)
  (hB : Below base w0 w) (hbase : base ≤ w.heap.size) (hg : base ≤ g) (hl : xs.length < 8796093022200) :
  Calls Try.prog 69 #[.int .i64 at_, .int .i64 free, .pointer (some ⟨g, 0, none⟩)] w (AddPost base ok g v (addS xs at_ free) w0 w) := by
 obtain ⟨A, c, rfl, hc, hC⟩ := Kd.R_reads hR
 have HC := Aside0.mk hC
 have HB := Aside0.mk hB
 have HR := Aside0.mk hR
 have hc0 : w.cell? ⟨g, 0, none⟩ = some (.slice A xs.length c) := (blk_cell hcell 0).trans rfl
 have hfz : w.frozen? ⟨g, 0, none⟩ = false := blk_frozen hcell 0
 have HH := Aside0.mk hcell
 have HOK := Aside0.mk hok
 have HFR := Aside0.mk hfr
 have HL := Aside0.mk hl
 have HX := Aside0.mk hbase
 have HG := Aside0.mk hg
 clear hcell hok hfr hl hbase hg hB hR hC
 by_cases h0 : xs.length = 0
 ·have hx : xs = [] := List.eq_nil_of_length_eq_zero h0
  subst hx
  clear h0
  go_enter Try.func69, Try.ntmps69
  go_wp2_with (first | ((with_reducible refine gate_builtin (b := .append) (xs := #[.tmp 19, .tmp 23]) rfl ?_); at_builtin; (refine Kd.R_append k45 (w0 := w0) base rfl (.tmp 19) (.tmp 23) 22 45 (.agg #[(.int .i64 0), (.int .i64 0)]) 16 rfl Try.underlying22 info45 rfl (by decide) (by omega) (.slice A 0 c) ([] : List S45) (⟨at_, free⟩ : S45) [.int .i64 at_, .int .i64 free] ok (fun _ => False) rfl rfl ?aP (fun _ hk => hk.elim) ?aF ?aO ?aB ?aS ?aL ?_; (case aP => exact k45_mkM _ _ _ (⟨at_, free⟩ : S45)); (case aB => exact HB.out); (case aF => exact HFR.out); (case aO => exact HR.out); (case aS => exact HX.out); (case aL => have := HL.out; (try simp only [List.length_nil] at this ⊢); omega); intro v1 w1 ho hb hg_ hat; have HO1 := Aside0.mk ho; have HB1 := Aside0.mk hb; have HG1 := Aside0.mk hg_; have hne_ := Kd.R_away HR.out HOK.out; have hh1 := blk_grown HH.out hg_ hne_; have hc1 : w1.cell? ⟨g, 0, none⟩ = some (.slice A 0 c) := (blk_cell hh1 0).trans rfl; have hf1 : w1.frozen? ⟨g, 0, none⟩ = false := blk_frozen hh1 0; have HH1 := Aside0.mk hh1; clear ho hb hg_ hat hne_ hh1; obtain ⟨A1, c1, ev1⟩ := Kd.R_slice HO1.out; subst ev1)))
  go_end0
  exact ⟨rfl, _, by simpa using blk_set HH1.out 0 _, by rw [show addS [] at_ free = [] ++ [⟨at_, free⟩] from rfl]; exact Kd.R_far (p := ⟨g, 0, none⟩) HO1.out HOK.out _, HB1.out.setCell HG.out _, Nat.le_trans HG1.out.size (by simp), fun i hi hn => by
   rw [Below.heap_setCell w1 ⟨g, 0, none⟩ _ i (fun e => hn (.inl e))]
   exact HG1.out.block i hi (fun e => hn (.inr e))⟩
 ·have p1 : (0 : Int) ≤ (xs.length : Int) - 1 := by omega
  have q1 : (xs.length : Int) - 1 < (xs.length : Int) := by omega
  obtain ⟨ad, e, hx0, hx1⟩ := at_T45 HC.out ((xs.length : Int) - 1) p1 q1
  cases e
  rw [show ((xs.length : Int) - 1).toNat = xs.length - 1 by omega] at hx0 hx1
  replace p1 := eq_true p1
  replace q1 := eq_true q1
  have hne0 : ((xs.length : Int) == 0) = false := by simpa using h0
  have hn0 : 0 < xs.length := by omega
  have hlast : xs.getLast? = some (rd_T45 xs ((xs.length : Int) - 1)) := by
   unfold rd_T45
   rw [List.getLast?_eq_getElem?, List.getD_eq_getElem?_getD, show ((xs.length : Int) - 1).toNat = xs.length - 1 by omega, List.getElem?_eq_getElem (by omega)]
   rfl
  have HLs := Aside0.mk hlast
  clear hlast h0
  have hb1 := HL.out
  by_cases hf : (rd_T45 xs ((xs.length : Int) - 1)).f1 = free
  ·have hfb : ((rd_T45 xs ((xs.length : Int) - 1)).f1 != free) = false := by simpa using hf
   have EQ := Aside0.mk (show addS xs at_ free = xs by unfold addS; rw [HLs.out, if_pos (by simp [hf])])
   clear hf
   go_enter Try.func69, Try.ntmps69
   go_wp2
   go_end0
   exact ⟨rfl, _, HH.out, by rw [EQ.out]; exact HR.out, HB.out, Kept.refl _ _⟩
  ·have hfb : ((rd_T45 xs ((xs.length : Int) - 1)).f1 != free) = true := by simpa using hf
   have EQ := Aside0.mk (show addS xs at_ free = xs ++ [⟨at_, free⟩] by unfold addS; rw [HLs.out, if_neg (by simp [hf])])
   clear hf
   go_enter Try.func69, Try.ntmps69
   go_wp2_with (first | ((with_reducible refine gate_builtin (b := .append) (xs := #[.tmp 19, .tmp 23]) rfl ?_); at_builtin; refine Kd.R_append k45 (w0 := w0) base rfl (.tmp 19) (.tmp 23) 22 45 (.agg #[(.int .i64 0), (.int .i64 0)]) 16 rfl Try.underlying22 info45 rfl (by decide) (by omega) (.slice (some ad) xs.length c) xs (⟨at_, free⟩ : S45) [.int .i64 at_, .int .i64 free] ok (fun _ => False) rfl rfl ?aP (fun _ hk => hk.elim) ?aF ?aO ?aB ?aS ?aL ?_; (case aP => exact k45_mkM _ _ _ (⟨at_, free⟩ : S45)); (case aB => exact HB.out); (case aF => exact HFR.out); (case aO => exact HR.out); (case aS => exact HX.out); (case aL => have := HL.out; (try simp only [List.length_nil] at this ⊢); omega); intro v1 w1 ho hb hg_ hat; have HO1 := Aside0.mk ho; have HB1 := Aside0.mk hb; have HG1 := Aside0.mk hg_; have hne_ := Kd.R_away HR.out HOK.out; have hh1 := blk_grown HH.out hg_ hne_; have hc1 : w1.cell? ⟨g, 0, none⟩ = some (.slice (some ad) xs.length c) := (blk_cell hh1 0).trans rfl; have hf1 : w1.frozen? ⟨g, 0, none⟩ = false := blk_frozen hh1 0; have HH1 := Aside0.mk hh1; clear ho hb hg_ hat hne_ hh1; obtain ⟨A1, c1, ev1⟩ := Kd.R_slice HO1.out; subst ev1; rw [show (xs ++ [(⟨at_, free⟩ : S45)]).length = xs.length + 1 by simp] at HO1))
   go_end0
   exact ⟨rfl, _, by simpa using blk_set HH1.out 0 _, by rw [EQ.out]; exact Kd.R_far (p := ⟨g, 0, none⟩) HO1.out HOK.out _, HB1.out.setCell HG.out _, Nat.le_trans HG1.out.size (by simp), fun i hi hn => by
   rw [Below.heap_setCell w1 ⟨g, 0, none⟩ _ i (fun e => hn (.inl e))]
   exact HG1.out.block i hi (fun e => hn (.inr e))⟩

/-- One step of the change: the part ahead of the span, that in it, that behind it. -/
def plusE (l : List S45) (i : Nat) : Int := if (i : Int) + 1 < (l.length : Int) then (rd_T45 l ((i : Int) + 1)).f0 else 4611686018427387905
def plus1 (l : List S45) (f t n : Int) (i : Nat) (out : List S45) : List S45 := if (rd_T45 l i).f0 < f then addS out (rd_T45 l i).f0 (rd_T45 l i).f1 else out
def plus2 (l : List S45) (f t n : Int) (i : Nat) (out : List S45) : List S45 := if mx (rd_T45 l i).f0 f < mn (plusE l i) t then addS out (mx (rd_T45 l i).f0 f) (wrap64 ((rd_T45 l i).f1 + n)) else out
def plus3 (l : List S45) (f t n : Int) (i : Nat) (out : List S45) : List S45 := if t < plusE l i then addS out (mx (rd_T45 l i).f0 t) (rd_T45 l i).f1 else out
def plusS (l : List S45) (f t n : Int) (i : Nat) (out : List S45) : List S45 := plus3 l f t n i (plus2 l f t n i (plus1 l f t n i out))
def plusN (l : List S45) (f t n : Int) : Nat → List S45
 | 0 => []
 | i + 1 => plusS l f t n i (plusN l f t n i)
theorem plusS_len (l : List S45) (f t n : Int) (i : Nat) (out : List S45) : (plus1 l f t n i out).length ≤ out.length + 1 ∧ (plus2 l f t n i (plus1 l f t n i out)).length ≤ out.length + 2 ∧ (plusS l f t n i out).length ≤ out.length + 3 := by
 have h1 : (plus1 l f t n i out).length ≤ out.length + 1 := by
  unfold plus1
  split
  ·exact addS_len _ _ _
  ·omega
 have h2 : (plus2 l f t n i (plus1 l f t n i out)).length ≤ out.length + 2 := by
  generalize plus1 l f t n i out = o at h1
  unfold plus2
  split
  ·have := addS_len o (mx (rd_T45 l i).f0 f) (wrap64 ((rd_T45 l i).f1 + n)); omega
  ·omega
 refine ⟨h1, h2, ?_⟩
 unfold plusS
 generalize plus2 l f t n i (plus1 l f t n i out) = o at h2
 unfold plus3
 split
 ·have := addS_len o (mx (rd_T45 l i).f0 t) (rd_T45 l i).f1; omega
 ·omega
theorem plusN_len (l : List S45) (f t n : Int) : ∀ i, (plusN l f t n i).length ≤ 3 * i
 | 0 => by simp [plusN]
 | i + 1 => by
  have h1 := plusN_len l f t n i
  have h2 := (plusS_len l f t n i (plusN l f t n i)).2.2
  show (plusS l f t n i (plusN l f t n i)).length ≤ _
  omega
def step_plus.f (l0 : List S45) (a1 a2 a3 : Int) : Option (List S45) := if l0.length < 2000000000000 then some (plusN l0 a1 a2 a3 l0.length) else none
/-- The variable that the literal writes, and its row. -/
def PlusAt (g : Nat) (w0 w : World) (xs : List S45) : Prop := ∃ v, w.heap[g]? = some (.cells #[v] 22 (0, 0)) ∧ Kd.R k45 45 w g (fun k => k ≠ g) v xs ∧ Below g w0 w ∧ g < w.heap.size
/-- The same beside a step's variable at block h. -/
def PlusBox (g h : Nat) (w0 w : World) (xs : List S45) (s0 s1 : Int) : Prop := ∃ v, w.heap[g]? = some (.cells #[v] 22 (0, 0)) ∧ Kd.R k45 45 w g (fun k => k ≠ g ∧ k ≠ h) v xs ∧ Below g w0 w ∧ g < h ∧ w.heap[h]? = some (.cells #[.int .i64 s0, .int .i64 s1] 45 (0, 0))
theorem PlusBox.mk_ {g : Nat} {w0 w : World} {xs : List S45} (h : PlusAt g w0 w xs) (s0 s1 : Int) : PlusBox g w.heap.size w0 (w.alloc (.cells #[.int .i64 s0, .int .i64 s1] 45)) xs s0 s1 := by
 obtain ⟨v, h1, h2, h3, h4⟩ := h
 refine ⟨v, blk_alloc h1 _, Kd.R_alloc (Kd.R_mono (Kd.R_bound h2) (fun k hk => ⟨hk.1, by have := hk.2.2.1; omega⟩)) _, below_then h3 (Nat.le_of_lt h4) (below_alloc (Below.refl _ _) _), h4, blk_new _ _⟩
theorem PlusBox.below {g h : Nat} {w0 w w1 : World} {xs : List S45} {s0 s1 : Int} (hp : PlusBox g h w0 w xs s0 s1) (hb : Below w.heap.size w w1) : PlusBox g h w0 w1 xs s0 s1 := by
 obtain ⟨v, h1, h2, h3, h4, h5⟩ := hp
 exact ⟨v, blk_below h1 hb, Kd.R_below h2 hb, below_then h3 (Nat.le_of_lt (blk_lt h1)) hb, h4, blk_below h5 hb⟩
theorem PlusBox.cells {g h : Nat} {w0 w : World} {xs : List S45} {s0 s1 : Int} (hp : PlusBox g h w0 w xs s0 s1) : w.cell? ⟨h, 0, none⟩ = some (.int .i64 s0) ∧ w.cell? ⟨h, 1, none⟩ = some (.int .i64 s1) := by
 obtain ⟨v, h1, h2, h3, h4, h5⟩ := hp
 exact ⟨(blk_cell h5 0).trans rfl, (blk_cell h5 1).trans rfl⟩
theorem PlusBox.forget {g h : Nat} {w0 w : World} {xs : List S45} {s0 s1 : Int} (hp : PlusBox g h w0 w xs s0 s1) : PlusAt g w0 w xs := by
 obtain ⟨v, h1, h2, h3, h4, h5⟩ := hp
 exact ⟨v, h1, Kd.R_mono h2 (fun _ hk => hk.1), h3, blk_lt h1⟩
theorem add_at (at_ free : Int) (g h : Nat) (xs : List S45) (w0 w : World) (s0 s1 : Int) (hp : PlusBox g h w0 w xs s0 s1) (hl : xs.length < 8796093022200) :
  Calls Try.prog 69 #[.int .i64 at_, .int .i64 free, .pointer (some ⟨g, 0, none⟩)] w fun e w' => e = .returned (.tuple #[]) ∧ PlusBox g h w0 w' (addS xs at_ free) s0 s1 := by
 obtain ⟨v, h1, h2, h3, h4, h5⟩ := hp
 have hlt := blk_lt h5
 refine (add_calls at_ free g g (fun k => k ≠ g ∧ k ≠ h) v xs w0 w h1 h2 (fun k hk => hk.1) (fun k hk => ⟨by omega, by omega⟩) h3 (by omega) (Nat.le_refl _) hl).mono ?_
 rintro e w' ⟨rfl, v', k1, k2, k3, k4⟩
 refine ⟨rfl, v', k1, k2, k3, h4, (k4.2 h hlt (fun hs => ?_)).trans h5⟩
 rcases hs with hs | hs
 ·omega
 ·exact (h2.1 h hs.symm).2 rfl
set_option maxHeartbeats 8000000 in
set_option maxRecDepth 100000 in
theorem step_plus.calls (A0 : Option Addr) (c0 : Nat) (l0 : List S45) (a1 : Int) (a2 : Int) (a3 : Int) (r : List S45) (w : World) (hr0 : Kd.C k45 w A0 l0.length l0) (hc0 : l0.length ≤ c0) (h : step_plus.f l0 a1 a2 a3 = some r) :
  Calls Try.prog 65 #[.slice A0 l0.length c0, .int .i64 a1, .int .i64 a2, .int .i64 a3] w fun e w' => ∃ v0_ : Value, e = .returned (v0_) ∧ Kd.R k45 45 w' w.heap.size (fun _ => True) v0_ r ∧ Below w.heap.size w w' := by
 unfold step_plus.f at h
 by_cases hl : ¬ l0.length < 2000000000000
 ·rw [if_neg hl] at h; cases h
 replace hl : l0.length < 2000000000000 := by omega
 rw [if_pos hl] at h
 obtain rfl := Option.some.inj h
 clear h
 have HR0 := Aside0.mk hr0
 have HL := Aside0.mk hl
 clear hr0 hc0 hl
 have hb := HL.out
 have hmf : ∀ (fn : Fn) (first cap : Array Value) (w : World), (Instr.makeFunc fn first cap).run Try.prog w = .ok (.func fn first cap) w := fun _ _ _ _ => rfl
 go_enter Try.func65, Try.ntmps65
 go_wp2
 go_loopg [17] l0.length (fun kq v17 w' => ∃ i : Nat, v17 = .int .i64 i ∧ Aside0 (kq + i = l0.length) ∧ Aside0 (PlusAt w.heap.size w w' (plusN l0 a1 a2 a3 i)))
 case atStart =>
  exact ⟨0, rfl, ⟨rfl⟩, ⟨⟨_, blk_new _ _, Kd.R_nil _ _ _ _ _, below_alloc (Below.refl _ _) _, by simp⟩⟩⟩
 case round =>
  obtain ⟨i, rfl, HK, HP⟩ := hrel
  have hk := HK.out
  by_cases hlt : (i : Int) < (l0.length : Int)
  ·have p1 : (0 : Int) ≤ (i : Int) := by omega
   have hCr : Kd.C k45 wr A0 l0.length l0 := by
    obtain ⟨v, q1, q2, q3, q4⟩ := HP.out
    exact Kd.C_below HR0.out q3
   obtain ⟨ad, e, hx0, hx1⟩ := at_T45 hCr (i : Int) p1 hlt
   cases e
   rw [Int.toNat_natCast] at hx0 hx1
   obtain ⟨gm, rfl⟩ : ∃ m, gk = m + 1 := ⟨gk - 1, by omega⟩
   have hHB := PlusBox.mk_ HP.out (rd_T45 l0 (i : Int)).f0 (rd_T45 l0 (i : Int)).f1
   have hCr2 := Kd.C_alloc hCr (.cells #[.int .i64 (rd_T45 l0 (i : Int)).f0, .int .i64 (rd_T45 l0 (i : Int)).f1] 45)
   have hB0 : (plusN l0 a1 a2 a3 i).length < 8796093022200 ∧ (plus1 l0 a1 a2 a3 i (plusN l0 a1 a2 a3 i)).length < 8796093022200 ∧ (plus2 l0 a1 a2 a3 i (plus1 l0 a1 a2 a3 i (plusN l0 a1 a2 a3 i))).length < 8796093022200 := by
    have z1 := plusN_len l0 a1 a2 a3 i
    have z2 := plusS_len l0 a1 a2 a3 i (plusN l0 a1 a2 a3 i)
    omega
   have hS : plusN l0 a1 a2 a3 (i + 1) = plus3 l0 a1 a2 a3 i (plus2 l0 a1 a2 a3 i (plus1 l0 a1 a2 a3 i (plusN l0 a1 a2 a3 i))) := rfl
   have h1 := show plus1 l0 a1 a2 a3 i (plusN l0 a1 a2 a3 i) = (if (rd_T45 l0 i).f0 < a1 then addS (plusN l0 a1 a2 a3 i) (rd_T45 l0 i).f0 (rd_T45 l0 i).f1 else (plusN l0 a1 a2 a3 i)) from rfl
   generalize plusN l0 a1 a2 a3 i = o0 at hHB hB0 hS h1
   generalize plus1 l0 a1 a2 a3 i o0 = o1 at hB0 hS h1
   have h2 := show plus2 l0 a1 a2 a3 i o1 = (if mx (rd_T45 l0 i).f0 a1 < mn (plusE l0 i) a2 then addS o1 (mx (rd_T45 l0 i).f0 a1) (wrap64 ((rd_T45 l0 i).f1 + a3)) else o1) from rfl
   generalize plus2 l0 a1 a2 a3 i o1 = o2 at hB0 hS h2
   have h3 := show plus3 l0 a1 a2 a3 i o2 = (if a2 < plusE l0 i then addS o2 (mx (rd_T45 l0 i).f0 a2) (rd_T45 l0 i).f1 else o2) from rfl
   generalize plus3 l0 a1 a2 a3 i o2 = o3 at hS h3
   have B0 := Aside0.mk hB0.1
   have B1 := Aside0.mk hB0.2.1
   have B2 := Aside0.mk hB0.2.2
   have HS := Aside0.mk hS
   clear hS hB0 HP
   have hltb := decide_eq_true hlt
   have hE : (if (i : Int) + 1 < (l0.length : Int) then (rd_T45 l0 ((i : Int) + 1)).f0 else 4611686018427387905) = plusE l0 i := rfl
   generalize plusE l0 i = pe at h2 h3 hE
   have HCx : Aside0 (Kd.C k45 (wr.alloc (.cells #[.int .i64 (rd_T45 l0 (i : Int)).f0, .int .i64 (rd_T45 l0 (i : Int)).f1] 45)) (some ad) l0.length l0) := ⟨hCr2⟩
   clear hCr hCr2 hk
   generalize hs0 : (rd_T45 l0 (i : Int)).f0 = s0 at hx0 hHB HCx h1 h2 h3
   generalize hs1 : (rd_T45 l0 (i : Int)).f1 = s1 at hx1 hHB HCx h1 h2 h3
   clear hs0 hs1
   by_cases c1 : (i : Int) + 1 < (l0.length : Int)
   ·rw [if_pos c1] at hE
    have q1 : (0 : Int) ≤ (i : Int) + 1 := by omega
    obtain ⟨ad2, e2, hy0, hy1⟩ := at_T45 HCx.out ((i : Int) + 1) q1 c1
    cases e2
    rw [show ((i : Int) + 1).toNat = i + 1 by omega] at hy0
    rw [hE] at hy0
    clear hy1 hE HCx
    have c1b := decide_eq_true c1
    by_cases c2 : s0 < a1 <;> by_cases c3 : mx s0 a1 < mn pe a2 <;> by_cases c4 : a2 < pe
    all_goals
     (first | (have hm1 : (if s0 < a1 then a1 else s0) = a1 := if_pos c2; rw [if_pos c2] at h1) | (have hm1 : (if s0 < a1 then a1 else s0) = s0 := if_neg c2; rw [if_neg c2] at h1))
     (first | rw [if_pos c3] at h2 | rw [if_neg c3] at h2)
     (first | rw [if_pos c4] at h3 | rw [if_neg c4] at h3)
     (first | have c2b : decide (s0 < a1) = true := decide_eq_true c2 | have c2b : decide (s0 < a1) = false := decide_eq_false c2)
     (first | have c4b : decide (a2 < pe) = true := decide_eq_true c4 | have c4b : decide (a2 < pe) = false := decide_eq_false c4)
     have hM : when_Meets.f s0 pe a1 a2 = some (decide (mx s0 a1 < mn pe a2)) := rfl
     (first | rw [decide_eq_true c3] at hM | rw [decide_eq_false c3] at hM)
     have HM := Aside0.mk hM
     (try first | rw [show mx s0 a1 = a1 by unfold mx; rw [if_pos c2]] at h2 | rw [show mx s0 a1 = s0 by unfold mx; rw [if_neg c2]] at h2)
     obtain ⟨m2, hm2⟩ : ∃ m, (if s0 < a2 then a2 else s0) = m := ⟨_, rfl⟩
     (try rw [show mx s0 a2 = m2 from hm2] at h3)
     have E1 := Aside0.mk h1.symm
     have E2 := Aside0.mk h2.symm
     have E3 := Aside0.mk h3.symm
     clear h1 h2 h3 hM c2 c3 c4
     (first | (rw [E1.out] at hHB; have HBx := Aside0.mk hHB) | have HBx := Aside0.mk hHB)
     clear hHB
     go_wp2_with (first | (go_at_call 69; refine (add_at _ _ _ _ _ _ _ _ _ HBx.out (by first | exact B0.out | exact B1.out | exact B2.out)).mono ?_; rintro e w2 ⟨rfl, hp⟩; (first | rw [E1.out] at hp | rw [E2.out] at hp | rw [E3.out] at hp); clear HBx; have HBx := Aside0.mk hp; have hcc := PlusBox.cells hp; obtain ⟨hcA, hcB⟩ := hcc; clear hp) | (go_at_call 70; refine (when_Meets.calls _ _ _ _ _ _ HM.out).mono ?_; rintro e w2 ⟨rfl, hb⟩; have hp := PlusBox.below HBx.out hb; (try rw [E2.out] at hp); clear HBx; have HBx := Aside0.mk hp; have hcc := PlusBox.cells hp; obtain ⟨hcA, hcB⟩ := hcc; clear hp hb))
     go_roundg gm
     case measure => omega
     case rel => exact ⟨i + 1, by first | rfl | go_num, ⟨by have := HK.out; omega⟩, ⟨by rw [HS.out]; first | exact PlusBox.forget HBx.out | (rw [← E3.out]; exact PlusBox.forget HBx.out)⟩⟩
   ·rw [if_neg c1] at hE
    subst hE
    clear HCx
    have c1b := decide_eq_false c1
    by_cases c2 : s0 < a1 <;> by_cases c3 : mx s0 a1 < mn 4611686018427387905 a2 <;> by_cases c4 : a2 < 4611686018427387905
    all_goals
     (first | (have hm1 : (if s0 < a1 then a1 else s0) = a1 := if_pos c2; rw [if_pos c2] at h1) | (have hm1 : (if s0 < a1 then a1 else s0) = s0 := if_neg c2; rw [if_neg c2] at h1))
     (first | rw [if_pos c3] at h2 | rw [if_neg c3] at h2)
     (first | rw [if_pos c4] at h3 | rw [if_neg c4] at h3)
     (first | have c2b : decide (s0 < a1) = true := decide_eq_true c2 | have c2b : decide (s0 < a1) = false := decide_eq_false c2)
     (first | have c4b : decide (a2 < 4611686018427387905) = true := decide_eq_true c4 | have c4b : decide (a2 < 4611686018427387905) = false := decide_eq_false c4)
     have hM : when_Meets.f s0 4611686018427387905 a1 a2 = some (decide (mx s0 a1 < mn 4611686018427387905 a2)) := rfl
     (first | rw [decide_eq_true c3] at hM | rw [decide_eq_false c3] at hM)
     have HM := Aside0.mk hM
     (try first | rw [show mx s0 a1 = a1 by unfold mx; rw [if_pos c2]] at h2 | rw [show mx s0 a1 = s0 by unfold mx; rw [if_neg c2]] at h2)
     obtain ⟨m2, hm2⟩ : ∃ m, (if s0 < a2 then a2 else s0) = m := ⟨_, rfl⟩
     (try rw [show mx s0 a2 = m2 from hm2] at h3)
     have E1 := Aside0.mk h1.symm
     have E2 := Aside0.mk h2.symm
     have E3 := Aside0.mk h3.symm
     clear h1 h2 h3 hM c2 c3 c4
     (first | (rw [E1.out] at hHB; have HBx := Aside0.mk hHB) | have HBx := Aside0.mk hHB)
     clear hHB
     go_wp2_with (first | (go_at_call 69; refine (add_at _ _ _ _ _ _ _ _ _ HBx.out (by first | exact B0.out | exact B1.out | exact B2.out)).mono ?_; rintro e w2 ⟨rfl, hp⟩; (first | rw [E1.out] at hp | rw [E2.out] at hp | rw [E3.out] at hp); clear HBx; have HBx := Aside0.mk hp; have hcc := PlusBox.cells hp; obtain ⟨hcA, hcB⟩ := hcc; clear hp) | (go_at_call 70; refine (when_Meets.calls _ _ _ _ _ _ HM.out).mono ?_; rintro e w2 ⟨rfl, hb⟩; have hp := PlusBox.below HBx.out hb; (try rw [E2.out] at hp); clear HBx; have HBx := Aside0.mk hp; have hcc := PlusBox.cells hp; obtain ⟨hcA, hcB⟩ := hcc; clear hp hb))
     go_roundg gm
     case measure => omega
     case rel => exact ⟨i + 1, by first | rfl | go_num, ⟨by have := HK.out; omega⟩, ⟨by rw [HS.out]; first | exact PlusBox.forget HBx.out | (rw [← E3.out]; exact PlusBox.forget HBx.out)⟩⟩
  ·have hil : i = l0.length := by omega
   subst hil
   have hfin := HP.out
   obtain ⟨v, q1, q2, q3, q4⟩ := hfin
   have hc9 : wr.cell? ⟨w.heap.size, 0, none⟩ = some v := (blk_cell q1 0).trans rfl
   have Q2 := Aside0.mk (Kd.R_mono (ok' := fun _ => True) q2 (fun _ _ => trivial))
   have Q3 := Aside0.mk q3
   clear q1 q2 q3 q4 HP HK hk hlt
   obtain ⟨A1, c1, e1⟩ := Kd.R_slice Q2.out
   subst e1
   go_wp2
   go_ret
   exact ⟨_, rfl, Q2.out, Q3.out⟩

def step_change.f (l0 : List (S45)) (a1 : Int) (a2 : Int) (a3 : Int) : Option ((List (S45)) × Int) := (step_plus.f l0 a1 a2 a3).bind fun t140 => (if (t140.length : Int) > 1024 then ((slices_Clone_api_Step_api_Step.f l0).bind fun t143 => (some (t143, 4))) else (some (t140, 0)))
set_option maxHeartbeats 8000000 in
set_option maxRecDepth 100000 in
theorem step_change.calls (A0 : Option Addr) (c0 : Nat) (l0 : List (S45)) (a1 : Int) (a2 : Int) (a3 : Int) (r1 : List (S45)) (r2 : Int) (w : World) (hr0 : Kd.C k45 w A0 l0.length l0) (hc0 : l0.length ≤ c0) (h : step_change.f l0 a1 a2 a3 = some (r1, r2)) :
  Calls Try.prog 54 #[.slice A0 l0.length c0, .int .i64 a1, .int .i64 a2, .int .i64 a3] w fun e w' => ∃ v0_ : Value, e = .returned (.tuple #[v0_, .int .i64 r2]) ∧ Kd.R k45 45 w' w.heap.size (fun _ => True) v0_ r1 ∧ Below w.heap.size w w' := by
 have HR0 := Aside0.mk hr0
 have HC0 := Aside0.mk hc0
 clear hr0 hc0
 have HB := Aside0.mk (Below.refl w.heap.size w)
 have H : ((step_plus.f l0 a1 a2 a3).bind fun t140 => (if (t140.length : Int) > 1024 then ((slices_Clone_api_Step_api_Step.f l0).bind fun t143 => (some (t143, 4))) else (some (t140, 0)))) = some (r1, r2) := h
 clear h
 replace H := Option.bind_eq_some_iff.mp H
 obtain ⟨t140, A50, H⟩ := H
 replace H : (if (t140.length : Int) > 1024 then ((slices_Clone_api_Step_api_Step.f l0).bind fun t143 => (some (t143, 4))) else (some (t140, 0))) = some (r1, r2) := H
 have A5 := Aside0.mk A50
 clear A50
 by_cases c6 : (t140.length : Int) > 1024
 ·rw [if_pos c6] at H
  have c6b0 : decide (1024 < (t140.length : Int)) = true := decide_eq_true c6
  have c6b1 : decide (1024 < t140.length) = true := decide_eq_true (by omega)
  clear c6
  replace H := Option.bind_eq_some_iff.mp H
  obtain ⟨t143, A70, H⟩ := H
  replace H : (some (t143, 4)) = some (r1, r2) := H
  have A7 := Aside0.mk A70
  clear A70
  simp only [Option.some.injEq, Prod.mk.injEq] at H
  obtain ⟨rfl, rfl⟩ := H
  go_enter Try.func54, Try.ntmps54
  go_wp2_with (first | ((with_reducible refine gate_callee (f := 65) rfl ?_); refine goesL_ (some 15) rfl rfl Try.func65 (by kernel_rfl) rfl #[.slice A0 l0.length c0, .int .i64 a1, .int .i64 a2, .int .i64 a3] rfl (by (try simp only [List.map_toArray, List.map_cons, List.map_nil]); first | done | rfl | (simp only [List.length_drop, List.length_take]; rfl)) ?_; (with_reducible refine (step_plus.calls _ _ l0 a1 a2 a3 t140 _ ?side1 ?side2 A5.out).mono ?_); (case side1 => repeat (first | exact HR0.out | (with_reducible refine Kd.C_alloc ?_ _) | (with_reducible refine Kd.C_drewN ?_ _) | (with_reducible refine Kd.C_drew ?_))); (case side2 => exact HC0.out); rintro e w8 ⟨v141, rfl, ho0, hb⟩; refine ⟨_, rfl, ?_⟩; have n0_ := Aside0.mk (Kd.R_lower ho0 (below_size (by repeat (first | (with_reducible first | exact HB.out | apply below_alloc | apply pw_below_drewN | apply below_drew1) | exact HB.out)))); have n1_ := Aside0.mk (below_step (by repeat (first | (with_reducible first | exact HB.out | apply below_alloc | apply pw_below_drewN | apply below_drew1) | exact HB.out)) hb); clear HB; have HO142 := n0_; have HB := n1_; clear n0_ n1_; (try clear hb); (try clear hb2); (try clear hk); (try clear hi); (try clear ho0); obtain ⟨Ao9, co9, eo9⟩ := Kd.R_slice HO142.out; subst eo9) | ((with_reducible refine gate_callee (f := 53) rfl ?_); refine goesL_ (some 20) rfl rfl Try.func53 (by kernel_rfl) rfl #[.slice A0 l0.length c0] rfl (by (try simp only [List.map_toArray, List.map_cons, List.map_nil]); first | done | rfl | (simp only [List.length_drop, List.length_take]; rfl)) ?_; (with_reducible refine (slices_Clone_api_Step_api_Step.calls _ _ l0 t143 _ ?side1 ?side2 A7.out).mono ?_); (case side1 => repeat (first | exact (Kd.C_below HR0.out HB.out) | (with_reducible refine Kd.C_alloc ?_ _) | (with_reducible refine Kd.C_drewN ?_ _) | (with_reducible refine Kd.C_drew ?_))); (case side2 => exact HC0.out); rintro e w10 ⟨v144, rfl, ho0, hb⟩; refine ⟨_, rfl, ?_⟩; have n0_ := Aside0.mk (Kd.R_elder' (by (with_reducible repeat (first | apply Kd.R_alloc | apply Kd.R_drewN | apply Kd.R_drew)); exact HO142.out) (Kd.R_base ho0) hb); have n1_ := Aside0.mk (Kd.R_lower (Kd.R_new' ho0 (Kd.R_lt (by (with_reducible repeat (first | apply Kd.R_alloc | apply Kd.R_drewN | apply Kd.R_drew)); exact HO142.out))) (below_size (by repeat (first | (with_reducible first | exact HB.out | apply below_alloc | apply pw_below_drewN | apply below_drew1) | exact HB.out)))); have n2_ := Aside0.mk (below_step (by repeat (first | (with_reducible first | exact HB.out | apply below_alloc | apply pw_below_drewN | apply below_drew1) | exact HB.out)) hb); clear HO142; clear HB; have HO142 := n0_; have HO145 := n1_; have HB := n2_; clear n0_ n1_ n2_; (try clear hb); (try clear hb2); (try clear hk); (try clear hi); (try clear ho0)))
  go_ret2
  exact ⟨_, by first | rfl | (simp [errW_none, errW_some] <;> rfl) | (simp [*, errW_none, errW_some] <;> rfl), by (with_reducible repeat (first | apply Kd.R_alloc | apply Kd.R_drewN | apply Kd.R_drew)); exact Kd.R_mono HO145.out (fun _ hk => trivial), by repeat (first | (with_reducible first | exact HB.out | apply below_alloc | apply pw_below_drewN | apply below_drew1) | exact HB.out)⟩
 ·rw [if_neg c6] at H
  have c6b0 : decide (1024 < (t140.length : Int)) = false := decide_eq_false c6
  have c6b1 : decide (1024 < t140.length) = false := decide_eq_false (by omega)
  clear c6
  simp only [Option.some.injEq, Prod.mk.injEq] at H
  obtain ⟨rfl, rfl⟩ := H
  go_enter Try.func54, Try.ntmps54
  go_wp2_with (first | ((with_reducible refine gate_callee (f := 65) rfl ?_); refine goesL_ (some 15) rfl rfl Try.func65 (by kernel_rfl) rfl #[.slice A0 l0.length c0, .int .i64 a1, .int .i64 a2, .int .i64 a3] rfl (by (try simp only [List.map_toArray, List.map_cons, List.map_nil]); first | done | rfl | (simp only [List.length_drop, List.length_take]; rfl)) ?_; (with_reducible refine (step_plus.calls _ _ l0 a1 a2 a3 t140 _ ?side1 ?side2 A5.out).mono ?_); (case side1 => repeat (first | exact HR0.out | (with_reducible refine Kd.C_alloc ?_ _) | (with_reducible refine Kd.C_drewN ?_ _) | (with_reducible refine Kd.C_drew ?_))); (case side2 => exact HC0.out); rintro e w11 ⟨v141, rfl, ho0, hb⟩; refine ⟨_, rfl, ?_⟩; have n0_ := Aside0.mk (Kd.R_lower ho0 (below_size (by repeat (first | (with_reducible first | exact HB.out | apply below_alloc | apply pw_below_drewN | apply below_drew1) | exact HB.out)))); have n1_ := Aside0.mk (below_step (by repeat (first | (with_reducible first | exact HB.out | apply below_alloc | apply pw_below_drewN | apply below_drew1) | exact HB.out)) hb); clear HB; have HO142 := n0_; have HB := n1_; clear n0_ n1_; (try clear hb); (try clear hb2); (try clear hk); (try clear hi); (try clear ho0); obtain ⟨Ao12, co12, eo12⟩ := Kd.R_slice HO142.out; subst eo12))
  go_ret2
  exact ⟨_, by first | rfl | (simp [errW_none, errW_some] <;> rfl) | (simp [*, errW_none, errW_some] <;> rfl), by (with_reducible repeat (first | apply Kd.R_alloc | apply Kd.R_drewN | apply Kd.R_drew)); exact HO142.out, by repeat (first | (with_reducible first | exact HB.out | apply below_alloc | apply pw_below_drewN | apply below_drew1) | exact HB.out)⟩

end Go.Proofs.Ytimllhflecippaa.F
end

section
namespace Go.Proofs.Ytimllhflecippaa.F
open Go.RowKit Go.Proofs.YtimllhflecippaaW.PrintWords Go.Proofs.YtimllhflecippaaW.PrintLast Go.Proofs.YtimllhflecippaaW.PrintMore
attribute [local go_sem] max2_int min2_int max_two min_two
set_option linter.unusedVariables false
set_option linter.unusedSimpArgs false

def step_Take.j0 : Nat → List (S45) → Int → Int → Int → Bool → Option ((List (S45)) × Int)
 | 0, _, _, _, _, _ => none
 | k + 1, x0, x1, x2, x3, x10 => if x10 = true then ((slices_Clone_api_Step_api_Step.f x0).bind fun t148 => (some (t148, 1))) else ((step_least.f k x0 x1 x2).bind fun t151 => (if t151 < x3 then ((slices_Clone_api_Step_api_Step.f x0).bind fun t152 => (some (t152, 5))) else ((step_change.f x0 x1 x2 (wrap64 (-x3))).bind fun bt155 => (some (bt155.1, bt155.2)))))
def step_Take.f (k : Nat) (l0 : List (S45)) (a1 : Int) (a2 : Int) (a3 : Int) : Option ((List (S45)) × Int) := (step_may.f k l0 a1 a2).bind fun t146 => (if t146 = true then ((step_amount.f a3).bind fun t147 => (step_Take.j0 k l0 a1 a2 a3 (!t147))) else (step_Take.j0 k l0 a1 a2 a3 true))
theorem step_Take.mono_l : ∀ k, (∀ y0 y1 y2 y3 y4, LeO (step_Take.j0 k y0 y1 y2 y3 y4) (step_Take.j0 (k + 1) y0 y1 y2 y3 y4))
 | 0 => fun _ _ _ _ _ r h => by simp [step_Take.j0] at h
 | k + 1 => by
  have ih0 := step_Take.mono_l k
  ·intro y0 y1 y2 y3 y4
   unfold step_Take.j0
   repeat' first
   | (with_reducible exact ih0 _ _ _ _ _)
   | (with_reducible exact step_least.mono _ _ _ _)
   | (with_reducible exact step_may.mono _ _ _ _)
   | (with_reducible exact LeO.refl _)
   | (with_reducible exact LeO.none _)
   | (with_reducible refine LeO.ite ?_ ?_)
   | (with_reducible refine LeO.bind ?_ (fun _ => ?_))
   | exact ih0 _ _ _ _ _
   | exact step_least.mono _ _ _ _
   | exact step_may.mono _ _ _ _
   | exact LeO.none _
   | refine LeO.ite ?_ ?_
   | refine LeO.bind ?_ (fun _ => ?_)
theorem step_Take.mono : ∀ a0 a1 a2 a3 k, LeO (step_Take.f k a0 a1 a2 a3) (step_Take.f (k + 1) a0 a1 a2 a3) := by
 intro a0 a1 a2 a3 k
 have ih0 := step_Take.mono_l k
 unfold step_Take.f
 repeat' first
   | (with_reducible exact ih0 _ _ _ _ _)
   | (with_reducible exact step_least.mono _ _ _ _)
   | (with_reducible exact step_may.mono _ _ _ _)
   | (with_reducible exact LeO.refl _)
   | (with_reducible exact LeO.none _)
   | (with_reducible refine LeO.ite ?_ ?_)
   | (with_reducible refine LeO.bind ?_ (fun _ => ?_))
   | exact ih0 _ _ _ _ _
   | exact step_least.mono _ _ _ _
   | exact step_may.mono _ _ _ _
   | exact LeO.none _
   | refine LeO.ite ?_ ?_
   | refine LeO.bind ?_ (fun _ => ?_)
set_option maxHeartbeats 8000000 in
set_option maxRecDepth 100000 in
theorem step_Take.calls (k : Nat) (A0 : Option Addr) (c0 : Nat) (l0 : List (S45)) (a1 : Int) (a2 : Int) (a3 : Int) (r1 : List (S45)) (r2 : Int) (w : World) (hr0 : Kd.C k45 w A0 l0.length l0) (hc0 : l0.length ≤ c0) (h : step_Take.f k l0 a1 a2 a3 = some (r1, r2)) :
  Calls Try.prog 21 #[.slice A0 l0.length c0, .int .i64 a1, .int .i64 a2, .int .i64 a3] w fun e w' => ∃ v0_ : Value, e = .returned (.tuple #[v0_, .int .i64 r2]) ∧ Kd.R k45 45 w' w.heap.size (fun _ => True) v0_ r1 ∧ Below w.heap.size w w' := by
 have HR0 := Aside0.mk hr0
 have HC0 := Aside0.mk hc0
 clear hr0 hc0
 have HB := Aside0.mk (Below.refl w.heap.size w)
 have H : ((step_may.f k l0 a1 a2).bind fun t146 => (if t146 = true then ((step_amount.f a3).bind fun t147 => (step_Take.j0 k l0 a1 a2 a3 (!t147))) else (step_Take.j0 k l0 a1 a2 a3 true))) = some (r1, r2) := h
 clear h
 have HC5 := Aside0.mk H
 clear H
 go_enter Try.func21, Try.ntmps21
 go_upto_region 1 with (fail)
 go_cut [10] (fun v10 wc => ∃ (kq : Nat) (x10_4 : Bool), v10 = .bool x10_4 ∧ Aside0 (step_Take.j0 kq l0 a1 a2 a3 x10_4 = some (r1, r2)) ∧ Aside0 (kq ≤ k) ∧ Aside0 (Below w.heap.size w wc))
 case first =>
  have H := HC5.out
  clear HC5
  replace H := Option.bind_eq_some_iff.mp H
  obtain ⟨t146, A60, H⟩ := H
  replace H : (if t146 = true then ((step_amount.f a3).bind fun t147 => (step_Take.j0 k l0 a1 a2 a3 (!t147))) else (step_Take.j0 k l0 a1 a2 a3 true)) = some (r1, r2) := H
  have A6 := Aside0.mk A60
  clear A60
  by_cases c7 : t146 = true
  ·subst c7
   have H1 : ((step_amount.f a3).bind fun t147 => (step_Take.j0 k l0 a1 a2 a3 (!t147))) = some (r1, r2) := by rw [if_pos rfl] at H; exact H
   clear H
   have H := H1
   clear H1
   replace H := Option.bind_eq_some_iff.mp H
   obtain ⟨t147, A80, H⟩ := H
   replace H : (step_Take.j0 k l0 a1 a2 a3 (!t147)) = some (r1, r2) := H
   have A8 := Aside0.mk A80
   clear A80
   have H' := Aside0.mk H
   clear H
   go_wp2_with (first | ((with_reducible refine gate_callee (f := 50) rfl ?_); refine goesL_ (some 14) rfl rfl Try.func50 (by kernel_rfl) rfl #[.slice A0 l0.length c0, .int .i64 a1, .int .i64 a2] rfl (by (try simp only [List.map_toArray, List.map_cons, List.map_nil]); first | done | rfl | (simp only [List.length_drop, List.length_take]; rfl)) ?_; (with_reducible refine (step_may.calls k _ _ l0 a1 a2 true _ ?side1 ?side2 A6.out).mono ?_); (case side1 => repeat (first | exact (Kd.C_below HR0.out HB.out) | (with_reducible refine Kd.C_alloc ?_ _) | (with_reducible refine Kd.C_drewN ?_ _) | (with_reducible refine Kd.C_drew ?_))); (case side2 => exact HC0.out); rintro e w9 ⟨rfl, hb⟩; refine ⟨_, rfl, ?_⟩; have n0_ := Aside0.mk (below_step (by repeat (first | (with_reducible first | exact HB.out | apply below_alloc | apply pw_below_drewN | apply below_drew1) | exact HB.out)) hb); clear HB; have HB := n0_; clear n0_; (try clear hb); (try clear hb2); (try clear hk); (try clear hi)) | (go_at_call 47; (with_reducible refine (step_amount.calls a3 t147 _ A8.out).mono ?_); rintro e w' ⟨rfl, ⟨nd, rfl⟩⟩))
   go_meet
   case rel => exact ⟨_, (!t147), (by first | rfl | (simp; done) | (simp [*]; done)), H', ⟨by first | omega | exact Nat.le_refl _⟩, ⟨by repeat (first | (with_reducible first | exact HB.out | apply below_alloc | apply pw_below_drewN | apply below_drew1) | exact HB.out)⟩⟩
  ·replace c7 := Bool.eq_false_iff.mpr c7
   subst c7
   have H1 : (step_Take.j0 k l0 a1 a2 a3 true) = some (r1, r2) := by rw [if_neg (show ¬ (false = true) by decide)] at H; exact H
   clear H
   have H := H1
   clear H1
   have H' := Aside0.mk H
   clear H
   go_wp2_with (first | ((with_reducible refine gate_callee (f := 50) rfl ?_); refine goesL_ (some 14) rfl rfl Try.func50 (by kernel_rfl) rfl #[.slice A0 l0.length c0, .int .i64 a1, .int .i64 a2] rfl (by (try simp only [List.map_toArray, List.map_cons, List.map_nil]); first | done | rfl | (simp only [List.length_drop, List.length_take]; rfl)) ?_; (with_reducible refine (step_may.calls k _ _ l0 a1 a2 false _ ?side1 ?side2 A6.out).mono ?_); (case side1 => repeat (first | exact (Kd.C_below HR0.out HB.out) | (with_reducible refine Kd.C_alloc ?_ _) | (with_reducible refine Kd.C_drewN ?_ _) | (with_reducible refine Kd.C_drew ?_))); (case side2 => exact HC0.out); rintro e w10 ⟨rfl, hb⟩; refine ⟨_, rfl, ?_⟩; have n0_ := Aside0.mk (below_step (by repeat (first | (with_reducible first | exact HB.out | apply below_alloc | apply pw_below_drewN | apply below_drew1) | exact HB.out)) hb); clear HB; have HB := n0_; clear n0_; (try clear hb); (try clear hb2); (try clear hk); (try clear hi)))
   go_meet
   case rel => exact ⟨_, (true), (by first | rfl | (simp; done) | (simp [*]; done)), H', ⟨by first | omega | exact Nat.le_refl _⟩, ⟨by repeat (first | (with_reducible first | exact HB.out | apply below_alloc | apply pw_below_drewN | apply below_drew1) | exact HB.out)⟩⟩
 case rest =>
  clear HC5
  try clear c2
  try clear p2
  try clear c5
  try clear c7
  obtain ⟨kq, x10_4, rfl, HA, HJ4, HB⟩ := hcut
  cases kq with
  | zero => exact absurd HA.out (by simp [step_Take.j0])
  | succ kj4 =>
   have H := HA.out
   clear HA
   simp only [step_Take.j0] at H
   by_cases c11 : x10_4 = true
   ·subst c11
    have H1 : ((slices_Clone_api_Step_api_Step.f l0).bind fun t148 => (some (t148, 1))) = some (r1, r2) := by rw [if_pos rfl] at H; exact H
    clear H
    have H := H1
    clear H1
    replace H := Option.bind_eq_some_iff.mp H
    obtain ⟨t148, A120, H⟩ := H
    replace H : (some (t148, 1)) = some (r1, r2) := H
    have A12 := Aside0.mk A120
    clear A120
    simp only [Option.some.injEq, Prod.mk.injEq] at H
    obtain ⟨rfl, rfl⟩ := H
    go_wp2_with (first | ((with_reducible refine gate_callee (f := 53) rfl ?_); refine goesL_ (some 22) rfl rfl Try.func53 (by kernel_rfl) rfl #[.slice A0 l0.length c0] rfl (by (try simp only [List.map_toArray, List.map_cons, List.map_nil]); first | done | rfl | (simp only [List.length_drop, List.length_take]; rfl)) ?_; (with_reducible refine (slices_Clone_api_Step_api_Step.calls _ _ l0 t148 _ ?side1 ?side2 A12.out).mono ?_); (case side1 => repeat (first | exact (Kd.C_below HR0.out HB.out) | (with_reducible refine Kd.C_alloc ?_ _) | (with_reducible refine Kd.C_drewN ?_ _) | (with_reducible refine Kd.C_drew ?_))); (case side2 => exact HC0.out); rintro e w13 ⟨v149, rfl, ho0, hb⟩; refine ⟨_, rfl, ?_⟩; have n0_ := Aside0.mk (Kd.R_lower ho0 (below_size (by repeat (first | (with_reducible first | exact HB.out | apply below_alloc | apply pw_below_drewN | apply below_drew1) | exact HB.out)))); have n1_ := Aside0.mk (below_step (by repeat (first | (with_reducible first | exact HB.out | apply below_alloc | apply pw_below_drewN | apply below_drew1) | exact HB.out)) hb); clear HB; have HO150 := n0_; have HB := n1_; clear n0_ n1_; (try clear hb); (try clear hb2); (try clear hk); (try clear hi); (try clear ho0)))
    go_ret2
    exact ⟨_, by first | rfl | (simp [errW_none, errW_some] <;> rfl) | (simp [*, errW_none, errW_some] <;> rfl), by (with_reducible repeat (first | apply Kd.R_alloc | apply Kd.R_drewN | apply Kd.R_drew)); exact HO150.out, by repeat (first | (with_reducible first | exact HB.out | apply below_alloc | apply pw_below_drewN | apply below_drew1) | exact HB.out)⟩
   ·replace c11 := Bool.eq_false_iff.mpr c11
    subst c11
    have H1 : ((step_least.f kj4 l0 a1 a2).bind fun t151 => (if t151 < a3 then ((slices_Clone_api_Step_api_Step.f l0).bind fun t152 => (some (t152, 5))) else ((step_change.f l0 a1 a2 (wrap64 (-a3))).bind fun bt155 => (some (bt155.1, bt155.2))))) = some (r1, r2) := by rw [if_neg (show ¬ (false = true) by decide)] at H; exact H
    clear H
    have H := H1
    clear H1
    replace H := Option.bind_eq_some_iff.mp H
    obtain ⟨t151, A140, H⟩ := H
    replace H : (if t151 < a3 then ((slices_Clone_api_Step_api_Step.f l0).bind fun t152 => (some (t152, 5))) else ((step_change.f l0 a1 a2 (wrap64 (-a3))).bind fun bt155 => (some (bt155.1, bt155.2)))) = some (r1, r2) := H
    have A14 := Aside0.mk A140
    clear A140
    by_cases c15 : t151 < a3
    ·rw [if_pos c15] at H
     have c15b0 : decide (t151 < a3) = true := decide_eq_true c15
     clear c15
     replace H := Option.bind_eq_some_iff.mp H
     obtain ⟨t152, A160, H⟩ := H
     replace H : (some (t152, 5)) = some (r1, r2) := H
     have A16 := Aside0.mk A160
     clear A160
     simp only [Option.some.injEq, Prod.mk.injEq] at H
     obtain ⟨rfl, rfl⟩ := H
     go_wp2_with (first | ((with_reducible refine gate_callee (f := 51) rfl ?_); refine goesL_ (some 27) rfl rfl Try.func51 (by kernel_rfl) rfl #[.slice A0 l0.length c0, .int .i64 a1, .int .i64 a2] rfl (by (try simp only [List.map_toArray, List.map_cons, List.map_nil]); first | done | rfl | (simp only [List.length_drop, List.length_take]; rfl)) ?_; (with_reducible refine (step_least.calls kj4 _ _ l0 a1 a2 t151 _ ?side1 ?side2 A14.out).mono ?_); (case side1 => repeat (first | exact (Kd.C_below HR0.out HB.out) | (with_reducible refine Kd.C_alloc ?_ _) | (with_reducible refine Kd.C_drewN ?_ _) | (with_reducible refine Kd.C_drew ?_))); (case side2 => exact HC0.out); rintro e w17 ⟨rfl, hb⟩; refine ⟨_, rfl, ?_⟩; have n0_ := Aside0.mk (below_step (by repeat (first | (with_reducible first | exact HB.out | apply below_alloc | apply pw_below_drewN | apply below_drew1) | exact HB.out)) hb); clear HB; have HB := n0_; clear n0_; (try clear hb); (try clear hb2); (try clear hk); (try clear hi)) | ((with_reducible refine gate_callee (f := 53) rfl ?_); refine goesL_ (some 31) rfl rfl Try.func53 (by kernel_rfl) rfl #[.slice A0 l0.length c0] rfl (by (try simp only [List.map_toArray, List.map_cons, List.map_nil]); first | done | rfl | (simp only [List.length_drop, List.length_take]; rfl)) ?_; (with_reducible refine (slices_Clone_api_Step_api_Step.calls _ _ l0 t152 _ ?side1 ?side2 A16.out).mono ?_); (case side1 => repeat (first | exact (Kd.C_below HR0.out HB.out) | (with_reducible refine Kd.C_alloc ?_ _) | (with_reducible refine Kd.C_drewN ?_ _) | (with_reducible refine Kd.C_drew ?_))); (case side2 => exact HC0.out); rintro e w18 ⟨v153, rfl, ho0, hb⟩; refine ⟨_, rfl, ?_⟩; have n0_ := Aside0.mk (Kd.R_lower ho0 (below_size (by repeat (first | (with_reducible first | exact HB.out | apply below_alloc | apply pw_below_drewN | apply below_drew1) | exact HB.out)))); have n1_ := Aside0.mk (below_step (by repeat (first | (with_reducible first | exact HB.out | apply below_alloc | apply pw_below_drewN | apply below_drew1) | exact HB.out)) hb); clear HB; have HO154 := n0_; have HB := n1_; clear n0_ n1_; (try clear hb); (try clear hb2); (try clear hk); (try clear hi); (try clear ho0)))
     go_ret2
     exact ⟨_, by first | rfl | (simp [errW_none, errW_some] <;> rfl) | (simp [*, errW_none, errW_some] <;> rfl), by (with_reducible repeat (first | apply Kd.R_alloc | apply Kd.R_drewN | apply Kd.R_drew)); exact HO154.out, by repeat (first | (with_reducible first | exact HB.out | apply below_alloc | apply pw_below_drewN | apply below_drew1) | exact HB.out)⟩
    ·rw [if_neg c15] at H
     have c15b0 : decide (t151 < a3) = false := decide_eq_false c15
     clear c15
     replace H := Option.bind_eq_some_iff.mp H
     obtain ⟨⟨t155, t156⟩, A190, H⟩ := H
     replace H : (some (t155, t156)) = some (r1, r2) := H
     have A19 := Aside0.mk A190
     clear A190
     simp only [Option.some.injEq, Prod.mk.injEq] at H
     obtain ⟨rfl, rfl⟩ := H
     go_wp2_with (first | ((with_reducible refine gate_callee (f := 51) rfl ?_); refine goesL_ (some 27) rfl rfl Try.func51 (by kernel_rfl) rfl #[.slice A0 l0.length c0, .int .i64 a1, .int .i64 a2] rfl (by (try simp only [List.map_toArray, List.map_cons, List.map_nil]); first | done | rfl | (simp only [List.length_drop, List.length_take]; rfl)) ?_; (with_reducible refine (step_least.calls kj4 _ _ l0 a1 a2 t151 _ ?side1 ?side2 A14.out).mono ?_); (case side1 => repeat (first | exact (Kd.C_below HR0.out HB.out) | (with_reducible refine Kd.C_alloc ?_ _) | (with_reducible refine Kd.C_drewN ?_ _) | (with_reducible refine Kd.C_drew ?_))); (case side2 => exact HC0.out); rintro e w20 ⟨rfl, hb⟩; refine ⟨_, rfl, ?_⟩; have n0_ := Aside0.mk (below_step (by repeat (first | (with_reducible first | exact HB.out | apply below_alloc | apply pw_below_drewN | apply below_drew1) | exact HB.out)) hb); clear HB; have HB := n0_; clear n0_; (try clear hb); (try clear hb2); (try clear hk); (try clear hi)) | ((with_reducible refine gate_callee (f := 54) rfl ?_); refine goesL_ (some 37) rfl rfl Try.func54 (by kernel_rfl) rfl #[.slice A0 l0.length c0, .int .i64 a1, .int .i64 a2, .int .i64 (wrap64 (-a3))] rfl (by (try simp only [List.map_toArray, List.map_cons, List.map_nil]); first | done | rfl | (simp only [List.length_drop, List.length_take]; rfl)) ?_; (with_reducible refine (step_change.calls _ _ l0 a1 a2 (wrap64 (-a3)) t155 t156 _ ?side1 ?side2 A19.out).mono ?_); (case side1 => repeat (first | exact (Kd.C_below HR0.out HB.out) | (with_reducible refine Kd.C_alloc ?_ _) | (with_reducible refine Kd.C_drewN ?_ _) | (with_reducible refine Kd.C_drew ?_))); (case side2 => exact HC0.out); rintro e w21 ⟨v157, rfl, ho0, hb⟩; refine ⟨_, rfl, ?_⟩; have n0_ := Aside0.mk (Kd.R_lower ho0 (below_size (by repeat (first | (with_reducible first | exact HB.out | apply below_alloc | apply pw_below_drewN | apply below_drew1) | exact HB.out)))); have n1_ := Aside0.mk (below_step (by repeat (first | (with_reducible first | exact HB.out | apply below_alloc | apply pw_below_drewN | apply below_drew1) | exact HB.out)) hb); clear HB; have HO158 := n0_; have HB := n1_; clear n0_ n1_; (try clear hb); (try clear hb2); (try clear hk); (try clear hi); (try clear ho0)))
     go_ret2
     exact ⟨_, by first | rfl | (simp [errW_none, errW_some] <;> rfl) | (simp [*, errW_none, errW_some] <;> rfl), by (with_reducible repeat (first | apply Kd.R_alloc | apply Kd.R_drewN | apply Kd.R_drew)); exact HO158.out, by repeat (first | (with_reducible first | exact HB.out | apply below_alloc | apply pw_below_drewN | apply below_drew1) | exact HB.out)⟩

def step_New.f (a0 : Int) : Option ((List (S45)) × Int) := (step_amount.f a0).bind fun t159 => (if t159 = true then (some ((([(⟨0, a0⟩ : S45)] : List (S45))), 0)) else (some (([] : List (S45)), 1)))
set_option maxHeartbeats 8000000 in
set_option maxRecDepth 100000 in
theorem step_New.calls (a0 : Int) (r1 : List (S45)) (r2 : Int) (w : World) (h : step_New.f a0 = some (r1, r2)) :
  Calls Try.prog 29 #[.int .i64 a0] w fun e w' => ∃ v0_ : Value, e = .returned (.tuple #[v0_, .int .i64 r2]) ∧ Kd.R k45 45 w' w.heap.size (fun _ => True) v0_ r1 ∧ Below w.heap.size w w' := by
 have hu45 := Try.underlying45
 have HB := Aside0.mk (Below.refl w.heap.size w)
 have H : ((step_amount.f a0).bind fun t159 => (if t159 = true then (some ((([(⟨0, a0⟩ : S45)] : List (S45))), 0)) else (some (([] : List (S45)), 1)))) = some (r1, r2) := h
 clear h
 replace H := Option.bind_eq_some_iff.mp H
 obtain ⟨t159, A20, H⟩ := H
 replace H : (if t159 = true then (some ((([(⟨0, a0⟩ : S45)] : List (S45))), 0)) else (some (([] : List (S45)), 1))) = some (r1, r2) := H
 have A2 := Aside0.mk A20
 clear A20
 by_cases c3 : t159 = true
 ·subst c3
  have H1 : (some ((([(⟨0, a0⟩ : S45)] : List (S45))), 0)) = some (r1, r2) := by rw [if_pos rfl] at H; exact H
  clear H
  have H := H1
  clear H1
  obtain ⟨y160, hy160⟩ : ∃ y_ : List (S45), y_ = (([(⟨0, a0⟩ : S45)] : List (S45))) := ⟨_, rfl⟩
  replace H : (some (y160, 0)) = some (r1, r2) := by first | (rw [hy160]; with_reducible exact H) | (have H2_ := (Option.bind_some _ _).symm.trans H; rw [hy160]; with_reducible exact H2_) | (have H2_ := (Option.bind_some _ _).symm.trans H; with_reducible exact H2_) | with_reducible exact H | (rw [hy160]; exact H) | exact H
  have Ny160 := Aside0.mk hy160
  clear hy160
  simp only [Option.some.injEq, Prod.mk.injEq] at H
  obtain ⟨rfl, rfl⟩ := H
  go_enter Try.func29, Try.ntmps29
  go_wp2_with (first | ((with_reducible refine gate_callee (f := 47) rfl ?_); refine goesL_ (some 5) rfl rfl Try.func47 (by kernel_rfl) rfl #[.int .i64 a0] rfl (by (try simp only [List.map_toArray, List.map_cons, List.map_nil]); first | done | rfl | (simp only [List.length_drop, List.length_take]; rfl)) ?_; (with_reducible refine (step_amount.calls a0 true _ A2.out).mono ?_); rintro e w' ⟨rfl, ⟨nd, rfl⟩⟩; refine ⟨_, rfl, ?_⟩) | ((with_reducible refine gate_dst (N := 9) rfl ?_); refine Kd.R_lit k45 _ 45 ?hg (N := 9) ?hd (xs := ([(⟨0, a0⟩ : S45)] : List (S45))) (inner := [.int .i64 0, .int .i64 a0]) (ok := fun _ => True) (okp := fun _ => True) ?hr ?hp (fun _ hk => hk) trivial (Below.refl _ _) (Nat.le_refl _) (by simp) ?_; (case hd => rfl); (case hg => rfl); (case hr => first | (go_simp; done) | (go_simp; rfl)); (case hp => exact (Reps.c2 (show Kd.M k45 _ _ _ (⟨0, a0⟩ : S45) [.int .i64 0, .int .i64 a0] from (k45_mkM _ _ _ (⟨0, a0⟩ : S45) )) (Reps.none _ _))); intro v161 w4 ho5 hb hg_ hnew_; clear hg_ hnew_; (first | rw [← Ny160.out] at ho5 | (simp only [Int.reduceToNat] at ho5; rw [← Ny160.out] at ho5)); have n0_ := Aside0.mk (Kd.R_lower ho5 (below_size (by repeat (first | (with_reducible first | exact HB.out | apply below_alloc | apply pw_below_drewN | apply below_drew1) | exact HB.out)))); have n1_ := Aside0.mk (below_step (by repeat (first | (with_reducible first | exact HB.out | apply below_alloc | apply pw_below_drewN | apply below_drew1) | exact HB.out)) hb); clear HB; have HO162 := n0_; have HB := n1_; clear n0_ n1_; clear hb ho5))
  go_ret2
  exact ⟨_, by first | rfl | (simp [errW_none, errW_some] <;> rfl) | (simp [*, errW_none, errW_some] <;> rfl), by (with_reducible repeat (first | apply Kd.R_alloc | apply Kd.R_drewN | apply Kd.R_drew)); exact HO162.out, by repeat (first | (with_reducible first | exact HB.out | apply below_alloc | apply pw_below_drewN | apply below_drew1) | exact HB.out)⟩
 ·replace c3 := Bool.eq_false_iff.mpr c3
  subst c3
  have H1 : (some (([] : List (S45)), 1)) = some (r1, r2) := by rw [if_neg (show ¬ (false = true) by decide)] at H; exact H
  clear H
  have H := H1
  clear H1
  simp only [Option.some.injEq, Prod.mk.injEq] at H
  obtain ⟨rfl, rfl⟩ := H
  go_enter Try.func29, Try.ntmps29
  go_wp2_with (first | ((with_reducible refine gate_callee (f := 47) rfl ?_); refine goesL_ (some 5) rfl rfl Try.func47 (by kernel_rfl) rfl #[.int .i64 a0] rfl (by (try simp only [List.map_toArray, List.map_cons, List.map_nil]); first | done | rfl | (simp only [List.length_drop, List.length_take]; rfl)) ?_; (with_reducible refine (step_amount.calls a0 false _ A2.out).mono ?_); rintro e w' ⟨rfl, ⟨nd, rfl⟩⟩; refine ⟨_, rfl, ?_⟩))
  go_ret2
  exact ⟨_, by first | rfl | (simp [errW_none, errW_some] <;> rfl) | (simp [*, errW_none, errW_some] <;> rfl), by first | exact Kd.R_nil _ _ _ _ _ | exact Kd.N_nil _ _ _ _ _ | exact Kd.V_nil _ _ _ _ _ | exact Kd.Q_nil _ _ _ _ _ | exact Kd.S_nil _ _ _ _ _, by repeat (first | (with_reducible first | exact HB.out | apply below_alloc | apply pw_below_drewN | apply below_drew1) | exact HB.out)⟩

def step_At.f (k : Nat) (l0 : List (S45)) (a1 : Int) : Option (Int) := (step_Right.f k l0).bind fun t163 => (if t163 = true then ((when_Right.f a1).bind fun t164 => (if t164 = true then ((step_place.f k l0 a1).bind fun t165 => (if 0 ≤ t165 then (if t165 < (l0.length : Int) then (some ((rd_T45 l0 t165).f1)) else (none)) else (none))) else (some 0))) else (some 0))
theorem step_At.mono : ∀ a0 a1 k, LeO (step_At.f k a0 a1) (step_At.f (k + 1) a0 a1) := by
 intro a0 a1 k
 unfold step_At.f
 repeat' first
   | (with_reducible exact step_Right.mono _ _)
   | (with_reducible exact step_place.mono _ _ _)
   | (with_reducible exact LeO.refl _)
   | (with_reducible exact LeO.none _)
   | (with_reducible refine LeO.ite ?_ ?_)
   | (with_reducible refine LeO.bind ?_ (fun _ => ?_))
   | exact step_Right.mono _ _
   | exact step_place.mono _ _ _
   | exact LeO.none _
   | refine LeO.ite ?_ ?_
   | refine LeO.bind ?_ (fun _ => ?_)
set_option maxHeartbeats 8000000 in
set_option maxRecDepth 100000 in
theorem step_At.calls (k : Nat) (A0 : Option Addr) (c0 : Nat) (l0 : List (S45)) (a1 : Int) (r : Int) (w : World) (hr0 : Kd.C k45 w A0 l0.length l0) (hc0 : l0.length ≤ c0) (h : step_At.f k l0 a1 = some r) :
  Calls Try.prog 31 #[.slice A0 l0.length c0, .int .i64 a1] w fun e w' => e = .returned (.int .i64 r) ∧ Below w.heap.size w w' := by
 have HR0 := Aside0.mk hr0
 have HC0 := Aside0.mk hc0
 clear hr0 hc0
 have HB := Aside0.mk (Below.refl w.heap.size w)
 have H : ((step_Right.f k l0).bind fun t163 => (if t163 = true then ((when_Right.f a1).bind fun t164 => (if t164 = true then ((step_place.f k l0 a1).bind fun t165 => (if 0 ≤ t165 then (if t165 < (l0.length : Int) then (some ((rd_T45 l0 t165).f1)) else (none)) else (none))) else (some 0))) else (some 0))) = some r := h
 clear h
 replace H := Option.bind_eq_some_iff.mp H
 obtain ⟨t163, A30, H⟩ := H
 replace H : (if t163 = true then ((when_Right.f a1).bind fun t164 => (if t164 = true then ((step_place.f k l0 a1).bind fun t165 => (if 0 ≤ t165 then (if t165 < (l0.length : Int) then (some ((rd_T45 l0 t165).f1)) else (none)) else (none))) else (some 0))) else (some 0)) = some r := H
 have A3 := Aside0.mk A30
 clear A30
 by_cases c4 : t163 = true
 ·subst c4
  have H1 : ((when_Right.f a1).bind fun t164 => (if t164 = true then ((step_place.f k l0 a1).bind fun t165 => (if 0 ≤ t165 then (if t165 < (l0.length : Int) then (some ((rd_T45 l0 t165).f1)) else (none)) else (none))) else (some 0))) = some r := by rw [if_pos rfl] at H; exact H
  clear H
  have H := H1
  clear H1
  replace H := Option.bind_eq_some_iff.mp H
  obtain ⟨t164, A50, H⟩ := H
  replace H : (if t164 = true then ((step_place.f k l0 a1).bind fun t165 => (if 0 ≤ t165 then (if t165 < (l0.length : Int) then (some ((rd_T45 l0 t165).f1)) else (none)) else (none))) else (some 0)) = some r := H
  have A5 := Aside0.mk A50
  clear A50
  by_cases c6 : t164 = true
  ·subst c6
   have H1 : ((step_place.f k l0 a1).bind fun t165 => (if 0 ≤ t165 then (if t165 < (l0.length : Int) then (some ((rd_T45 l0 t165).f1)) else (none)) else (none))) = some r := by rw [if_pos rfl] at H; exact H
   clear H
   have H := H1
   clear H1
   replace H := Option.bind_eq_some_iff.mp H
   obtain ⟨t165, A70, H⟩ := H
   replace H : (if 0 ≤ t165 then (if t165 < (l0.length : Int) then (some ((rd_T45 l0 t165).f1)) else (none)) else (none)) = some r := H
   have A7 := Aside0.mk A70
   clear A70
   by_cases c8 : 0 ≤ t165
   ·rw [if_pos c8] at H
    have c8b0 : decide (0 ≤ t165) = true := decide_eq_true c8
    clear c8
    by_cases c9 : t165 < (l0.length : Int)
    ·rw [if_pos c9] at H
     have c9b0 : decide (t165 < (l0.length : Int)) = true := decide_eq_true c9
     clear c9
     obtain rfl := Option.some.inj H
     go_enter Try.func31, Try.ntmps31
     go_wp2_with (first | ((with_reducible refine gate_callee (f := 17) rfl ?_); refine goesL_ (some 6) rfl rfl Try.func17 (by kernel_rfl) rfl #[.slice A0 l0.length c0] rfl (by (try simp only [List.map_toArray, List.map_cons, List.map_nil]); first | done | rfl | (simp only [List.length_drop, List.length_take]; rfl)) ?_; (with_reducible refine (step_Right.calls k _ _ l0 true _ ?side1 ?side2 A3.out).mono ?_); (case side1 => repeat (first | exact HR0.out | (with_reducible refine Kd.C_alloc ?_ _) | (with_reducible refine Kd.C_drewN ?_ _) | (with_reducible refine Kd.C_drew ?_))); (case side2 => exact HC0.out); rintro e w10 ⟨rfl, hb⟩; refine ⟨_, rfl, ?_⟩; have n0_ := Aside0.mk (below_step (by repeat (first | (with_reducible first | exact HB.out | apply below_alloc | apply pw_below_drewN | apply below_drew1) | exact HB.out)) hb); clear HB; have HB := n0_; clear n0_; (try clear hb); (try clear hb2); (try clear hk); (try clear hi)) | (go_at_call 18; (with_reducible refine (when_Right.calls a1 true _ A5.out).mono ?_); rintro e w' ⟨rfl, ⟨nd, rfl⟩⟩) | ((with_reducible refine gate_callee (f := 48) rfl ?_); refine goesL_ (some 16) rfl rfl Try.func48 (by kernel_rfl) rfl #[.slice A0 l0.length c0, .int .i64 a1] rfl (by (try simp only [List.map_toArray, List.map_cons, List.map_nil]); first | done | rfl | (simp only [List.length_drop, List.length_take]; rfl)) ?_; (with_reducible refine (step_place.calls k _ _ l0 a1 t165 _ ?side1 ?side2 A7.out).mono ?_); (case side1 => repeat (first | exact (Kd.C_below HR0.out (by repeat (first | (with_reducible first | exact HB.out | apply below_alloc | apply pw_below_drewN | apply below_drew1) | exact HB.out))) | (with_reducible refine Kd.C_alloc ?_ _) | (with_reducible refine Kd.C_drewN ?_ _) | (with_reducible refine Kd.C_drew ?_))); (case side2 => exact HC0.out); rintro e w11 ⟨rfl, hb⟩; refine ⟨_, rfl, ?_⟩; have n0_ := Aside0.mk (below_step (by repeat (first | (with_reducible first | exact HB.out | apply below_alloc | apply pw_below_drewN | apply below_drew1) | exact HB.out)) hb); clear HB; have HB := n0_; clear n0_; (try clear hb); (try clear hb2); (try clear hk); (try clear hi); have p166 : 0 ≤ (t165 : Int) := of_decide_eq_true (by first | (with_reducible assumption) | assumption); have q166 : t165 < (l0.length : Int) := of_decide_eq_true (by first | (with_reducible assumption) | assumption); obtain ⟨ad166, e166, hx166_0, hx166_1⟩ := at_T45 HR0.out t165 p166 q166; cases e166; replace hx166_0 := (HB.out.cell (World.block_lt_of_cell? w _ hx166_0)).trans hx166_0; replace hx166_1 := (HB.out.cell (World.block_lt_of_cell? w _ hx166_1)).trans hx166_1; replace p166 := eq_true p166; replace q166 := eq_true q166))
     go_ret
     exact ⟨by first | rfl | (simp [errW_none, errW_some] <;> rfl) | (simp [*, errW_none, errW_some] <;> rfl), by repeat (first | (with_reducible first | exact HB.out | apply below_alloc | apply pw_below_drewN | apply below_drew1) | exact HB.out)⟩
    ·rw [if_neg c9] at H
     exact absurd H (by simp)
   ·rw [if_neg c8] at H
    exact absurd H (by simp)
  ·replace c6 := Bool.eq_false_iff.mpr c6
   subst c6
   have H1 : (some 0) = some r := by rw [if_neg (show ¬ (false = true) by decide)] at H; exact H
   clear H
   have H := H1
   clear H1
   obtain rfl := Option.some.inj H
   go_enter Try.func31, Try.ntmps31
   go_wp2_with (first | ((with_reducible refine gate_callee (f := 17) rfl ?_); refine goesL_ (some 6) rfl rfl Try.func17 (by kernel_rfl) rfl #[.slice A0 l0.length c0] rfl (by (try simp only [List.map_toArray, List.map_cons, List.map_nil]); first | done | rfl | (simp only [List.length_drop, List.length_take]; rfl)) ?_; (with_reducible refine (step_Right.calls k _ _ l0 true _ ?side1 ?side2 A3.out).mono ?_); (case side1 => repeat (first | exact HR0.out | (with_reducible refine Kd.C_alloc ?_ _) | (with_reducible refine Kd.C_drewN ?_ _) | (with_reducible refine Kd.C_drew ?_))); (case side2 => exact HC0.out); rintro e w12 ⟨rfl, hb⟩; refine ⟨_, rfl, ?_⟩; have n0_ := Aside0.mk (below_step (by repeat (first | (with_reducible first | exact HB.out | apply below_alloc | apply pw_below_drewN | apply below_drew1) | exact HB.out)) hb); clear HB; have HB := n0_; clear n0_; (try clear hb); (try clear hb2); (try clear hk); (try clear hi)) | (go_at_call 18; (with_reducible refine (when_Right.calls a1 false _ A5.out).mono ?_); rintro e w' ⟨rfl, ⟨nd, rfl⟩⟩))
   go_ret
   exact ⟨by first | rfl | (simp [errW_none, errW_some] <;> rfl) | (simp [*, errW_none, errW_some] <;> rfl), by repeat (first | (with_reducible first | exact HB.out | apply below_alloc | apply pw_below_drewN | apply below_drew1) | exact HB.out)⟩
 ·replace c4 := Bool.eq_false_iff.mpr c4
  subst c4
  have H1 : (some 0) = some r := by rw [if_neg (show ¬ (false = true) by decide)] at H; exact H
  clear H
  have H := H1
  clear H1
  obtain rfl := Option.some.inj H
  go_enter Try.func31, Try.ntmps31
  go_wp2_with (first | ((with_reducible refine gate_callee (f := 17) rfl ?_); refine goesL_ (some 6) rfl rfl Try.func17 (by kernel_rfl) rfl #[.slice A0 l0.length c0] rfl (by (try simp only [List.map_toArray, List.map_cons, List.map_nil]); first | done | rfl | (simp only [List.length_drop, List.length_take]; rfl)) ?_; (with_reducible refine (step_Right.calls k _ _ l0 false _ ?side1 ?side2 A3.out).mono ?_); (case side1 => repeat (first | exact HR0.out | (with_reducible refine Kd.C_alloc ?_ _) | (with_reducible refine Kd.C_drewN ?_ _) | (with_reducible refine Kd.C_drew ?_))); (case side2 => exact HC0.out); rintro e w13 ⟨rfl, hb⟩; refine ⟨_, rfl, ?_⟩; have n0_ := Aside0.mk (below_step (by repeat (first | (with_reducible first | exact HB.out | apply below_alloc | apply pw_below_drewN | apply below_drew1) | exact HB.out)) hb); clear HB; have HB := n0_; clear n0_; (try clear hb); (try clear hb2); (try clear hk); (try clear hi)))
  go_ret
  exact ⟨by first | rfl | (simp [errW_none, errW_some] <;> rfl) | (simp [*, errW_none, errW_some] <;> rfl), by repeat (first | (with_reducible first | exact HB.out | apply below_alloc | apply pw_below_drewN | apply below_drew1) | exact HB.out)⟩

end Go.Proofs.Ytimllhflecippaa.F
end

section
namespace Go.Proofs.Ytimllhflecippaa.F
open Go.RowKit Go.Proofs.YtimllhflecippaaW.PrintWords Go.Proofs.YtimllhflecippaaW.PrintLast Go.Proofs.YtimllhflecippaaW.PrintMore
attribute [local go_sem] max2_int min2_int max_two min_two
set_option linter.unusedVariables false
set_option linter.unusedSimpArgs false

mutual
def step_Give.j0 : Nat → List (S45) → Int → Int → Int → Bool → Option ((List (S45)) × Int)
 | 0, _, _, _, _, _ => none
 | k + 1, x0, x1, x2, x3, x20 => if x20 = true then ((slices_Clone_api_Step_api_Step.f x0).bind fun t309 => (some (t309, 1))) else ((step_place.f k x0 x1).bind fun t312 => (step_Give.l0 k x0 x1 x2 x3 t312))
def step_Give.l0 : Nat → List (S45) → Int → Int → Int → Int → Option ((List (S45)) × Int)
 | 0, _, _, _, _, _ => none
 | k + 1, x0, x1, x2, x3, x10 => if x10 < (x0.length : Int) then (if 0 ≤ x10 then (step_Give.j2 k x0 x1 x2 x3 x10 (decide (((rd_T45 x0 x10).f0) < x2))) else (none)) else (step_Give.j2 k x0 x1 x2 x3 x10 false)
def step_Give.j2 : Nat → List (S45) → Int → Int → Int → Int → Bool → Option ((List (S45)) × Int)
 | 0, _, _, _, _, _, _ => none
 | k + 1, x0, x1, x2, x3, x10, x38 => if x38 = true then (if 0 ≤ x10 then (if x10 < (x0.length : Int) then (if (wrap64 (((rd_T45 x0 x10).f1) + x3)) > 1048576 then ((slices_Clone_api_Step_api_Step.f x0).bind fun t315 => (some (t315, 9))) else (step_Give.l0 k x0 x1 x2 x3 (wrap64 (x10 + 1)))) else (none)) else (none)) else ((step_change.f x0 x1 x2 x3).bind fun bt318 => (some (bt318.1, bt318.2)))
end
def step_Give.f (k : Nat) (l0 : List (S45)) (a1 : Int) (a2 : Int) (a3 : Int) : Option ((List (S45)) × Int) := (step_may.f k l0 a1 a2).bind fun t307 => (if t307 = true then ((step_amount.f a3).bind fun t308 => (step_Give.j0 k l0 a1 a2 a3 (!t308))) else (step_Give.j0 k l0 a1 a2 a3 true))
set_option maxHeartbeats 8000000 in
set_option maxRecDepth 100000 in
theorem step_Give.calls (k : Nat) (A0 : Option Addr) (c0 : Nat) (l0 : List (S45)) (a1 : Int) (a2 : Int) (a3 : Int) (r1 : List (S45)) (r2 : Int) (w : World) (hr0 : Kd.C k45 w A0 l0.length l0) (hc0 : l0.length ≤ c0) (h : step_Give.f k l0 a1 a2 a3 = some (r1, r2)) :
  Calls Try.prog 25 #[.slice A0 l0.length c0, .int .i64 a1, .int .i64 a2, .int .i64 a3] w fun e w' => ∃ v0_ : Value, e = .returned (.tuple #[v0_, .int .i64 r2]) ∧ Kd.R k45 45 w' w.heap.size (fun _ => True) v0_ r1 ∧ Below w.heap.size w w' := by
 have HR0 := Aside0.mk hr0
 have HC0 := Aside0.mk hc0
 clear hr0 hc0
 have HB := Aside0.mk (Below.refl w.heap.size w)
 have H : ((step_may.f k l0 a1 a2).bind fun t307 => (if t307 = true then ((step_amount.f a3).bind fun t308 => (step_Give.j0 k l0 a1 a2 a3 (!t308))) else (step_Give.j0 k l0 a1 a2 a3 true))) = some (r1, r2) := h
 clear h
 have HC5 := Aside0.mk H
 clear H
 go_enter Try.func25, Try.ntmps25
 go_upto_region 1 with (fail)
 go_cut [20] (fun v20 wc => ∃ (kq : Nat) (x20_4 : Bool), v20 = .bool x20_4 ∧ Aside0 (step_Give.j0 kq l0 a1 a2 a3 x20_4 = some (r1, r2)) ∧ Aside0 (kq ≤ k) ∧ Aside0 (Below w.heap.size w wc))
 case first =>
  have H := HC5.out
  clear HC5
  replace H := Option.bind_eq_some_iff.mp H
  obtain ⟨t307, A60, H⟩ := H
  replace H : (if t307 = true then ((step_amount.f a3).bind fun t308 => (step_Give.j0 k l0 a1 a2 a3 (!t308))) else (step_Give.j0 k l0 a1 a2 a3 true)) = some (r1, r2) := H
  have A6 := Aside0.mk A60
  clear A60
  by_cases c7 : t307 = true
  ·subst c7
   have H1 : ((step_amount.f a3).bind fun t308 => (step_Give.j0 k l0 a1 a2 a3 (!t308))) = some (r1, r2) := by rw [if_pos rfl] at H; exact H
   clear H
   have H := H1
   clear H1
   replace H := Option.bind_eq_some_iff.mp H
   obtain ⟨t308, A80, H⟩ := H
   replace H : (step_Give.j0 k l0 a1 a2 a3 (!t308)) = some (r1, r2) := H
   have A8 := Aside0.mk A80
   clear A80
   have H' := Aside0.mk H
   clear H
   go_wp2_with (first | ((with_reducible refine gate_callee (f := 50) rfl ?_); refine goesL_ (some 14) rfl rfl Try.func50 (by kernel_rfl) rfl #[.slice A0 l0.length c0, .int .i64 a1, .int .i64 a2] rfl (by (try simp only [List.map_toArray, List.map_cons, List.map_nil]); first | done | rfl | (simp only [List.length_drop, List.length_take]; rfl)) ?_; (with_reducible refine (step_may.calls k _ _ l0 a1 a2 true _ ?side1 ?side2 A6.out).mono ?_); (case side1 => repeat (first | exact (Kd.C_below HR0.out HB.out) | (with_reducible refine Kd.C_alloc ?_ _) | (with_reducible refine Kd.C_drewN ?_ _) | (with_reducible refine Kd.C_drew ?_))); (case side2 => exact HC0.out); rintro e w9 ⟨rfl, hb⟩; refine ⟨_, rfl, ?_⟩; have n0_ := Aside0.mk (below_step (by repeat (first | (with_reducible first | exact HB.out | apply below_alloc | apply pw_below_drewN | apply below_drew1) | exact HB.out)) hb); clear HB; have HB := n0_; clear n0_; (try clear hb); (try clear hb2); (try clear hk); (try clear hi)) | (go_at_call 47; (with_reducible refine (step_amount.calls a3 t308 _ A8.out).mono ?_); rintro e w' ⟨rfl, ⟨nd, rfl⟩⟩))
   go_meet
   case rel => exact ⟨_, (!t308), (by first | rfl | (simp; done) | (simp [*]; done)), H', ⟨by first | omega | exact Nat.le_refl _⟩, ⟨by repeat (first | (with_reducible first | exact HB.out | apply below_alloc | apply pw_below_drewN | apply below_drew1) | exact HB.out)⟩⟩
  ·replace c7 := Bool.eq_false_iff.mpr c7
   subst c7
   have H1 : (step_Give.j0 k l0 a1 a2 a3 true) = some (r1, r2) := by rw [if_neg (show ¬ (false = true) by decide)] at H; exact H
   clear H
   have H := H1
   clear H1
   have H' := Aside0.mk H
   clear H
   go_wp2_with (first | ((with_reducible refine gate_callee (f := 50) rfl ?_); refine goesL_ (some 14) rfl rfl Try.func50 (by kernel_rfl) rfl #[.slice A0 l0.length c0, .int .i64 a1, .int .i64 a2] rfl (by (try simp only [List.map_toArray, List.map_cons, List.map_nil]); first | done | rfl | (simp only [List.length_drop, List.length_take]; rfl)) ?_; (with_reducible refine (step_may.calls k _ _ l0 a1 a2 false _ ?side1 ?side2 A6.out).mono ?_); (case side1 => repeat (first | exact (Kd.C_below HR0.out HB.out) | (with_reducible refine Kd.C_alloc ?_ _) | (with_reducible refine Kd.C_drewN ?_ _) | (with_reducible refine Kd.C_drew ?_))); (case side2 => exact HC0.out); rintro e w10 ⟨rfl, hb⟩; refine ⟨_, rfl, ?_⟩; have n0_ := Aside0.mk (below_step (by repeat (first | (with_reducible first | exact HB.out | apply below_alloc | apply pw_below_drewN | apply below_drew1) | exact HB.out)) hb); clear HB; have HB := n0_; clear n0_; (try clear hb); (try clear hb2); (try clear hk); (try clear hi)))
   go_meet
   case rel => exact ⟨_, (true), (by first | rfl | (simp; done) | (simp [*]; done)), H', ⟨by first | omega | exact Nat.le_refl _⟩, ⟨by repeat (first | (with_reducible first | exact HB.out | apply below_alloc | apply pw_below_drewN | apply below_drew1) | exact HB.out)⟩⟩
 case rest =>
  clear HC5
  try clear c2
  try clear p2
  try clear c5
  try clear c7
  obtain ⟨kq, x20_4, rfl, HA, HJ4, HB⟩ := hcut
  cases kq with
  | zero => exact absurd HA.out (by simp [step_Give.j0])
  | succ kj4 =>
   have H := HA.out
   clear HA
   simp only [step_Give.j0] at H
   by_cases c11 : x20_4 = true
   ·subst c11
    have H1 : ((slices_Clone_api_Step_api_Step.f l0).bind fun t309 => (some (t309, 1))) = some (r1, r2) := by rw [if_pos rfl] at H; exact H
    clear H
    have H := H1
    clear H1
    replace H := Option.bind_eq_some_iff.mp H
    obtain ⟨t309, A120, H⟩ := H
    replace H : (some (t309, 1)) = some (r1, r2) := H
    have A12 := Aside0.mk A120
    clear A120
    simp only [Option.some.injEq, Prod.mk.injEq] at H
    obtain ⟨rfl, rfl⟩ := H
    go_wp2_with (first | ((with_reducible refine gate_callee (f := 53) rfl ?_); refine goesL_ (some 22) rfl rfl Try.func53 (by kernel_rfl) rfl #[.slice A0 l0.length c0] rfl (by (try simp only [List.map_toArray, List.map_cons, List.map_nil]); first | done | rfl | (simp only [List.length_drop, List.length_take]; rfl)) ?_; (with_reducible refine (slices_Clone_api_Step_api_Step.calls _ _ l0 t309 _ ?side1 ?side2 A12.out).mono ?_); (case side1 => repeat (first | exact (Kd.C_below HR0.out HB.out) | (with_reducible refine Kd.C_alloc ?_ _) | (with_reducible refine Kd.C_drewN ?_ _) | (with_reducible refine Kd.C_drew ?_))); (case side2 => exact HC0.out); rintro e w13 ⟨v310, rfl, ho0, hb⟩; refine ⟨_, rfl, ?_⟩; have n0_ := Aside0.mk (Kd.R_lower ho0 (below_size (by repeat (first | (with_reducible first | exact HB.out | apply below_alloc | apply pw_below_drewN | apply below_drew1) | exact HB.out)))); have n1_ := Aside0.mk (below_step (by repeat (first | (with_reducible first | exact HB.out | apply below_alloc | apply pw_below_drewN | apply below_drew1) | exact HB.out)) hb); clear HB; have HO311 := n0_; have HB := n1_; clear n0_ n1_; (try clear hb); (try clear hb2); (try clear hk); (try clear hi); (try clear ho0)))
    go_ret2
    exact ⟨_, by first | rfl | (simp [errW_none, errW_some] <;> rfl) | (simp [*, errW_none, errW_some] <;> rfl), by (with_reducible repeat (first | apply Kd.R_alloc | apply Kd.R_drewN | apply Kd.R_drew)); exact HO311.out, by repeat (first | (with_reducible first | exact HB.out | apply below_alloc | apply pw_below_drewN | apply below_drew1) | exact HB.out)⟩
   ·replace c11 := Bool.eq_false_iff.mpr c11
    subst c11
    have H1 : ((step_place.f kj4 l0 a1).bind fun t312 => (step_Give.l0 kj4 l0 a1 a2 a3 t312)) = some (r1, r2) := by rw [if_neg (show ¬ (false = true) by decide)] at H; exact H
    clear H
    have H := H1
    clear H1
    replace H := Option.bind_eq_some_iff.mp H
    obtain ⟨t312, A140, H⟩ := H
    replace H : (step_Give.l0 kj4 l0 a1 a2 a3 t312) = some (r1, r2) := H
    have A14 := Aside0.mk A140
    clear A140
    have H' := Aside0.mk H
    clear H
    go_wp2_with (first | ((with_reducible refine gate_callee (f := 48) rfl ?_); refine goesL_ (some 25) rfl rfl Try.func48 (by kernel_rfl) rfl #[.slice A0 l0.length c0, .int .i64 a1] rfl (by (try simp only [List.map_toArray, List.map_cons, List.map_nil]); first | done | rfl | (simp only [List.length_drop, List.length_take]; rfl)) ?_; (with_reducible refine (step_place.calls kj4 _ _ l0 a1 t312 _ ?side1 ?side2 A14.out).mono ?_); (case side1 => repeat (first | exact (Kd.C_below HR0.out HB.out) | (with_reducible refine Kd.C_alloc ?_ _) | (with_reducible refine Kd.C_drewN ?_ _) | (with_reducible refine Kd.C_drew ?_))); (case side2 => exact HC0.out); rintro e w15 ⟨rfl, hb⟩; refine ⟨_, rfl, ?_⟩; have n0_ := Aside0.mk (below_step (by repeat (first | (with_reducible first | exact HB.out | apply below_alloc | apply pw_below_drewN | apply below_drew1) | exact HB.out)) hb); clear HB; have HB := n0_; clear n0_; (try clear hb); (try clear hb2); (try clear hk); (try clear hi)))
    go_loopg [10] kj4 (fun kq v10 w' => ∃ (x10_2 : Int), v10 = .int .i64 x10_2 ∧ Aside0 (step_Give.l0 kq l0 a1 a2 a3 x10_2 = some (r1, r2)) ∧ Aside0 (kq ≤ kj4) ∧ Aside0 (Below w.heap.size w w'))
    case atStart => exact ⟨(t312), (by first | rfl | (simp; done) | (simp [*]; done)), H', ⟨Nat.le_refl _⟩, ⟨by repeat (first | (with_reducible first | exact HB.out | apply below_alloc | apply pw_below_drewN | apply below_drew1) | exact HB.out)⟩⟩
    case round =>
     clear H'
     try clear c1
     try clear c2
     try clear p2
     try clear c4
     try clear c5
     try clear c7
     try clear c11
     try clear p2
     obtain ⟨x10_2, rfl, HA, HK2, HB⟩ := hrel
     cases gk with
     | zero => exact absurd HA.out (by simp [step_Give.l0])
     | succ k2 =>
      have H := HA.out
      clear HA
      simp only [step_Give.l0] at H
      have HC16 := Aside0.mk H
      clear H
      go_upto_region 4 with (fail)
      go_cut [38] (fun v38 wc => ∃ (kq : Nat) (x38_15 : Bool), v38 = .bool x38_15 ∧ Aside0 (step_Give.j2 kq l0 a1 a2 a3 x10_2 x38_15 = some (r1, r2)) ∧ Aside0 (kq ≤ k2) ∧ Aside0 (Below w.heap.size w wc))
      case first =>
       have H := HC16.out
       clear HC16
       by_cases c17 : x10_2 < (l0.length : Int)
       ·rw [if_pos c17] at H
        have c17b0 : decide (x10_2 < (l0.length : Int)) = true := decide_eq_true c17
        clear c17
        (first | rw [c17b0] | (simp only [i64_w, i32_w]; rw [c17b0]) | skip)
        by_cases c18 : 0 ≤ x10_2
        ·rw [if_pos c18] at H
         have c18b0 : decide (0 ≤ x10_2) = true := decide_eq_true c18
         clear c18
         have H' := Aside0.mk H
         clear H
         have p313 : 0 ≤ (x10_2 : Int) := of_decide_eq_true (by first | (with_reducible assumption) | assumption)
         have q313 : x10_2 < (l0.length : Int) := of_decide_eq_true (by first | (with_reducible assumption) | assumption)
         obtain ⟨ad313, e313, hx313_0, hx313_1⟩ := at_T45 HR0.out x10_2 p313 q313
         cases e313
         replace hx313_0 := (HB.out.cell (World.block_lt_of_cell? w _ hx313_0)).trans hx313_0
         replace hx313_1 := (HB.out.cell (World.block_lt_of_cell? w _ hx313_1)).trans hx313_1
         replace p313 := eq_true p313
         replace q313 := eq_true q313
         go_wp2
         go_meet
         case rel => exact ⟨_, (decide (((rd_T45 l0 x10_2).f0) < a2)), (by first | rfl | (simp; done) | (simp [*]; done)), H', ⟨by have := HJ4.out; have := HK2.out; first | omega | exact Nat.le_refl _⟩, ⟨by repeat (first | (with_reducible first | exact HB.out | apply below_alloc | apply pw_below_drewN | apply below_drew1) | exact HB.out)⟩⟩
        ·rw [if_neg c18] at H
         exact absurd H (by simp)
       ·rw [if_neg c17] at H
        have c17b0 : decide (x10_2 < (l0.length : Int)) = false := decide_eq_false c17
        clear c17
        (first | rw [c17b0] | (simp only [i64_w, i32_w]; rw [c17b0]) | skip)
        have H' := Aside0.mk H
        clear H
        go_wp2
        go_meet
        case rel => exact ⟨_, (false), (by first | rfl | (simp; done) | (simp [*]; done)), H', ⟨by have := HJ4.out; have := HK2.out; first | omega | exact Nat.le_refl _⟩, ⟨by repeat (first | (with_reducible first | exact HB.out | apply below_alloc | apply pw_below_drewN | apply below_drew1) | exact HB.out)⟩⟩
      case rest =>
       clear HC16
       try clear c1
       try clear c2
       try clear p2
       try clear p3
       try clear q3
       try clear hx3
       try clear c4
       try clear c5
       try clear c7
       try clear c11
       try clear c17
       try clear c17b0
       try clear c18
       try clear c18b0
       try clear hx313_0
       try clear hx313_1
       try clear p2
       try clear p313
       try clear q313
       obtain ⟨kq, x38_15, rfl, HA, HJ15, HB⟩ := hcut
       cases kq with
       | zero => exact absurd HA.out (by simp [step_Give.j2])
       | succ kj15 =>
        have H := HA.out
        clear HA
        simp only [step_Give.j2] at H
        by_cases c19 : x38_15 = true
        ·subst c19
         have H1 : (if 0 ≤ x10_2 then (if x10_2 < (l0.length : Int) then (if (wrap64 (((rd_T45 l0 x10_2).f1) + a3)) > 1048576 then ((slices_Clone_api_Step_api_Step.f l0).bind fun t315 => (some (t315, 9))) else (step_Give.l0 kj15 l0 a1 a2 a3 (wrap64 (x10_2 + 1)))) else (none)) else (none)) = some (r1, r2) := by rw [if_pos rfl] at H; exact H
         clear H
         have H := H1
         clear H1
         by_cases c20 : 0 ≤ x10_2
         ·rw [if_pos c20] at H
          have c20b0 : decide (0 ≤ x10_2) = true := decide_eq_true c20
          clear c20
          by_cases c21 : x10_2 < (l0.length : Int)
          ·rw [if_pos c21] at H
           have c21b0 : decide (x10_2 < (l0.length : Int)) = true := decide_eq_true c21
           clear c21
           by_cases c22 : (wrap64 (((rd_T45 l0 x10_2).f1) + a3)) > 1048576
           ·rw [if_pos c22] at H
            have c22b0 : decide (1048576 < (wrap64 (((rd_T45 l0 x10_2).f1) + a3))) = true := decide_eq_true c22
            clear c22
            replace H := Option.bind_eq_some_iff.mp H
            obtain ⟨t315, A230, H⟩ := H
            replace H : (some (t315, 9)) = some (r1, r2) := H
            have A23 := Aside0.mk A230
            clear A230
            simp only [Option.some.injEq, Prod.mk.injEq] at H
            obtain ⟨rfl, rfl⟩ := H
            have p314 : 0 ≤ (x10_2 : Int) := of_decide_eq_true (by first | (with_reducible assumption) | assumption)
            have q314 : x10_2 < (l0.length : Int) := of_decide_eq_true (by first | (with_reducible assumption) | assumption)
            obtain ⟨ad314, e314, hx314_0, hx314_1⟩ := at_T45 HR0.out x10_2 p314 q314
            cases e314
            replace hx314_0 := (HB.out.cell (World.block_lt_of_cell? w _ hx314_0)).trans hx314_0
            replace hx314_1 := (HB.out.cell (World.block_lt_of_cell? w _ hx314_1)).trans hx314_1
            replace p314 := eq_true p314
            replace q314 := eq_true q314
            go_wp2_with (first | ((with_reducible refine gate_callee (f := 53) rfl ?_); refine goesL_ (some 50) rfl rfl Try.func53 (by kernel_rfl) rfl #[.slice (some ad314) l0.length c0] rfl (by (try simp only [List.map_toArray, List.map_cons, List.map_nil]); first | done | rfl | (simp only [List.length_drop, List.length_take]; rfl)) ?_; (with_reducible refine (slices_Clone_api_Step_api_Step.calls _ _ l0 t315 _ ?side1 ?side2 A23.out).mono ?_); (case side1 => repeat (first | exact (Kd.C_below HR0.out HB.out) | (with_reducible refine Kd.C_alloc ?_ _) | (with_reducible refine Kd.C_drewN ?_ _) | (with_reducible refine Kd.C_drew ?_))); (case side2 => exact HC0.out); rintro e w24 ⟨v316, rfl, ho0, hb⟩; refine ⟨_, rfl, ?_⟩; have n0_ := Aside0.mk (Kd.R_lower ho0 (below_size (by repeat (first | (with_reducible first | exact HB.out | apply below_alloc | apply pw_below_drewN | apply below_drew1) | exact HB.out)))); have n1_ := Aside0.mk (below_step (by repeat (first | (with_reducible first | exact HB.out | apply below_alloc | apply pw_below_drewN | apply below_drew1) | exact HB.out)) hb); clear HB; have HO317 := n0_; have HB := n1_; clear n0_ n1_; (try clear hb); (try clear hb2); (try clear hk); (try clear hi); (try clear ho0)))
            go_ret2
            exact ⟨_, by first | rfl | (simp [errW_none, errW_some] <;> rfl) | (simp [*, errW_none, errW_some] <;> rfl), by (with_reducible repeat (first | apply Kd.R_alloc | apply Kd.R_drewN | apply Kd.R_drew)); exact HO317.out, by repeat (first | (with_reducible first | exact HB.out | apply below_alloc | apply pw_below_drewN | apply below_drew1) | exact HB.out)⟩
           ·rw [if_neg c22] at H
            have c22b0 : decide (1048576 < (wrap64 (((rd_T45 l0 x10_2).f1) + a3))) = false := decide_eq_false c22
            clear c22
            have H' := Aside0.mk H
            clear H
            have p314 : 0 ≤ (x10_2 : Int) := of_decide_eq_true (by first | (with_reducible assumption) | assumption)
            have q314 : x10_2 < (l0.length : Int) := of_decide_eq_true (by first | (with_reducible assumption) | assumption)
            obtain ⟨ad314, e314, hx314_0, hx314_1⟩ := at_T45 HR0.out x10_2 p314 q314
            cases e314
            replace hx314_0 := (HB.out.cell (World.block_lt_of_cell? w _ hx314_0)).trans hx314_0
            replace hx314_1 := (HB.out.cell (World.block_lt_of_cell? w _ hx314_1)).trans hx314_1
            replace p314 := eq_true p314
            replace q314 := eq_true q314
            go_wp2
            go_roundg kj15
            case measure => have := HJ4.out; have := HK2.out; have := HJ15.out; omega
            case rel => exact ⟨(wrap64 (x10_2 + 1)), (by first | rfl | (simp; done) | (simp [*]; done)), H', ⟨by have := HJ4.out; have := HK2.out; have := HJ15.out; omega⟩, ⟨by repeat (first | (with_reducible first | exact HB.out | apply below_alloc | apply pw_below_drewN | apply below_drew1) | exact HB.out)⟩⟩
          ·rw [if_neg c21] at H
           exact absurd H (by simp)
         ·rw [if_neg c20] at H
          exact absurd H (by simp)
        ·replace c19 := Bool.eq_false_iff.mpr c19
         subst c19
         have H1 : ((step_change.f l0 a1 a2 a3).bind fun bt318 => (some (bt318.1, bt318.2))) = some (r1, r2) := by rw [if_neg (show ¬ (false = true) by decide)] at H; exact H
         clear H
         have H := H1
         clear H1
         replace H := Option.bind_eq_some_iff.mp H
         obtain ⟨⟨t318, t319⟩, A250, H⟩ := H
         replace H : (some (t318, t319)) = some (r1, r2) := H
         have A25 := Aside0.mk A250
         clear A250
         simp only [Option.some.injEq, Prod.mk.injEq] at H
         obtain ⟨rfl, rfl⟩ := H
         go_wp2_with (first | ((with_reducible refine gate_callee (f := 54) rfl ?_); refine goesL_ (some 55) rfl rfl Try.func54 (by kernel_rfl) rfl #[.slice A0 l0.length c0, .int .i64 a1, .int .i64 a2, .int .i64 a3] rfl (by (try simp only [List.map_toArray, List.map_cons, List.map_nil]); first | done | rfl | (simp only [List.length_drop, List.length_take]; rfl)) ?_; (with_reducible refine (step_change.calls _ _ l0 a1 a2 a3 t318 t319 _ ?side1 ?side2 A25.out).mono ?_); (case side1 => repeat (first | exact (Kd.C_below HR0.out HB.out) | (with_reducible refine Kd.C_alloc ?_ _) | (with_reducible refine Kd.C_drewN ?_ _) | (with_reducible refine Kd.C_drew ?_))); (case side2 => exact HC0.out); rintro e w26 ⟨v320, rfl, ho0, hb⟩; refine ⟨_, rfl, ?_⟩; have n0_ := Aside0.mk (Kd.R_lower ho0 (below_size (by repeat (first | (with_reducible first | exact HB.out | apply below_alloc | apply pw_below_drewN | apply below_drew1) | exact HB.out)))); have n1_ := Aside0.mk (below_step (by repeat (first | (with_reducible first | exact HB.out | apply below_alloc | apply pw_below_drewN | apply below_drew1) | exact HB.out)) hb); clear HB; have HO321 := n0_; have HB := n1_; clear n0_ n1_; (try clear hb); (try clear hb2); (try clear hk); (try clear hi); (try clear ho0)))
         go_ret2
         exact ⟨_, by first | rfl | (simp [errW_none, errW_some] <;> rfl) | (simp [*, errW_none, errW_some] <;> rfl), by (with_reducible repeat (first | apply Kd.R_alloc | apply Kd.R_drewN | apply Kd.R_drew)); exact HO321.out, by repeat (first | (with_reducible first | exact HB.out | apply below_alloc | apply pw_below_drewN | apply below_drew1) | exact HB.out)⟩

end Go.Proofs.Ytimllhflecippaa.F
end

section
namespace Go.Proofs.Ytimllhflecippaa.F
open Go.RowKit Go.Proofs.YtimllhflecippaaW.PrintWords Go.Proofs.YtimllhflecippaaW.PrintLast Go.Proofs.YtimllhflecippaaW.PrintMore
attribute [local go_sem] max2_int min2_int max_two min_two
set_option linter.unusedVariables false
set_option linter.unusedSimpArgs false

mutual
def bailiwickref03_Right.j0 : Nat → List (S45) → Bool → Option (Bool)
 | 0, _, _ => none
 | k + 1, x0, x18 => if x18 = true then (some false) else (bailiwickref03_Right.l0 k x0 0)
def bailiwickref03_Right.l0 : Nat → List (S45) → Int → Option (Bool)
 | 0, _, _ => none
 | k + 1, x0, x3 => if x3 < (x0.length : Int) then (if 0 ≤ x3 then (if ((rd_T45 x0 x3).f1) < 0 then (bailiwickref03_Right.j2 k x0 x3 true) else (if ((rd_T45 x0 x3).f1) > 1048576 then (bailiwickref03_Right.j2 k x0 x3 true) else (if ((rd_T45 x0 x3).f0) < 0 then (bailiwickref03_Right.j2 k x0 x3 true) else (bailiwickref03_Right.j2 k x0 x3 (decide (((rd_T45 x0 x3).f0) > 4611686018427387904)))))) else (none)) else (some true)
def bailiwickref03_Right.j2 : Nat → List (S45) → Int → Bool → Option (Bool)
 | 0, _, _, _ => none
 | k + 1, x0, x3, x54 => if x54 = true then (some false) else (if x3 > 0 then (if 0 ≤ x3 then (if x3 < (x0.length : Int) then (if 0 ≤ (wrap64 (x3 - 1)) then (if (wrap64 (x3 - 1)) < (x0.length : Int) then (if ((rd_T45 x0 x3).f0) ≤ ((rd_T45 x0 (wrap64 (x3 - 1))).f0) then (some false) else (if ((rd_T45 x0 x3).f1) = ((rd_T45 x0 (wrap64 (x3 - 1))).f1) then (some false) else (bailiwickref03_Right.l0 k x0 (wrap64 (x3 + 1))))) else (none)) else (none)) else (none)) else (none)) else (bailiwickref03_Right.l0 k x0 (wrap64 (x3 + 1))))
end
def bailiwickref03_Right.f (k : Nat) (l0 : List (S45)) : Option (Bool) := if (l0.length : Int) = 0 then (bailiwickref03_Right.j0 k l0 true) else (if (l0.length : Int) > 1024 then (bailiwickref03_Right.j0 k l0 true) else (if 0 < (l0.length : Int) then (bailiwickref03_Right.j0 k l0 (((rd_T45 l0 0).f0) != 0)) else (none)))
set_option maxHeartbeats 8000000 in
set_option maxRecDepth 100000 in
theorem bailiwickref03_Right.calls (k : Nat) (A0 : Option Addr) (c0 : Nat) (l0 : List (S45)) (r : Bool) (w : World) (hr0 : Kd.C k45 w A0 l0.length l0) (hc0 : l0.length ≤ c0) (h : bailiwickref03_Right.f k l0 = some r) :
  Calls Try.prog 30 #[.slice A0 l0.length c0] w fun e w' => e = .returned (.bool r) ∧ Drawn0 w w' := by
 have HR0 := Aside0.mk hr0
 have HC0 := Aside0.mk hc0
 clear hr0 hc0
 have H : (if (l0.length : Int) = 0 then (bailiwickref03_Right.j0 k l0 true) else (if (l0.length : Int) > 1024 then (bailiwickref03_Right.j0 k l0 true) else (if 0 < (l0.length : Int) then (bailiwickref03_Right.j0 k l0 (((rd_T45 l0 0).f0) != 0)) else (none)))) = some r := h
 clear h
 have HC2 := Aside0.mk H
 clear H
 go_enter Try.func30, Try.ntmps30
 go_upto_region 1 with (fail)
 repeat (go_quiet (fail); go_upto_region 1 with (fail))
 go_cut [18] (fun v18 wc => ∃ (kq : Nat) (x18_1 : Bool), v18 = .bool x18_1 ∧ Aside0 (bailiwickref03_Right.j0 kq l0 x18_1 = some r) ∧ Aside0 (kq ≤ k) ∧ Drawn0 w wc)
 case first =>
  have H := HC2.out
  clear HC2
  by_cases c3 : (l0.length : Int) = 0
  ·rw [if_pos c3] at H
   have c3b0 : ((l0.length : Int) == 0) = true := beq_iff_eq.mpr c3
   have c3b1 : ((l0.length : Int) != 0) = false := bne_eq_false_iff_eq.mpr c3
   clear c3
   (first | rw [c3b0] | (simp only [i64_w, i32_w]; rw [c3b0]) | skip)
   have H' := Aside0.mk H
   clear H
   go_wp2
   repeat (go_quiet (fail); try go_wp2)
   go_meet
   case rel => exact ⟨_, (true), (by first | rfl | (simp; done) | (simp [*]; done)), H', ⟨by first | omega | exact Nat.le_refl _⟩, by repeat (first | exact Drawn0.refl _ | apply Drawn0.step)⟩
  ·rw [if_neg c3] at H
   have c3b0 : ((l0.length : Int) == 0) = false := beq_eq_false_iff_ne.mpr c3
   have c3b1 : ((l0.length : Int) != 0) = true := bne_iff_ne.mpr c3
   have c3b2 : ¬ (l0 = []) := fun h_ => c3 (by rw [h_]; rfl)
   (first | rw [c3b0] | (simp only [i64_w, i32_w]; rw [c3b0]) | skip)
   by_cases c4 : (l0.length : Int) > 1024
   ·rw [if_pos c4] at H
    have c4b0 : decide (1024 < (l0.length : Int)) = true := decide_eq_true c4
    have c4b1 : decide (1024 < l0.length) = true := decide_eq_true (by omega)
    clear c4
    have H' := Aside0.mk H
    clear H
    go_wp2
    repeat (go_quiet (fail); try go_wp2)
    go_meet
    case rel => exact ⟨_, (true), (by first | rfl | (simp; done) | (simp [*]; done)), H', ⟨by first | omega | exact Nat.le_refl _⟩, by repeat (first | exact Drawn0.refl _ | apply Drawn0.step)⟩
   ·rw [if_neg c4] at H
    have c4b0 : decide (1024 < (l0.length : Int)) = false := decide_eq_false c4
    have c4b1 : decide (1024 < l0.length) = false := decide_eq_false (by omega)
    clear c4
    by_cases c5 : 0 < (l0.length : Int)
    ·rw [if_pos c5] at H
     have c5b0 : decide (0 < (l0.length : Int)) = true := decide_eq_true c5
     have c5b1 : decide (0 < l0.length) = true := decide_eq_true (by omega)
     clear c5
     have H' := Aside0.mk H
     clear H
     have p217 : 0 ≤ (0 : Int) := (by omega)
     have q217 : 0 < (l0.length : Int) := of_decide_eq_true (by first | (with_reducible assumption) | assumption)
     obtain ⟨ad217, e217, hx217_0, hx217_1⟩ := at_T45 HR0.out 0 p217 q217
     cases e217
     have qi217 : (0 < l0.length) = True := eq_true (by omega)
     (try rw [show ((0 : Int)).toNat = 0 from rfl] at hx217_0)
     (try rw [show 0 * 2 = 0 from rfl] at hx217_0)
     (try rw [Addr.add_zero'] at hx217_0)
     (try rw [show ((0 : Int)).toNat = 0 from rfl] at hx217_1)
     (try rw [show 0 * 2 = 0 from rfl] at hx217_1)
     (try rw [Addr.add_zero'] at hx217_1)
     replace p217 := eq_true p217
     replace q217 := eq_true q217
     go_wp2
     repeat (go_quiet (fail); try go_wp2)
     go_meet
     case rel => exact ⟨_, ((((rd_T45 l0 0).f0) != 0)), (by first | rfl | (simp; done) | (simp [*]; done)), H', ⟨by first | omega | exact Nat.le_refl _⟩, by repeat (first | exact Drawn0.refl _ | apply Drawn0.step)⟩
    ·rw [if_neg c5] at H
     exact absurd H (by simp)
 case rest =>
  clear HC2
  try clear p2
  try clear q2
  try clear hx2
  try clear qi2
  try clear c3
  try clear c3b0
  try clear c3b1
  try clear c3b2
  try clear c4
  try clear c4b0
  try clear c4b1
  try clear c5
  try clear c5b0
  try clear c5b1
  try clear hx217_0
  try clear hx217_1
  try clear p217
  try clear q217
  obtain ⟨kq, x18_1, rfl, HA, HJ1, ⟨mc1, rfl⟩⟩ := hcut
  cases kq with
  | zero => exact absurd HA.out (by simp [bailiwickref03_Right.j0])
  | succ kj1 =>
   have H := HA.out
   clear HA
   simp only [bailiwickref03_Right.j0] at H
   by_cases c6 : x18_1 = true
   ·subst c6
    have H1 : (some false) = some r := by rw [if_pos rfl] at H; exact H
    clear H
    have H := H1
    clear H1
    obtain rfl := Option.some.inj H
    go_wp2
    repeat (go_quiet (fail); try go_wp2)
    go_ret
    exact ⟨by first | rfl | (simp; done) | (simp [*]; done), by repeat (first | exact Drawn0.refl _ | apply Drawn0.step)⟩
   ·replace c6 := Bool.eq_false_iff.mpr c6
    subst c6
    have H1 : (bailiwickref03_Right.l0 kj1 l0 0) = some r := by rw [if_neg (show ¬ (false = true) by decide)] at H; exact H
    clear H
    have H := H1
    clear H1
    have H' := Aside0.mk H
    clear H
    go_wp2
    repeat (go_quiet (fail); try go_wp2)
    go_loopg [3] kj1 (fun kq v3 w' => ∃ (x3_2 : Int), v3 = .int .i64 x3_2 ∧ Aside0 (bailiwickref03_Right.l0 kq l0 x3_2 = some r) ∧ Aside0 (kq ≤ kj1) ∧ Drawn0 w w')
    case atStart => exact ⟨(0), (by first | rfl | (simp; done) | (simp [*]; done)), H', ⟨Nat.le_refl _⟩, by repeat (first | exact Drawn0.refl _ | apply Drawn0.step)⟩
    case round =>
     clear H'
     try clear c1
     try clear p2
     try clear q2
     try clear hx2
     try clear qi2
     try clear c3
     try clear c3b0
     try clear c3b1
     try clear c3b2
     try clear c4
     try clear c4b0
     try clear c4b1
     try clear c5
     try clear c5b0
     try clear c5b1
     try clear c6
     try clear hx217_0
     try clear hx217_1
     try clear p2
     try clear p217
     try clear q2
     try clear q217
     obtain ⟨x3_2, rfl, HA, HK2, ⟨m2, rfl⟩⟩ := hrel
     cases gk with
     | zero => exact absurd HA.out (by simp [bailiwickref03_Right.l0])
     | succ k2 =>
      have H := HA.out
      clear HA
      simp only [bailiwickref03_Right.l0] at H
      by_cases c7 : x3_2 < (l0.length : Int)
      ·rw [if_pos c7] at H
       have c7b0 : decide (x3_2 < (l0.length : Int)) = true := decide_eq_true c7
       clear c7
       have HC8 := Aside0.mk H
       clear H
       go_upto_region 6 with (fail)
       repeat (go_quiet (fail); go_upto_region 6 with (fail))
       go_cut [54] (fun v54 wc => ∃ (kq : Nat) (x54_7 : Bool), v54 = .bool x54_7 ∧ Aside0 (bailiwickref03_Right.j2 kq l0 x3_2 x54_7 = some r) ∧ Aside0 (kq ≤ k2) ∧ Drawn0 w wc)
       case first =>
        have H := HC8.out
        clear HC8
        by_cases c9 : 0 ≤ x3_2
        ·rw [if_pos c9] at H
         have c9b0 : decide (0 ≤ x3_2) = true := decide_eq_true c9
         clear c9
         (first | rw [c9b0] | (simp only [i64_w, i32_w]; rw [c9b0]) | skip)
         by_cases c10 : ((rd_T45 l0 x3_2).f1) < 0
         ·rw [if_pos c10] at H
          have c10b0 : decide (((rd_T45 l0 x3_2).f1) < 0) = true := decide_eq_true c10
          clear c10
          have H' := Aside0.mk H
          clear H
          have p218 : 0 ≤ (x3_2 : Int) := of_decide_eq_true (by first | (with_reducible assumption) | assumption)
          have q218 : x3_2 < (l0.length : Int) := of_decide_eq_true (by first | (with_reducible assumption) | assumption)
          obtain ⟨ad218, e218, hx218_0, hx218_1⟩ := at_T45 HR0.out x3_2 p218 q218
          cases e218
          replace p218 := eq_true p218
          replace q218 := eq_true q218
          go_wp2
          repeat (go_quiet (fail); try go_wp2)
          go_meet
          case rel => exact ⟨_, (true), (by first | rfl | (simp; done) | (simp [*]; done)), H', ⟨by have := HJ1.out; have := HK2.out; first | omega | exact Nat.le_refl _⟩, by repeat (first | exact Drawn0.refl _ | apply Drawn0.step)⟩
         ·rw [if_neg c10] at H
          have c10b0 : decide (((rd_T45 l0 x3_2).f1) < 0) = false := decide_eq_false c10
          clear c10
          by_cases c11 : ((rd_T45 l0 x3_2).f1) > 1048576
          ·rw [if_pos c11] at H
           have c11b0 : decide (1048576 < ((rd_T45 l0 x3_2).f1)) = true := decide_eq_true c11
           clear c11
           have H' := Aside0.mk H
           clear H
           have p218 : 0 ≤ (x3_2 : Int) := of_decide_eq_true (by first | (with_reducible assumption) | assumption)
           have q218 : x3_2 < (l0.length : Int) := of_decide_eq_true (by first | (with_reducible assumption) | assumption)
           obtain ⟨ad218, e218, hx218_0, hx218_1⟩ := at_T45 HR0.out x3_2 p218 q218
           cases e218
           replace p218 := eq_true p218
           replace q218 := eq_true q218
           have p219 : 0 ≤ (x3_2 : Int) := of_decide_eq_true (by first | (with_reducible assumption) | assumption)
           have q219 : x3_2 < (l0.length : Int) := of_decide_eq_true (by first | (with_reducible assumption) | assumption)
           obtain ⟨ad219, e219, hx219_0, hx219_1⟩ := at_T45 HR0.out x3_2 p219 q219
           obtain rfl : ad218 = ad219 := (by injection e219)
           replace p219 := eq_true p219
           replace q219 := eq_true q219
           go_wp2
           repeat (go_quiet (fail); try go_wp2)
           go_meet
           case rel => exact ⟨_, (true), (by first | rfl | (simp; done) | (simp [*]; done)), H', ⟨by have := HJ1.out; have := HK2.out; first | omega | exact Nat.le_refl _⟩, by repeat (first | exact Drawn0.refl _ | apply Drawn0.step)⟩
          ·rw [if_neg c11] at H
           have c11b0 : decide (1048576 < ((rd_T45 l0 x3_2).f1)) = false := decide_eq_false c11
           clear c11
           by_cases c12 : ((rd_T45 l0 x3_2).f0) < 0
           ·rw [if_pos c12] at H
            have c12b0 : decide (((rd_T45 l0 x3_2).f0) < 0) = true := decide_eq_true c12
            clear c12
            have H' := Aside0.mk H
            clear H
            have p218 : 0 ≤ (x3_2 : Int) := of_decide_eq_true (by first | (with_reducible assumption) | assumption)
            have q218 : x3_2 < (l0.length : Int) := of_decide_eq_true (by first | (with_reducible assumption) | assumption)
            obtain ⟨ad218, e218, hx218_0, hx218_1⟩ := at_T45 HR0.out x3_2 p218 q218
            cases e218
            replace p218 := eq_true p218
            replace q218 := eq_true q218
            have p219 : 0 ≤ (x3_2 : Int) := of_decide_eq_true (by first | (with_reducible assumption) | assumption)
            have q219 : x3_2 < (l0.length : Int) := of_decide_eq_true (by first | (with_reducible assumption) | assumption)
            obtain ⟨ad219, e219, hx219_0, hx219_1⟩ := at_T45 HR0.out x3_2 p219 q219
            obtain rfl : ad218 = ad219 := (by injection e219)
            replace p219 := eq_true p219
            replace q219 := eq_true q219
            have p220 : 0 ≤ (x3_2 : Int) := of_decide_eq_true (by first | (with_reducible assumption) | assumption)
            have q220 : x3_2 < (l0.length : Int) := of_decide_eq_true (by first | (with_reducible assumption) | assumption)
            obtain ⟨ad220, e220, hx220_0, hx220_1⟩ := at_T45 HR0.out x3_2 p220 q220
            obtain rfl : ad218 = ad220 := (by injection e220)
            replace p220 := eq_true p220
            replace q220 := eq_true q220
            go_wp2
            repeat (go_quiet (fail); try go_wp2)
            go_meet
            case rel => exact ⟨_, (true), (by first | rfl | (simp; done) | (simp [*]; done)), H', ⟨by have := HJ1.out; have := HK2.out; first | omega | exact Nat.le_refl _⟩, by repeat (first | exact Drawn0.refl _ | apply Drawn0.step)⟩
           ·rw [if_neg c12] at H
            have c12b0 : decide (((rd_T45 l0 x3_2).f0) < 0) = false := decide_eq_false c12
            clear c12
            have H' := Aside0.mk H
            clear H
            have p218 : 0 ≤ (x3_2 : Int) := of_decide_eq_true (by first | (with_reducible assumption) | assumption)
            have q218 : x3_2 < (l0.length : Int) := of_decide_eq_true (by first | (with_reducible assumption) | assumption)
            obtain ⟨ad218, e218, hx218_0, hx218_1⟩ := at_T45 HR0.out x3_2 p218 q218
            cases e218
            replace p218 := eq_true p218
            replace q218 := eq_true q218
            have p219 : 0 ≤ (x3_2 : Int) := of_decide_eq_true (by first | (with_reducible assumption) | assumption)
            have q219 : x3_2 < (l0.length : Int) := of_decide_eq_true (by first | (with_reducible assumption) | assumption)
            obtain ⟨ad219, e219, hx219_0, hx219_1⟩ := at_T45 HR0.out x3_2 p219 q219
            obtain rfl : ad218 = ad219 := (by injection e219)
            replace p219 := eq_true p219
            replace q219 := eq_true q219
            have p220 : 0 ≤ (x3_2 : Int) := of_decide_eq_true (by first | (with_reducible assumption) | assumption)
            have q220 : x3_2 < (l0.length : Int) := of_decide_eq_true (by first | (with_reducible assumption) | assumption)
            obtain ⟨ad220, e220, hx220_0, hx220_1⟩ := at_T45 HR0.out x3_2 p220 q220
            obtain rfl : ad218 = ad220 := (by injection e220)
            replace p220 := eq_true p220
            replace q220 := eq_true q220
            have p221 : 0 ≤ (x3_2 : Int) := of_decide_eq_true (by first | (with_reducible assumption) | assumption)
            have q221 : x3_2 < (l0.length : Int) := of_decide_eq_true (by first | (with_reducible assumption) | assumption)
            obtain ⟨ad221, e221, hx221_0, hx221_1⟩ := at_T45 HR0.out x3_2 p221 q221
            obtain rfl : ad218 = ad221 := (by injection e221)
            replace p221 := eq_true p221
            replace q221 := eq_true q221
            go_wp2
            repeat (go_quiet (fail); try go_wp2)
            go_meet
            case rel => exact ⟨_, (decide (((rd_T45 l0 x3_2).f0) > 4611686018427387904)), (by first | rfl | (simp; done) | (simp [*]; done)), H', ⟨by have := HJ1.out; have := HK2.out; first | omega | exact Nat.le_refl _⟩, by repeat (first | exact Drawn0.refl _ | apply Drawn0.step)⟩
        ·rw [if_neg c9] at H
         exact absurd H (by simp)
       case rest =>
        clear HC8
        try clear c1
        try clear p2
        try clear q2
        try clear hx2
        try clear qi2
        try clear c3
        try clear c3b0
        try clear c3b1
        try clear c3b2
        try clear c4
        try clear c4b0
        try clear c4b1
        try clear c5
        try clear c5b0
        try clear c5b1
        try clear c6
        try clear c7
        try clear c7b0
        try clear c9
        try clear c9b0
        try clear c10
        try clear c10b0
        try clear c11
        try clear c11b0
        try clear c12
        try clear c12b0
        try clear hx217_0
        try clear hx217_1
        try clear hx218_0
        try clear hx218_1
        try clear hx219_0
        try clear hx219_1
        try clear hx220_0
        try clear hx220_1
        try clear hx221_0
        try clear hx221_1
        try clear p2
        try clear p217
        try clear p218
        try clear p219
        try clear p220
        try clear p221
        try clear q2
        try clear q217
        try clear q218
        try clear q219
        try clear q220
        try clear q221
        obtain ⟨kq, x54_7, rfl, HA, HJ7, ⟨mc7, rfl⟩⟩ := hcut
        cases kq with
        | zero => exact absurd HA.out (by simp [bailiwickref03_Right.j2])
        | succ kj7 =>
         have H := HA.out
         clear HA
         simp only [bailiwickref03_Right.j2] at H
         by_cases c13 : x54_7 = true
         ·subst c13
          have H1 : (some false) = some r := by rw [if_pos rfl] at H; exact H
          clear H
          have H := H1
          clear H1
          obtain rfl := Option.some.inj H
          go_wp2
          repeat (go_quiet (fail); try go_wp2)
          go_ret
          exact ⟨by first | rfl | (simp; done) | (simp [*]; done), by repeat (first | exact Drawn0.refl _ | apply Drawn0.step)⟩
         ·replace c13 := Bool.eq_false_iff.mpr c13
          subst c13
          have H1 : (if x3_2 > 0 then (if 0 ≤ x3_2 then (if x3_2 < (l0.length : Int) then (if 0 ≤ (wrap64 (x3_2 - 1)) then (if (wrap64 (x3_2 - 1)) < (l0.length : Int) then (if ((rd_T45 l0 x3_2).f0) ≤ ((rd_T45 l0 (wrap64 (x3_2 - 1))).f0) then (some false) else (if ((rd_T45 l0 x3_2).f1) = ((rd_T45 l0 (wrap64 (x3_2 - 1))).f1) then (some false) else (bailiwickref03_Right.l0 kj7 l0 (wrap64 (x3_2 + 1))))) else (none)) else (none)) else (none)) else (none)) else (bailiwickref03_Right.l0 kj7 l0 (wrap64 (x3_2 + 1)))) = some r := by rw [if_neg (show ¬ (false = true) by decide)] at H; exact H
          clear H
          have H := H1
          clear H1
          by_cases c14 : x3_2 > 0
          ·rw [if_pos c14] at H
           have c14b0 : decide (0 < x3_2) = true := decide_eq_true c14
           clear c14
           by_cases c15 : 0 ≤ x3_2
           ·rw [if_pos c15] at H
            have c15b0 : decide (0 ≤ x3_2) = true := decide_eq_true c15
            clear c15
            by_cases c16 : x3_2 < (l0.length : Int)
            ·rw [if_pos c16] at H
             have c16b0 : decide (x3_2 < (l0.length : Int)) = true := decide_eq_true c16
             clear c16
             obtain ⟨ji17, hji17⟩ : ∃ j_ : Int, (wrap64 (x3_2 - 1)) = j_ := ⟨_, rfl⟩
             replace H : (if 0 ≤ (ji17) then (if (ji17) < (l0.length : Int) then (if ((rd_T45 l0 x3_2).f0) ≤ ((rd_T45 l0 (ji17)).f0) then (some false) else (if ((rd_T45 l0 x3_2).f1) = ((rd_T45 l0 (ji17)).f1) then (some false) else (bailiwickref03_Right.l0 kj7 l0 (wrap64 (x3_2 + 1))))) else (none)) else (none)) = some r := by first | (rw [hji17] at H; exact H) | (simp only [hji17] at H ⊢; exact H)
             have hji17w : (IntKind.i64.wrap (x3_2 - 1)) = ji17 := (i64_w _).trans hji17
             by_cases c18 : 0 ≤ (ji17)
             ·rw [if_pos c18] at H
              have c18b0 : decide (0 ≤ (ji17)) = true := decide_eq_true c18
              clear c18
              by_cases c19 : (ji17) < (l0.length : Int)
              ·rw [if_pos c19] at H
               have c19b0 : decide ((ji17) < (l0.length : Int)) = true := decide_eq_true c19
               clear c19
               by_cases c20 : ((rd_T45 l0 x3_2).f0) ≤ ((rd_T45 l0 (ji17)).f0)
               ·rw [if_pos c20] at H
                have c20b0 : decide (((rd_T45 l0 x3_2).f0) ≤ ((rd_T45 l0 (ji17)).f0)) = true := decide_eq_true c20
                clear c20
                obtain rfl := Option.some.inj H
                have p222 : 0 ≤ (x3_2 : Int) := of_decide_eq_true (by first | (with_reducible assumption) | assumption)
                have q222 : x3_2 < (l0.length : Int) := of_decide_eq_true (by first | (with_reducible assumption) | assumption)
                obtain ⟨ad222, e222, hx222_0, hx222_1⟩ := at_T45 HR0.out x3_2 p222 q222
                cases e222
                replace p222 := eq_true p222
                replace q222 := eq_true q222
                have p223 : 0 ≤ ((ji17) : Int) := of_decide_eq_true (by first | (with_reducible assumption) | assumption)
                have q223 : (ji17) < (l0.length : Int) := of_decide_eq_true (by first | (with_reducible assumption) | assumption)
                obtain ⟨ad223, e223, hx223_0, hx223_1⟩ := at_T45 HR0.out (ji17) p223 q223
                obtain rfl : ad222 = ad223 := (by injection e223)
                replace p223 := eq_true p223
                replace q223 := eq_true q223
                go_wp2
                repeat (go_quiet (fail); try go_wp2)
                go_ret
                exact ⟨by first | rfl | (simp; done) | (simp only [← hji17] <;> (first | rfl | simp)) | (simp [*]; done), by repeat (first | exact Drawn0.refl _ | apply Drawn0.step)⟩
               ·rw [if_neg c20] at H
                have c20b0 : decide (((rd_T45 l0 x3_2).f0) ≤ ((rd_T45 l0 (ji17)).f0)) = false := decide_eq_false c20
                clear c20
                by_cases c21 : ((rd_T45 l0 x3_2).f1) = ((rd_T45 l0 (ji17)).f1)
                ·rw [if_pos c21] at H
                 have c21b0 : (((rd_T45 l0 x3_2).f1) == ((rd_T45 l0 (ji17)).f1)) = true := beq_iff_eq.mpr c21
                 have c21b1 : (((rd_T45 l0 x3_2).f1) != ((rd_T45 l0 (ji17)).f1)) = false := bne_eq_false_iff_eq.mpr c21
                 clear c21
                 obtain rfl := Option.some.inj H
                 have p222 : 0 ≤ (x3_2 : Int) := of_decide_eq_true (by first | (with_reducible assumption) | assumption)
                 have q222 : x3_2 < (l0.length : Int) := of_decide_eq_true (by first | (with_reducible assumption) | assumption)
                 obtain ⟨ad222, e222, hx222_0, hx222_1⟩ := at_T45 HR0.out x3_2 p222 q222
                 cases e222
                 replace p222 := eq_true p222
                 replace q222 := eq_true q222
                 have p223 : 0 ≤ ((ji17) : Int) := of_decide_eq_true (by first | (with_reducible assumption) | assumption)
                 have q223 : (ji17) < (l0.length : Int) := of_decide_eq_true (by first | (with_reducible assumption) | assumption)
                 obtain ⟨ad223, e223, hx223_0, hx223_1⟩ := at_T45 HR0.out (ji17) p223 q223
                 obtain rfl : ad222 = ad223 := (by injection e223)
                 replace p223 := eq_true p223
                 replace q223 := eq_true q223
                 have p224 : 0 ≤ (x3_2 : Int) := of_decide_eq_true (by first | (with_reducible assumption) | assumption)
                 have q224 : x3_2 < (l0.length : Int) := of_decide_eq_true (by first | (with_reducible assumption) | assumption)
                 obtain ⟨ad224, e224, hx224_0, hx224_1⟩ := at_T45 HR0.out x3_2 p224 q224
                 obtain rfl : ad222 = ad224 := (by injection e224)
                 replace p224 := eq_true p224
                 replace q224 := eq_true q224
                 have p225 : 0 ≤ ((ji17) : Int) := of_decide_eq_true (by first | (with_reducible assumption) | assumption)
                 have q225 : (ji17) < (l0.length : Int) := of_decide_eq_true (by first | (with_reducible assumption) | assumption)
                 obtain ⟨ad225, e225, hx225_0, hx225_1⟩ := at_T45 HR0.out (ji17) p225 q225
                 obtain rfl : ad222 = ad225 := (by injection e225)
                 replace p225 := eq_true p225
                 replace q225 := eq_true q225
                 go_wp2
                 repeat (go_quiet (fail); try go_wp2)
                 go_ret
                 exact ⟨by first | rfl | (simp; done) | (simp only [← hji17] <;> (first | rfl | simp)) | (simp [*]; done), by repeat (first | exact Drawn0.refl _ | apply Drawn0.step)⟩
                ·rw [if_neg c21] at H
                 have c21b0 : (((rd_T45 l0 x3_2).f1) == ((rd_T45 l0 (ji17)).f1)) = false := beq_eq_false_iff_ne.mpr c21
                 have c21b1 : (((rd_T45 l0 x3_2).f1) != ((rd_T45 l0 (ji17)).f1)) = true := bne_iff_ne.mpr c21
                 have H' := Aside0.mk H
                 clear H
                 have p222 : 0 ≤ (x3_2 : Int) := of_decide_eq_true (by first | (with_reducible assumption) | assumption)
                 have q222 : x3_2 < (l0.length : Int) := of_decide_eq_true (by first | (with_reducible assumption) | assumption)
                 obtain ⟨ad222, e222, hx222_0, hx222_1⟩ := at_T45 HR0.out x3_2 p222 q222
                 cases e222
                 replace p222 := eq_true p222
                 replace q222 := eq_true q222
                 have p223 : 0 ≤ ((ji17) : Int) := of_decide_eq_true (by first | (with_reducible assumption) | assumption)
                 have q223 : (ji17) < (l0.length : Int) := of_decide_eq_true (by first | (with_reducible assumption) | assumption)
                 obtain ⟨ad223, e223, hx223_0, hx223_1⟩ := at_T45 HR0.out (ji17) p223 q223
                 obtain rfl : ad222 = ad223 := (by injection e223)
                 replace p223 := eq_true p223
                 replace q223 := eq_true q223
                 have p224 : 0 ≤ (x3_2 : Int) := of_decide_eq_true (by first | (with_reducible assumption) | assumption)
                 have q224 : x3_2 < (l0.length : Int) := of_decide_eq_true (by first | (with_reducible assumption) | assumption)
                 obtain ⟨ad224, e224, hx224_0, hx224_1⟩ := at_T45 HR0.out x3_2 p224 q224
                 obtain rfl : ad222 = ad224 := (by injection e224)
                 replace p224 := eq_true p224
                 replace q224 := eq_true q224
                 have p225 : 0 ≤ ((ji17) : Int) := of_decide_eq_true (by first | (with_reducible assumption) | assumption)
                 have q225 : (ji17) < (l0.length : Int) := of_decide_eq_true (by first | (with_reducible assumption) | assumption)
                 obtain ⟨ad225, e225, hx225_0, hx225_1⟩ := at_T45 HR0.out (ji17) p225 q225
                 obtain rfl : ad222 = ad225 := (by injection e225)
                 replace p225 := eq_true p225
                 replace q225 := eq_true q225
                 go_wp2
                 repeat (go_quiet (fail); try go_wp2)
                 go_roundg kj7
                 case measure => have := HJ1.out; have := HK2.out; have := HJ7.out; omega
                 case rel => exact ⟨(wrap64 (x3_2 + 1)), (by first | rfl | (simp; done) | (simp [*]; done)), H', ⟨by have := HJ1.out; have := HK2.out; have := HJ7.out; omega⟩, by repeat (first | exact Drawn0.refl _ | apply Drawn0.step)⟩
              ·rw [if_neg c19] at H
               exact absurd H (by simp)
             ·rw [if_neg c18] at H
              exact absurd H (by simp)
            ·rw [if_neg c16] at H
             exact absurd H (by simp)
           ·rw [if_neg c15] at H
            exact absurd H (by simp)
          ·rw [if_neg c14] at H
           have c14b0 : decide (0 < x3_2) = false := decide_eq_false c14
           clear c14
           have H' := Aside0.mk H
           clear H
           go_wp2
           repeat (go_quiet (fail); try go_wp2)
           go_roundg kj7
           case measure => have := HJ1.out; have := HK2.out; have := HJ7.out; omega
           case rel => exact ⟨(wrap64 (x3_2 + 1)), (by first | rfl | (simp; done) | (simp [*]; done)), H', ⟨by have := HJ1.out; have := HK2.out; have := HJ7.out; omega⟩, by repeat (first | exact Drawn0.refl _ | apply Drawn0.step)⟩
      ·rw [if_neg c7] at H
       have c7b0 : decide (x3_2 < (l0.length : Int)) = false := decide_eq_false c7
       clear c7
       obtain rfl := Option.some.inj H
       go_wp2
       repeat (go_quiet (fail); try go_wp2)
       go_ret
       exact ⟨by first | rfl | (simp; done) | (simp [*]; done), by repeat (first | exact Drawn0.refl _ | apply Drawn0.step)⟩

end Go.Proofs.Ytimllhflecippaa.F
end

section
namespace Go.Proofs.Ytimllhflecippaa.F
open Go.RowKit Go.Proofs.YtimllhflecippaaW.PrintWords Go.Proofs.YtimllhflecippaaW.PrintLast Go.Proofs.YtimllhflecippaaW.PrintMore
attribute [local go_sem] max2_int min2_int max_two min_two
set_option linter.unusedVariables false
set_option linter.unusedSimpArgs false

def bailiwickref03_May.f (k : Nat) (l0 : List (S45)) (a1 : Int) (a2 : Int) : Option (Bool) := (bailiwickref03_Right.f k l0).bind fun t226 => (if t226 = true then (if a1 ≥ 0 then (if a1 < a2 then (some (decide (a2 ≤ 4611686018427387904))) else (some false)) else (some false)) else (some false))
set_option maxHeartbeats 8000000 in
set_option maxRecDepth 100000 in
theorem bailiwickref03_May.calls (k : Nat) (A0 : Option Addr) (c0 : Nat) (l0 : List (S45)) (a1 : Int) (a2 : Int) (r : Bool) (w : World) (hr0 : Kd.C k45 w A0 l0.length l0) (hc0 : l0.length ≤ c0) (h : bailiwickref03_May.f k l0 a1 a2 = some r) :
  Calls Try.prog 27 #[.slice A0 l0.length c0, .int .i64 a1, .int .i64 a2] w fun e w' => e = .returned (.bool r) ∧ Drawn0 w w' := by
 have HR0 := Aside0.mk hr0
 have HC0 := Aside0.mk hc0
 clear hr0 hc0
 have H : ((bailiwickref03_Right.f k l0).bind fun t226 => (if t226 = true then (if a1 ≥ 0 then (if a1 < a2 then (some (decide (a2 ≤ 4611686018427387904))) else (some false)) else (some false)) else (some false))) = some r := h
 clear h
 replace H := Option.bind_eq_some_iff.mp H
 obtain ⟨t226, A40, H⟩ := H
 replace H : (if t226 = true then (if a1 ≥ 0 then (if a1 < a2 then (some (decide (a2 ≤ 4611686018427387904))) else (some false)) else (some false)) else (some false)) = some r := H
 have A4 := Aside0.mk A40
 clear A40
 by_cases c5 : t226 = true
 ·subst c5
  have H1 : (if a1 ≥ 0 then (if a1 < a2 then (some (decide (a2 ≤ 4611686018427387904))) else (some false)) else (some false)) = some r := by rw [if_pos rfl] at H; exact H
  clear H
  have H := H1
  clear H1
  by_cases c6 : a1 ≥ 0
  ·rw [if_pos c6] at H
   have c6b0 : decide (0 ≤ a1) = true := decide_eq_true c6
   clear c6
   by_cases c7 : a1 < a2
   ·rw [if_pos c7] at H
    have c7b0 : decide (a1 < a2) = true := decide_eq_true c7
    clear c7
    obtain rfl := Option.some.inj H
    go_enter Try.func27, Try.ntmps27
    go_wp2_with (first | ((with_reducible refine gate_callee (f := 30) rfl ?_); refine goesL_ (some 8) rfl rfl Try.func30 (by kernel_rfl) rfl #[.slice A0 l0.length c0] rfl (by (try simp only [List.map_toArray, List.map_cons, List.map_nil]); first | done | rfl | (simp only [List.length_drop, List.length_take]; rfl)) ?_; (with_reducible refine (bailiwickref03_Right.calls k _ _ l0 true _ ?side1 ?side2 A4.out).mono ?_); (case side1 => repeat (first | exact HR0.out | (with_reducible refine Kd.C_alloc ?_ _) | (with_reducible refine Kd.C_drewN ?_ _) | (with_reducible refine Kd.C_drew ?_))); (case side2 => exact HC0.out); rintro e w' ⟨rfl, ⟨nd, rfl⟩⟩; refine ⟨_, rfl, ?_⟩))
    go_ret
    exact ⟨by first | rfl | (simp; done) | (simp [*]; done), by repeat (first | exact Drawn0.refl _ | apply Drawn0.step)⟩
   ·rw [if_neg c7] at H
    have c7b0 : decide (a1 < a2) = false := decide_eq_false c7
    clear c7
    obtain rfl := Option.some.inj H
    go_enter Try.func27, Try.ntmps27
    go_wp2_with (first | ((with_reducible refine gate_callee (f := 30) rfl ?_); refine goesL_ (some 8) rfl rfl Try.func30 (by kernel_rfl) rfl #[.slice A0 l0.length c0] rfl (by (try simp only [List.map_toArray, List.map_cons, List.map_nil]); first | done | rfl | (simp only [List.length_drop, List.length_take]; rfl)) ?_; (with_reducible refine (bailiwickref03_Right.calls k _ _ l0 true _ ?side1 ?side2 A4.out).mono ?_); (case side1 => repeat (first | exact HR0.out | (with_reducible refine Kd.C_alloc ?_ _) | (with_reducible refine Kd.C_drewN ?_ _) | (with_reducible refine Kd.C_drew ?_))); (case side2 => exact HC0.out); rintro e w' ⟨rfl, ⟨nd, rfl⟩⟩; refine ⟨_, rfl, ?_⟩))
    go_ret
    exact ⟨by first | rfl | (simp; done) | (simp [*]; done), by repeat (first | exact Drawn0.refl _ | apply Drawn0.step)⟩
  ·rw [if_neg c6] at H
   have c6b0 : decide (0 ≤ a1) = false := decide_eq_false c6
   clear c6
   obtain rfl := Option.some.inj H
   go_enter Try.func27, Try.ntmps27
   go_wp2_with (first | ((with_reducible refine gate_callee (f := 30) rfl ?_); refine goesL_ (some 8) rfl rfl Try.func30 (by kernel_rfl) rfl #[.slice A0 l0.length c0] rfl (by (try simp only [List.map_toArray, List.map_cons, List.map_nil]); first | done | rfl | (simp only [List.length_drop, List.length_take]; rfl)) ?_; (with_reducible refine (bailiwickref03_Right.calls k _ _ l0 true _ ?side1 ?side2 A4.out).mono ?_); (case side1 => repeat (first | exact HR0.out | (with_reducible refine Kd.C_alloc ?_ _) | (with_reducible refine Kd.C_drewN ?_ _) | (with_reducible refine Kd.C_drew ?_))); (case side2 => exact HC0.out); rintro e w' ⟨rfl, ⟨nd, rfl⟩⟩; refine ⟨_, rfl, ?_⟩))
   go_ret
   exact ⟨by first | rfl | (simp; done) | (simp [*]; done), by repeat (first | exact Drawn0.refl _ | apply Drawn0.step)⟩
 ·replace c5 := Bool.eq_false_iff.mpr c5
  subst c5
  have H1 : (some false) = some r := by rw [if_neg (show ¬ (false = true) by decide)] at H; exact H
  clear H
  have H := H1
  clear H1
  obtain rfl := Option.some.inj H
  go_enter Try.func27, Try.ntmps27
  go_wp2_with (first | ((with_reducible refine gate_callee (f := 30) rfl ?_); refine goesL_ (some 8) rfl rfl Try.func30 (by kernel_rfl) rfl #[.slice A0 l0.length c0] rfl (by (try simp only [List.map_toArray, List.map_cons, List.map_nil]); first | done | rfl | (simp only [List.length_drop, List.length_take]; rfl)) ?_; (with_reducible refine (bailiwickref03_Right.calls k _ _ l0 false _ ?side1 ?side2 A4.out).mono ?_); (case side1 => repeat (first | exact HR0.out | (with_reducible refine Kd.C_alloc ?_ _) | (with_reducible refine Kd.C_drewN ?_ _) | (with_reducible refine Kd.C_drew ?_))); (case side2 => exact HC0.out); rintro e w' ⟨rfl, ⟨nd, rfl⟩⟩; refine ⟨_, rfl, ?_⟩))
  go_ret
  exact ⟨by first | rfl | (simp; done) | (simp [*]; done), by repeat (first | exact Drawn0.refl _ | apply Drawn0.step)⟩

def bailiwickref03_at.l0 : Nat → List (S45) → Int → Int → Int → Option (Int)
 | 0, _, _, _, _ => none
 | k + 1, x0, x1, x5, x6 => if x6 < (x0.length : Int) then (if 0 ≤ x6 then (if ((rd_T45 x0 x6).f0) ≤ x1 then (bailiwickref03_at.l0 k x0 x1 ((rd_T45 x0 x6).f1) (wrap64 (x6 + 1))) else (bailiwickref03_at.l0 k x0 x1 x5 (wrap64 (x6 + 1)))) else (none)) else (some x5)
def bailiwickref03_at.f (k : Nat) (l0 : List (S45)) (a1 : Int) : Option (Int) := bailiwickref03_at.l0 k l0 a1 0 0
set_option maxHeartbeats 8000000 in
set_option maxRecDepth 100000 in
theorem bailiwickref03_at.calls (k : Nat) (A0 : Option Addr) (c0 : Nat) (l0 : List (S45)) (a1 : Int) (r : Int) (w : World) (hr0 : Kd.C k45 w A0 l0.length l0) (hc0 : l0.length ≤ c0) (h : bailiwickref03_at.f k l0 a1 = some r) :
  Calls Try.prog 57 #[.slice A0 l0.length c0, .int .i64 a1] w fun e w' => e = .returned (.int .i64 r) ∧ Drawn0 w w' := by
 have HR0 := Aside0.mk hr0
 have HC0 := Aside0.mk hc0
 clear hr0 hc0
 have H : (bailiwickref03_at.l0 k l0 a1 0 0) = some r := h
 clear h
 have H' := Aside0.mk H
 clear H
 go_enter Try.func57, Try.ntmps57
 go_wp2
 go_loopg [5, 6] k (fun kq v5 v6 w' => ∃ (x5_1 : Int) (x6_1 : Int), v5 = .int .i64 x5_1 ∧ v6 = .int .i64 x6_1 ∧ Aside0 (bailiwickref03_at.l0 kq l0 a1 x5_1 x6_1 = some r) ∧ Aside0 (kq ≤ k) ∧ Drawn0 w w')
 case atStart => exact ⟨(0), (0), (by first | rfl | (simp; done) | (simp [*]; done)), (by first | rfl | (simp; done) | (simp [*]; done)), H', ⟨Nat.le_refl _⟩, by repeat (first | exact Drawn0.refl _ | apply Drawn0.step)⟩
 case round =>
  clear H'
  try clear p2
  obtain ⟨x5_1, x6_1, rfl, rfl, HA, HK1, ⟨m1, rfl⟩⟩ := hrel
  cases gk with
  | zero => exact absurd HA.out (by simp [bailiwickref03_at.l0])
  | succ k1 =>
   have H := HA.out
   clear HA
   simp only [bailiwickref03_at.l0] at H
   by_cases c3 : x6_1 < (l0.length : Int)
   ·rw [if_pos c3] at H
    have c3b0 : decide (x6_1 < (l0.length : Int)) = true := decide_eq_true c3
    clear c3
    by_cases c4 : 0 ≤ x6_1
    ·rw [if_pos c4] at H
     have c4b0 : decide (0 ≤ x6_1) = true := decide_eq_true c4
     clear c4
     by_cases c5 : ((rd_T45 l0 x6_1).f0) ≤ a1
     ·rw [if_pos c5] at H
      have c5b0 : decide (((rd_T45 l0 x6_1).f0) ≤ a1) = true := decide_eq_true c5
      clear c5
      have H' := Aside0.mk H
      clear H
      have p227 : 0 ≤ (x6_1 : Int) := of_decide_eq_true (by first | (with_reducible assumption) | assumption)
      have q227 : x6_1 < (l0.length : Int) := of_decide_eq_true (by first | (with_reducible assumption) | assumption)
      obtain ⟨ad227, e227, hx227_0, hx227_1⟩ := at_T45 HR0.out x6_1 p227 q227
      cases e227
      replace p227 := eq_true p227
      replace q227 := eq_true q227
      have p228 : 0 ≤ (x6_1 : Int) := of_decide_eq_true (by first | (with_reducible assumption) | assumption)
      have q228 : x6_1 < (l0.length : Int) := of_decide_eq_true (by first | (with_reducible assumption) | assumption)
      obtain ⟨ad228, e228, hx228_0, hx228_1⟩ := at_T45 HR0.out x6_1 p228 q228
      obtain rfl : ad227 = ad228 := (by injection e228)
      replace p228 := eq_true p228
      replace q228 := eq_true q228
      go_wp2
      go_roundg k1
      case measure => have := HK1.out; omega
      case rel => exact ⟨((rd_T45 l0 x6_1).f1), (wrap64 (x6_1 + 1)), (by first | rfl | (simp; done) | (simp [*]; done)), (by first | rfl | (simp; done) | (simp [*]; done)), H', ⟨by have := HK1.out; omega⟩, by repeat (first | exact Drawn0.refl _ | apply Drawn0.step)⟩
     ·rw [if_neg c5] at H
      have c5b0 : decide (((rd_T45 l0 x6_1).f0) ≤ a1) = false := decide_eq_false c5
      clear c5
      have H' := Aside0.mk H
      clear H
      have p227 : 0 ≤ (x6_1 : Int) := of_decide_eq_true (by first | (with_reducible assumption) | assumption)
      have q227 : x6_1 < (l0.length : Int) := of_decide_eq_true (by first | (with_reducible assumption) | assumption)
      obtain ⟨ad227, e227, hx227_0, hx227_1⟩ := at_T45 HR0.out x6_1 p227 q227
      cases e227
      replace p227 := eq_true p227
      replace q227 := eq_true q227
      go_wp2
      go_roundg k1
      case measure => have := HK1.out; omega
      case rel => exact ⟨(x5_1), (wrap64 (x6_1 + 1)), (by first | rfl | (simp; done) | (simp [*]; done)), (by first | rfl | (simp; done) | (simp [*]; done)), H', ⟨by have := HK1.out; omega⟩, by repeat (first | exact Drawn0.refl _ | apply Drawn0.step)⟩
    ·rw [if_neg c4] at H
     exact absurd H (by simp)
   ·rw [if_neg c3] at H
    have c3b0 : decide (x6_1 < (l0.length : Int)) = false := decide_eq_false c3
    clear c3
    obtain rfl := Option.some.inj H
    go_wp2
    go_ret
    exact ⟨by first | rfl | (simp; done) | (simp [*]; done), by repeat (first | exact Drawn0.refl _ | apply Drawn0.step)⟩

end Go.Proofs.Ytimllhflecippaa.F
end
