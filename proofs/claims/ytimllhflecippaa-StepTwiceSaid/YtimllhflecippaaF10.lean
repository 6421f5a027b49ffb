-- Written by gprint.py (this repo's own driver over the kit's printer); Lean checks it.
import Derived.Test.YtimllhflecippaaF0
import Derived.Test.YtimllhflecippaaF8
import Derived.Test.YtimllhflecippaaF9
namespace Go.Proofs.Ytimllhflecippaa.F
open Go.RowKit Go.Proofs.YtimllhflecippaaW.PrintWords Go.Proofs.YtimllhflecippaaW.PrintLast Go.Proofs.YtimllhflecippaaW.PrintMore
attribute [local go_sem] max2_int min2_int max_two min_two max_three min_three max_four min_four   -- for this text's walks alone
set_option linter.unusedVariables false
set_option linter.unusedSimpArgs false

/-! ### bailiwicklaw03_StepTwice: function 5 -/
mutual
def bailiwicklaw03_StepTwice.j0 : Nat → List (S45) → Int → Int → Int → Int → Int → Bool → Option (Bool)
 | 0, _, _, _, _, _, _, _ => none
 | k + 1, x0, x1, x2, x3, x4, x5, x43 => if x43 = true then (some true) else ((step_Take.f k x0 x1 x3 x4).bind fun bt187 => ((step_Take.f k bt187.1 x1 x3 x5).bind fun bt191 => ((step_Take.f k x0 x1 x3 (wrap64 (x4 + x5))).bind fun bt195 => (if bt187.2 = 0 then (if ((bt191.2 == 0) != (bt195.2 == 0)) = true then (bailiwicklaw03_StepTwice.j1 k x0 x1 x2 x3 x4 bt187.2 true) else (if bt195.2 = 0 then ((bailiwickref03_Same.f k bt191.1 bt195.1).bind fun t199 => (bailiwicklaw03_StepTwice.j1 k x0 x1 x2 x3 x4 bt187.2 (!t199))) else (bailiwicklaw03_StepTwice.j1 k x0 x1 x2 x3 x4 bt187.2 false))) else (if (false != (bt195.2 == 0)) = true then (bailiwicklaw03_StepTwice.j1 k x0 x1 x2 x3 x4 bt187.2 true) else (if bt195.2 = 0 then ((bailiwickref03_Same.f k bt191.1 bt195.1).bind fun t200 => (bailiwicklaw03_StepTwice.j1 k x0 x1 x2 x3 x4 bt187.2 (!t200))) else (bailiwicklaw03_StepTwice.j1 k x0 x1 x2 x3 x4 bt187.2 false)))))))
def bailiwicklaw03_StepTwice.j1 : Nat → List (S45) → Int → Int → Int → Int → Int → Bool → Option (Bool)
 | 0, _, _, _, _, _, _, _ => none
 | k + 1, x0, x1, x2, x3, x4, x14, x88 => if x88 = true then (some false) else (if x1 ≥ x2 then (bailiwicklaw03_StepTwice.j2 k x0 x1 x2 x3 x4 x14 true) else (bailiwicklaw03_StepTwice.j2 k x0 x1 x2 x3 x4 x14 (decide (x2 ≥ x3))))
def bailiwicklaw03_StepTwice.j2 : Nat → List (S45) → Int → Int → Int → Int → Int → Bool → Option (Bool)
 | 0, _, _, _, _, _, _, _ => none
 | k + 1, x0, x1, x2, x3, x4, x14, x96 => if x96 = true then (some true) else ((step_Take.f k x0 x1 x2 x4).bind fun bt201 => ((step_Take.f k bt201.1 x2 x3 x4).bind fun bt205 => (if bt201.2 = 0 then (if ((bt205.2 == 0) == (x14 == 0)) = true then (if x14 = 0 then ((bailiwicklaw03_take.f k x0 x1 x3 x4).bind fun t209 => ((bailiwickref03_Same.f k bt205.1 t209).bind fun t212 => (some t212))) else (some true)) else (some false)) else (if (false == (x14 == 0)) = true then (if x14 = 0 then ((bailiwicklaw03_take.f k x0 x1 x3 x4).bind fun t213 => ((bailiwickref03_Same.f k bt205.1 t213).bind fun t216 => (some t216))) else (some true)) else (some false)))))
end
def bailiwicklaw03_StepTwice.f (k : Nat) (l0 : List (S45)) (a1 : Int) (a2 : Int) (a3 : Int) (a4 : Int) (a5 : Int) : Option (Bool) := (bailiwicklaw03_awake.f k).bind fun t186 => (if t186 = true then (if (l0.length : Int) > 200 then (bailiwicklaw03_StepTwice.j0 k l0 a1 a2 a3 a4 a5 true) else (if a4 < 0 then (bailiwicklaw03_StepTwice.j0 k l0 a1 a2 a3 a4 a5 true) else (if a5 < 0 then (bailiwicklaw03_StepTwice.j0 k l0 a1 a2 a3 a4 a5 true) else (if a4 > 1048576 then (bailiwicklaw03_StepTwice.j0 k l0 a1 a2 a3 a4 a5 true) else (bailiwicklaw03_StepTwice.j0 k l0 a1 a2 a3 a4 a5 (decide (a5 > (wrap64 (1048576 - a4))))))))) else (some false))
theorem bailiwicklaw03_StepTwice.mono_l : ∀ k, (∀ y0 y1 y2 y3 y4 y5 y6, LeO (bailiwicklaw03_StepTwice.j0 k y0 y1 y2 y3 y4 y5 y6) (bailiwicklaw03_StepTwice.j0 (k + 1) y0 y1 y2 y3 y4 y5 y6)) ∧ (∀ y0 y1 y2 y3 y4 y5 y6, LeO (bailiwicklaw03_StepTwice.j1 k y0 y1 y2 y3 y4 y5 y6) (bailiwicklaw03_StepTwice.j1 (k + 1) y0 y1 y2 y3 y4 y5 y6)) ∧ (∀ y0 y1 y2 y3 y4 y5 y6, LeO (bailiwicklaw03_StepTwice.j2 k y0 y1 y2 y3 y4 y5 y6) (bailiwicklaw03_StepTwice.j2 (k + 1) y0 y1 y2 y3 y4 y5 y6))
 | 0 => ⟨fun _ _ _ _ _ _ _ r h => by simp [bailiwicklaw03_StepTwice.j0] at h, fun _ _ _ _ _ _ _ r h => by simp [bailiwicklaw03_StepTwice.j1] at h, fun _ _ _ _ _ _ _ r h => by simp [bailiwicklaw03_StepTwice.j2] at h⟩
 | k + 1 => by
  obtain ⟨ih0, ih1, ih2⟩ := bailiwicklaw03_StepTwice.mono_l k
  refine ⟨?_, ?_, ?_⟩
  ·intro y0 y1 y2 y3 y4 y5 y6
   unfold bailiwicklaw03_StepTwice.j0
   repeat' first
   | (with_reducible exact ih0 _ _ _ _ _ _ _)
   | (with_reducible exact ih1 _ _ _ _ _ _ _)
   | (with_reducible exact ih2 _ _ _ _ _ _ _)
   | (with_reducible exact bailiwicklaw03_awake.mono _)
   | (with_reducible exact bailiwicklaw03_take.mono _ _ _ _ _)
   | (with_reducible exact bailiwickref03_Same.mono _ _ _)
   | (with_reducible exact step_Take.mono _ _ _ _ _)
   | (with_reducible exact LeO.refl _)
   | (with_reducible exact LeO.none _)
   | (with_reducible refine LeO.ite ?_ ?_)
   | (with_reducible refine LeO.bind ?_ (fun _ => ?_))
   | exact ih0 _ _ _ _ _ _ _
   | exact ih1 _ _ _ _ _ _ _
   | exact ih2 _ _ _ _ _ _ _
   | exact bailiwicklaw03_awake.mono _
   | exact bailiwicklaw03_take.mono _ _ _ _ _
   | exact bailiwickref03_Same.mono _ _ _
   | exact step_Take.mono _ _ _ _ _
   | exact LeO.none _
   | refine LeO.ite ?_ ?_
   | refine LeO.bind ?_ (fun _ => ?_)
  ·intro y0 y1 y2 y3 y4 y5 y6
   unfold bailiwicklaw03_StepTwice.j1
   repeat' first
   | (with_reducible exact ih0 _ _ _ _ _ _ _)
   | (with_reducible exact ih1 _ _ _ _ _ _ _)
   | (with_reducible exact ih2 _ _ _ _ _ _ _)
   | (with_reducible exact bailiwicklaw03_awake.mono _)
   | (with_reducible exact bailiwicklaw03_take.mono _ _ _ _ _)
   | (with_reducible exact bailiwickref03_Same.mono _ _ _)
   | (with_reducible exact step_Take.mono _ _ _ _ _)
   | (with_reducible exact LeO.refl _)
   | (with_reducible exact LeO.none _)
   | (with_reducible refine LeO.ite ?_ ?_)
   | (with_reducible refine LeO.bind ?_ (fun _ => ?_))
   | exact ih0 _ _ _ _ _ _ _
   | exact ih1 _ _ _ _ _ _ _
   | exact ih2 _ _ _ _ _ _ _
   | exact bailiwicklaw03_awake.mono _
   | exact bailiwicklaw03_take.mono _ _ _ _ _
   | exact bailiwickref03_Same.mono _ _ _
   | exact step_Take.mono _ _ _ _ _
   | exact LeO.none _
   | refine LeO.ite ?_ ?_
   | refine LeO.bind ?_ (fun _ => ?_)
  ·intro y0 y1 y2 y3 y4 y5 y6
   unfold bailiwicklaw03_StepTwice.j2
   repeat' first
   | (with_reducible exact ih0 _ _ _ _ _ _ _)
   | (with_reducible exact ih1 _ _ _ _ _ _ _)
   | (with_reducible exact ih2 _ _ _ _ _ _ _)
   | (with_reducible exact bailiwicklaw03_awake.mono _)
   | (with_reducible exact bailiwicklaw03_take.mono _ _ _ _ _)
   | (with_reducible exact bailiwickref03_Same.mono _ _ _)
   | (with_reducible exact step_Take.mono _ _ _ _ _)
   | (with_reducible exact LeO.refl _)
   | (with_reducible exact LeO.none _)
   | (with_reducible refine LeO.ite ?_ ?_)
   | (with_reducible refine LeO.bind ?_ (fun _ => ?_))
   | exact ih0 _ _ _ _ _ _ _
   | exact ih1 _ _ _ _ _ _ _
   | exact ih2 _ _ _ _ _ _ _
   | exact bailiwicklaw03_awake.mono _
   | exact bailiwicklaw03_take.mono _ _ _ _ _
   | exact bailiwickref03_Same.mono _ _ _
   | exact step_Take.mono _ _ _ _ _
   | exact LeO.none _
   | refine LeO.ite ?_ ?_
   | refine LeO.bind ?_ (fun _ => ?_)
theorem bailiwicklaw03_StepTwice.mono : ∀ a0 a1 a2 a3 a4 a5 k, LeO (bailiwicklaw03_StepTwice.f k a0 a1 a2 a3 a4 a5) (bailiwicklaw03_StepTwice.f (k + 1) a0 a1 a2 a3 a4 a5) := by
 intro a0 a1 a2 a3 a4 a5 k
 obtain ⟨ih0, ih1, ih2⟩ := bailiwicklaw03_StepTwice.mono_l k
 unfold bailiwicklaw03_StepTwice.f
 repeat' first
   | (with_reducible exact ih0 _ _ _ _ _ _ _)
   | (with_reducible exact ih1 _ _ _ _ _ _ _)
   | (with_reducible exact ih2 _ _ _ _ _ _ _)
   | (with_reducible exact bailiwicklaw03_awake.mono _)
   | (with_reducible exact bailiwicklaw03_take.mono _ _ _ _ _)
   | (with_reducible exact bailiwickref03_Same.mono _ _ _)
   | (with_reducible exact step_Take.mono _ _ _ _ _)
   | (with_reducible exact LeO.refl _)
   | (with_reducible exact LeO.none _)
   | (with_reducible refine LeO.ite ?_ ?_)
   | (with_reducible refine LeO.bind ?_ (fun _ => ?_))
   | exact ih0 _ _ _ _ _ _ _
   | exact ih1 _ _ _ _ _ _ _
   | exact ih2 _ _ _ _ _ _ _
   | exact bailiwicklaw03_awake.mono _
   | exact bailiwicklaw03_take.mono _ _ _ _ _
   | exact bailiwickref03_Same.mono _ _ _
   | exact step_Take.mono _ _ _ _ _
   | exact LeO.none _
   | refine LeO.ite ?_ ?_
   | refine LeO.bind ?_ (fun _ => ?_)
set_option maxHeartbeats 8000000 in
set_option maxRecDepth 100000 in
theorem bailiwicklaw03_StepTwice.calls (k : Nat) (A0 : Option Addr) (c0 : Nat) (l0 : List (S45)) (a1 : Int) (a2 : Int) (a3 : Int) (a4 : Int) (a5 : Int) (r : Bool) (w : World) (hr0 : Kd.C k45 w A0 l0.length l0) (hc0 : l0.length ≤ c0) (h : bailiwicklaw03_StepTwice.f k l0 a1 a2 a3 a4 a5 = some r) :
  Calls Try.prog 5 #[.slice A0 l0.length c0, .int .i64 a1, .int .i64 a2, .int .i64 a3, .int .i64 a4, .int .i64 a5] w fun e w' => e = .returned (.bool r) ∧ Below w.heap.size w w' := by
 have HR0 := Aside0.mk hr0
 have HC0 := Aside0.mk hc0
 clear hr0 hc0
 have HB := Aside0.mk (Below.refl w.heap.size w)
 have H : ((bailiwicklaw03_awake.f k).bind fun t186 => (if t186 = true then (if (l0.length : Int) > 200 then (bailiwicklaw03_StepTwice.j0 k l0 a1 a2 a3 a4 a5 true) else (if a4 < 0 then (bailiwicklaw03_StepTwice.j0 k l0 a1 a2 a3 a4 a5 true) else (if a5 < 0 then (bailiwicklaw03_StepTwice.j0 k l0 a1 a2 a3 a4 a5 true) else (if a4 > 1048576 then (bailiwicklaw03_StepTwice.j0 k l0 a1 a2 a3 a4 a5 true) else (bailiwicklaw03_StepTwice.j0 k l0 a1 a2 a3 a4 a5 (decide (a5 > (wrap64 (1048576 - a4))))))))) else (some false))) = some r := h
 clear h
 replace H := Option.bind_eq_some_iff.mp H
 obtain ⟨t186, A70, H⟩ := H
 replace H : (if t186 = true then (if (l0.length : Int) > 200 then (bailiwicklaw03_StepTwice.j0 k l0 a1 a2 a3 a4 a5 true) else (if a4 < 0 then (bailiwicklaw03_StepTwice.j0 k l0 a1 a2 a3 a4 a5 true) else (if a5 < 0 then (bailiwicklaw03_StepTwice.j0 k l0 a1 a2 a3 a4 a5 true) else (if a4 > 1048576 then (bailiwicklaw03_StepTwice.j0 k l0 a1 a2 a3 a4 a5 true) else (bailiwicklaw03_StepTwice.j0 k l0 a1 a2 a3 a4 a5 (decide (a5 > (wrap64 (1048576 - a4))))))))) else (some false)) = some r := H
 have A7 := Aside0.mk A70
 clear A70
 by_cases c8 : t186 = true
 ·subst c8
  have H1 : (if (l0.length : Int) > 200 then (bailiwicklaw03_StepTwice.j0 k l0 a1 a2 a3 a4 a5 true) else (if a4 < 0 then (bailiwicklaw03_StepTwice.j0 k l0 a1 a2 a3 a4 a5 true) else (if a5 < 0 then (bailiwicklaw03_StepTwice.j0 k l0 a1 a2 a3 a4 a5 true) else (if a4 > 1048576 then (bailiwicklaw03_StepTwice.j0 k l0 a1 a2 a3 a4 a5 true) else (bailiwicklaw03_StepTwice.j0 k l0 a1 a2 a3 a4 a5 (decide (a5 > (wrap64 (1048576 - a4))))))))) = some r := by rw [if_pos rfl] at H; exact H
  clear H
  have H := H1
  clear H1
  have HC9 := Aside0.mk H
  clear H
  go_enter Try.func5, Try.ntmps5
  go_upto_region 3 with (first | ((with_reducible refine gate_callee (f := 14) rfl ?_); refine goesL_ (some 21) rfl rfl Try.func14 (by kernel_rfl) rfl #[] rfl (by (try simp only [List.map_toArray, List.map_cons, List.map_nil]); first | done | rfl | (simp only [List.length_drop, List.length_take]; rfl)) ?_; (with_reducible refine (bailiwicklaw03_awake.calls k  true _ A7.out).mono ?_); rintro e w10 ⟨rfl, hb⟩; refine ⟨_, rfl, ?_⟩; have n0_ := Aside0.mk (below_step (by repeat (first | (with_reducible first | exact HB.out | apply below_alloc | apply pw_below_drewN | apply below_drew1) | exact HB.out)) hb); clear HB; have HB := n0_; clear n0_; (try clear hb); (try clear hb2); (try clear hk); (try clear hi)))
  (try simp only [Act.put, List.setIfInBounds_toArray, List.set_cons_zero, List.set_cons_succ])
  go_cut [43] (fun v43 wc => ∃ (kq : Nat) (x43_8 : Bool), v43 = .bool x43_8 ∧ Aside0 (bailiwicklaw03_StepTwice.j0 kq l0 a1 a2 a3 a4 a5 x43_8 = some r) ∧ Aside0 (kq ≤ k) ∧ Aside0 (Below w.heap.size w wc))
  case first =>
   have H := HC9.out
   clear HC9
   by_cases c11 : (l0.length : Int) > 200
   ·rw [if_pos c11] at H
    have c11b0 : decide (200 < (l0.length : Int)) = true := decide_eq_true c11
    have c11b1 : decide (200 < l0.length) = true := decide_eq_true (by omega)
    clear c11
    (first | rw [c11b0] | (simp only [i64_w, i32_w]; rw [c11b0]) | skip)
    have H' := Aside0.mk H
    clear H
    go_wp2
    go_meet
    case rel => exact ⟨_, (true), (by first | rfl | (simp; done) | (simp [*]; done)), H', ⟨by first | omega | exact Nat.le_refl _⟩, ⟨by repeat (first | (with_reducible first | exact HB.out | apply below_alloc | apply pw_below_drewN | apply below_drew1) | exact HB.out)⟩⟩
   ·rw [if_neg c11] at H
    have c11b0 : decide (200 < (l0.length : Int)) = false := decide_eq_false c11
    have c11b1 : decide (200 < l0.length) = false := decide_eq_false (by omega)
    clear c11
    (first | rw [c11b0] | (simp only [i64_w, i32_w]; rw [c11b0]) | skip)
    by_cases c12 : a4 < 0
    ·rw [if_pos c12] at H
     have c12b0 : decide (a4 < 0) = true := decide_eq_true c12
     clear c12
     have H' := Aside0.mk H
     clear H
     go_wp2
     go_meet
     case rel => exact ⟨_, (true), (by first | rfl | (simp; done) | (simp [*]; done)), H', ⟨by first | omega | exact Nat.le_refl _⟩, ⟨by repeat (first | (with_reducible first | exact HB.out | apply below_alloc | apply pw_below_drewN | apply below_drew1) | exact HB.out)⟩⟩
    ·rw [if_neg c12] at H
     have c12b0 : decide (a4 < 0) = false := decide_eq_false c12
     clear c12
     by_cases c13 : a5 < 0
     ·rw [if_pos c13] at H
      have c13b0 : decide (a5 < 0) = true := decide_eq_true c13
      clear c13
      have H' := Aside0.mk H
      clear H
      go_wp2
      go_meet
      case rel => exact ⟨_, (true), (by first | rfl | (simp; done) | (simp [*]; done)), H', ⟨by first | omega | exact Nat.le_refl _⟩, ⟨by repeat (first | (with_reducible first | exact HB.out | apply below_alloc | apply pw_below_drewN | apply below_drew1) | exact HB.out)⟩⟩
     ·rw [if_neg c13] at H
      have c13b0 : decide (a5 < 0) = false := decide_eq_false c13
      clear c13
      by_cases c14 : a4 > 1048576
      ·rw [if_pos c14] at H
       have c14b0 : decide (1048576 < a4) = true := decide_eq_true c14
       clear c14
       have H' := Aside0.mk H
       clear H
       go_wp2
       go_meet
       case rel => exact ⟨_, (true), (by first | rfl | (simp; done) | (simp [*]; done)), H', ⟨by first | omega | exact Nat.le_refl _⟩, ⟨by repeat (first | (with_reducible first | exact HB.out | apply below_alloc | apply pw_below_drewN | apply below_drew1) | exact HB.out)⟩⟩
      ·rw [if_neg c14] at H
       have c14b0 : decide (1048576 < a4) = false := decide_eq_false c14
       clear c14
       have H' := Aside0.mk H
       clear H
       go_wp2
       go_meet
       case rel => exact ⟨_, (decide (a5 > (wrap64 (1048576 - a4)))), (by first | rfl | (simp; done) | (simp [*]; done)), H', ⟨by first | omega | exact Nat.le_refl _⟩, ⟨by repeat (first | (with_reducible first | exact HB.out | apply below_alloc | apply pw_below_drewN | apply below_drew1) | exact HB.out)⟩⟩
  case rest =>
   clear HC9
   try clear c1
   try clear p2
   try clear c5
   try clear p6
   try clear c8
   try clear c11
   try clear c11b0
   try clear c11b1
   try clear c12
   try clear c12b0
   try clear c13
   try clear c13b0
   try clear c14
   try clear c14b0
   obtain ⟨kq, x43_8, rfl, HA, HJ8, HB⟩ := hcut
   cases kq with
   | zero => exact absurd HA.out (by simp [bailiwicklaw03_StepTwice.j0])
   | succ kj8 =>
    have H := HA.out
    clear HA
    simp only [bailiwicklaw03_StepTwice.j0] at H
    by_cases c15 : x43_8 = true
    ·subst c15
     have H1 : (some true) = some r := by rw [if_pos rfl] at H; exact H
     clear H
     have H := H1
     clear H1
     obtain rfl := Option.some.inj H
     go_wp2
     go_ret
     exact ⟨by first | rfl | (simp [errW_none, errW_some] <;> rfl) | (simp [*, errW_none, errW_some] <;> rfl), by repeat (first | (with_reducible first | exact HB.out | apply below_alloc | apply pw_below_drewN | apply below_drew1) | exact HB.out)⟩
    ·replace c15 := Bool.eq_false_iff.mpr c15
     subst c15
     have H1 : ((step_Take.f kj8 l0 a1 a3 a4).bind fun bt187 => ((step_Take.f kj8 bt187.1 a1 a3 a5).bind fun bt191 => ((step_Take.f kj8 l0 a1 a3 (wrap64 (a4 + a5))).bind fun bt195 => (if bt187.2 = 0 then (if ((bt191.2 == 0) != (bt195.2 == 0)) = true then (bailiwicklaw03_StepTwice.j1 kj8 l0 a1 a2 a3 a4 bt187.2 true) else (if bt195.2 = 0 then ((bailiwickref03_Same.f kj8 bt191.1 bt195.1).bind fun t199 => (bailiwicklaw03_StepTwice.j1 kj8 l0 a1 a2 a3 a4 bt187.2 (!t199))) else (bailiwicklaw03_StepTwice.j1 kj8 l0 a1 a2 a3 a4 bt187.2 false))) else (if (false != (bt195.2 == 0)) = true then (bailiwicklaw03_StepTwice.j1 kj8 l0 a1 a2 a3 a4 bt187.2 true) else (if bt195.2 = 0 then ((bailiwickref03_Same.f kj8 bt191.1 bt195.1).bind fun t200 => (bailiwicklaw03_StepTwice.j1 kj8 l0 a1 a2 a3 a4 bt187.2 (!t200))) else (bailiwicklaw03_StepTwice.j1 kj8 l0 a1 a2 a3 a4 bt187.2 false))))))) = some r := by rw [if_neg (show ¬ (false = true) by decide)] at H; exact H
     clear H
     have H := H1
     clear H1
     replace H := Option.bind_eq_some_iff.mp H
     obtain ⟨⟨t187, t188⟩, A160, H⟩ := H
     replace H : ((step_Take.f kj8 t187 a1 a3 a5).bind fun bt191 => ((step_Take.f kj8 l0 a1 a3 (wrap64 (a4 + a5))).bind fun bt195 => (if t188 = 0 then (if ((bt191.2 == 0) != (bt195.2 == 0)) = true then (bailiwicklaw03_StepTwice.j1 kj8 l0 a1 a2 a3 a4 t188 true) else (if bt195.2 = 0 then ((bailiwickref03_Same.f kj8 bt191.1 bt195.1).bind fun t199 => (bailiwicklaw03_StepTwice.j1 kj8 l0 a1 a2 a3 a4 t188 (!t199))) else (bailiwicklaw03_StepTwice.j1 kj8 l0 a1 a2 a3 a4 t188 false))) else (if (false != (bt195.2 == 0)) = true then (bailiwicklaw03_StepTwice.j1 kj8 l0 a1 a2 a3 a4 t188 true) else (if bt195.2 = 0 then ((bailiwickref03_Same.f kj8 bt191.1 bt195.1).bind fun t200 => (bailiwicklaw03_StepTwice.j1 kj8 l0 a1 a2 a3 a4 t188 (!t200))) else (bailiwicklaw03_StepTwice.j1 kj8 l0 a1 a2 a3 a4 t188 false)))))) = some r := H
     have A16 := Aside0.mk A160
     clear A160
     replace H := Option.bind_eq_some_iff.mp H
     obtain ⟨⟨t191, t192⟩, A170, H⟩ := H
     replace H : ((step_Take.f kj8 l0 a1 a3 (wrap64 (a4 + a5))).bind fun bt195 => (if t188 = 0 then (if ((t192 == 0) != (bt195.2 == 0)) = true then (bailiwicklaw03_StepTwice.j1 kj8 l0 a1 a2 a3 a4 t188 true) else (if bt195.2 = 0 then ((bailiwickref03_Same.f kj8 t191 bt195.1).bind fun t199 => (bailiwicklaw03_StepTwice.j1 kj8 l0 a1 a2 a3 a4 t188 (!t199))) else (bailiwicklaw03_StepTwice.j1 kj8 l0 a1 a2 a3 a4 t188 false))) else (if (false != (bt195.2 == 0)) = true then (bailiwicklaw03_StepTwice.j1 kj8 l0 a1 a2 a3 a4 t188 true) else (if bt195.2 = 0 then ((bailiwickref03_Same.f kj8 t191 bt195.1).bind fun t200 => (bailiwicklaw03_StepTwice.j1 kj8 l0 a1 a2 a3 a4 t188 (!t200))) else (bailiwicklaw03_StepTwice.j1 kj8 l0 a1 a2 a3 a4 t188 false))))) = some r := H
     have A17 := Aside0.mk A170
     clear A170
     replace H := Option.bind_eq_some_iff.mp H
     obtain ⟨⟨t195, t196⟩, A180, H⟩ := H
     replace H : (if t188 = 0 then (if ((t192 == 0) != (t196 == 0)) = true then (bailiwicklaw03_StepTwice.j1 kj8 l0 a1 a2 a3 a4 t188 true) else (if t196 = 0 then ((bailiwickref03_Same.f kj8 t191 t195).bind fun t199 => (bailiwicklaw03_StepTwice.j1 kj8 l0 a1 a2 a3 a4 t188 (!t199))) else (bailiwicklaw03_StepTwice.j1 kj8 l0 a1 a2 a3 a4 t188 false))) else (if (false != (t196 == 0)) = true then (bailiwicklaw03_StepTwice.j1 kj8 l0 a1 a2 a3 a4 t188 true) else (if t196 = 0 then ((bailiwickref03_Same.f kj8 t191 t195).bind fun t200 => (bailiwicklaw03_StepTwice.j1 kj8 l0 a1 a2 a3 a4 t188 (!t200))) else (bailiwicklaw03_StepTwice.j1 kj8 l0 a1 a2 a3 a4 t188 false)))) = some r := H
     have A18 := Aside0.mk A180
     clear A180
     have HC19 := Aside0.mk H
     clear H
     go_upto_region 8 with (first | ((with_reducible refine gate_callee (f := 21) rfl ?_); refine goesL_ (some 49) rfl rfl Try.func21 (by kernel_rfl) rfl #[.slice A0 l0.length c0, .int .i64 a1, .int .i64 a3, .int .i64 a4] rfl (by (try simp only [List.map_toArray, List.map_cons, List.map_nil]); first | done | rfl | (simp only [List.length_drop, List.length_take]; rfl)) ?_; (with_reducible refine (step_Take.calls kj8 _ _ l0 a1 a3 a4 t187 t188 _ ?side1 ?side2 A16.out).mono ?_); (case side1 => repeat (first | exact (Kd.C_below HR0.out HB.out) | (with_reducible refine Kd.C_alloc ?_ _) | (with_reducible refine Kd.C_drewN ?_ _) | (with_reducible refine Kd.C_drew ?_))); (case side2 => exact HC0.out); rintro e w20 ⟨v189, rfl, ho0, hb⟩; refine ⟨_, rfl, ?_⟩; have n0_ := Aside0.mk (Kd.R_lower ho0 (below_size (by repeat (first | (with_reducible first | exact HB.out | apply below_alloc | apply pw_below_drewN | apply below_drew1) | exact HB.out)))); have n1_ := Aside0.mk (below_step (by repeat (first | (with_reducible first | exact HB.out | apply below_alloc | apply pw_below_drewN | apply below_drew1) | exact HB.out)) hb); clear HB; have HO190 := n0_; have HB := n1_; clear n0_ n1_; (try clear hb); (try clear hb2); (try clear hk); (try clear hi); (try clear ho0); obtain ⟨Ao21, co21, eo21⟩ := Kd.R_slice HO190.out; subst eo21) | ((with_reducible refine gate_callee (f := 21) rfl ?_); refine goesL_ (some 57) rfl rfl Try.func21 (by kernel_rfl) rfl #[.slice Ao21 t187.length co21, .int .i64 a1, .int .i64 a3, .int .i64 a5] rfl (by (try simp only [List.map_toArray, List.map_cons, List.map_nil]); first | done | rfl | (simp only [List.length_drop, List.length_take]; rfl)) ?_; (with_reducible refine (step_Take.calls kj8 _ _ t187 a1 a3 a5 t191 t192 _ ?side1 ?side2 A17.out).mono ?_); (case side1 => repeat (first | exact (Kd.R_reads' HO190.out).2.2 | (with_reducible refine Kd.C_alloc ?_ _) | (with_reducible refine Kd.C_drewN ?_ _) | (with_reducible refine Kd.C_drew ?_))); (case side2 => exact (Kd.R_reads' HO190.out).2.1); rintro e w22 ⟨v193, rfl, ho0, hb⟩; refine ⟨_, rfl, ?_⟩; have n0_ := Aside0.mk (Kd.R_elder' (by (with_reducible repeat (first | apply Kd.R_alloc | apply Kd.R_drewN | apply Kd.R_drew)); exact HO190.out) (Kd.R_base ho0) hb); have n1_ := Aside0.mk (Kd.R_lower (Kd.R_new' ho0 (Kd.R_lt (by (with_reducible repeat (first | apply Kd.R_alloc | apply Kd.R_drewN | apply Kd.R_drew)); exact HO190.out))) (below_size (by repeat (first | (with_reducible first | exact HB.out | apply below_alloc | apply pw_below_drewN | apply below_drew1) | exact HB.out)))); have n2_ := Aside0.mk (below_step (by repeat (first | (with_reducible first | exact HB.out | apply below_alloc | apply pw_below_drewN | apply below_drew1) | exact HB.out)) hb); clear HO190; clear HB; have HO190 := n0_; have HO194 := n1_; have HB := n2_; clear n0_ n1_ n2_; (try clear hb); (try clear hb2); (try clear hk); (try clear hi); (try clear ho0)) | ((with_reducible refine gate_callee (f := 21) rfl ?_); refine goesL_ (some 67) rfl rfl Try.func21 (by kernel_rfl) rfl #[.slice A0 l0.length c0, .int .i64 a1, .int .i64 a3, .int .i64 (wrap64 (a4 + a5))] rfl (by (try simp only [List.map_toArray, List.map_cons, List.map_nil]); first | done | rfl | (simp only [List.length_drop, List.length_take]; rfl)) ?_; (with_reducible refine (step_Take.calls kj8 _ _ l0 a1 a3 (wrap64 (a4 + a5)) t195 t196 _ ?side1 ?side2 A18.out).mono ?_); (case side1 => repeat (first | exact (Kd.C_below HR0.out HB.out) | (with_reducible refine Kd.C_alloc ?_ _) | (with_reducible refine Kd.C_drewN ?_ _) | (with_reducible refine Kd.C_drew ?_))); (case side2 => exact HC0.out); rintro e w23 ⟨v197, rfl, ho0, hb⟩; refine ⟨_, rfl, ?_⟩; have n0_ := Aside0.mk (Kd.R_elder' (by (with_reducible repeat (first | apply Kd.R_alloc | apply Kd.R_drewN | apply Kd.R_drew)); exact HO190.out) (Kd.R_base ho0) hb); have n1_ := Aside0.mk (Kd.R_elder' (by (with_reducible repeat (first | apply Kd.R_alloc | apply Kd.R_drewN | apply Kd.R_drew)); exact HO194.out) (Kd.R_base ho0) hb); have n2_ := Aside0.mk (Kd.R_lower (Kd.R_new' (Kd.R_new' ho0 (Kd.R_lt (by (with_reducible repeat (first | apply Kd.R_alloc | apply Kd.R_drewN | apply Kd.R_drew)); exact HO190.out))) (Kd.R_lt (by (with_reducible repeat (first | apply Kd.R_alloc | apply Kd.R_drewN | apply Kd.R_drew)); exact HO194.out))) (below_size (by repeat (first | (with_reducible first | exact HB.out | apply below_alloc | apply pw_below_drewN | apply below_drew1) | exact HB.out)))); have n3_ := Aside0.mk (below_step (by repeat (first | (with_reducible first | exact HB.out | apply below_alloc | apply pw_below_drewN | apply below_drew1) | exact HB.out)) hb); clear HO190; clear HO194; clear HB; have HO190 := n0_; have HO194 := n1_; have HO198 := n2_; have HB := n3_; clear n0_ n1_ n2_ n3_; (try clear hb); (try clear hb2); (try clear hk); (try clear hi); (try clear ho0)))
     (try simp only [Act.put, List.setIfInBounds_toArray, List.set_cons_zero, List.set_cons_succ])
     go_cut [88] (fun v88 wc => ∃ (kq : Nat) (x88_18 : Bool), v88 = .bool x88_18 ∧ Aside0 (bailiwicklaw03_StepTwice.j1 kq l0 a1 a2 a3 a4 t188 x88_18 = some r) ∧ Aside0 (kq ≤ kj8) ∧ Aside0 (Below w.heap.size w wc))
     case first =>
      have H := HC19.out
      clear HC19
      by_cases c24 : t188 = 0
      ·rw [if_pos c24] at H
       have c24b0 : (t188 == 0) = true := beq_iff_eq.mpr c24
       have c24b1 : (t188 != 0) = false := bne_eq_false_iff_eq.mpr c24
       clear c24
       (first | rw [c24b0] | (simp only [i64_w, i32_w]; rw [c24b0]) | skip)
       by_cases c25 : ((t192 == 0) != (t196 == 0)) = true
       ·rw [if_pos c25] at H
        have c25b0 : ((t192 == 0) != (t196 == 0)) = true := c25
        (try (have c25b1 : decide ((t192 == 0) = (t196 == 0)) = false := by simpa using c25))
        (try (have c25b2 : ((t192 == 0) == (t196 == 0)) = false := by simpa using c25))
        (try (have c25b3 : ¬ ((t192 == 0) = (t196 == 0)) := by simpa using c25))
        clear c25
        have H' := Aside0.mk H
        clear H
        go_wp2
        go_meet
        case rel => exact ⟨_, (true), (by first | rfl | (simp; done) | (simp [*]; done)), H', ⟨by have := HJ8.out; first | omega | exact Nat.le_refl _⟩, ⟨by repeat (first | (with_reducible first | exact HB.out | apply below_alloc | apply pw_below_drewN | apply below_drew1) | exact HB.out)⟩⟩
       ·rw [if_neg c25] at H
        have c25b0 : ((t192 == 0) != (t196 == 0)) = false := by simpa using c25
        (try (have c25b1 : decide ((t192 == 0) = (t196 == 0)) = true := by simpa using c25))
        (try (have c25b2 : ((t192 == 0) == (t196 == 0)) = true := by simpa using c25))
        clear c25
        by_cases c26 : t196 = 0
        ·rw [if_pos c26] at H
         have c26b0 : (t196 == 0) = true := beq_iff_eq.mpr c26
         have c26b9 : (t192 == 0) = true := by rw [c26b0] at c25b0; simpa using c25b0
         have c26b1 : (t196 != 0) = false := bne_eq_false_iff_eq.mpr c26
         clear c26
         replace H := Option.bind_eq_some_iff.mp H
         obtain ⟨t199, A270, H⟩ := H
         replace H : (bailiwicklaw03_StepTwice.j1 kj8 l0 a1 a2 a3 a4 t188 (!t199)) = some r := H
         have A27 := Aside0.mk A270
         clear A270
         have H' := Aside0.mk H
         clear H
         obtain ⟨Ao28, co28, eo28⟩ := Kd.R_slice HO194.out
         subst eo28
         obtain ⟨Ao29, co29, eo29⟩ := Kd.R_slice HO198.out
         subst eo29
         go_wp2_with (first | (go_at_call 22; (with_reducible refine (bailiwickref03_Same.calls kj8 _ _ t191 _ _ t195 t199 _ ?side1 ?side2 ?side3 ?side4 A27.out).mono ?_); (case side1 => repeat (first | exact (Kd.R_reads' HO194.out).2.2 | (with_reducible refine Kd.C_alloc ?_ _) | (with_reducible refine Kd.C_drewN ?_ _) | (with_reducible refine Kd.C_drew ?_))); (case side2 => exact (Kd.R_reads' HO194.out).2.1); (case side3 => repeat (first | exact (Kd.R_reads' HO198.out).2.2 | (with_reducible refine Kd.C_alloc ?_ _) | (with_reducible refine Kd.C_drewN ?_ _) | (with_reducible refine Kd.C_drew ?_))); (case side4 => exact (Kd.R_reads' HO198.out).2.1); rintro e w' ⟨rfl, ⟨nd, rfl⟩⟩))
         go_meet
         case rel => exact ⟨_, (!t199), (by first | rfl | (simp; done) | (simp [*]; done)), H', ⟨by have := HJ8.out; first | omega | exact Nat.le_refl _⟩, ⟨by repeat (first | (with_reducible first | exact HB.out | apply below_alloc | apply pw_below_drewN | apply below_drew1) | exact HB.out)⟩⟩
        ·rw [if_neg c26] at H
         have c26b0 : (t196 == 0) = false := beq_eq_false_iff_ne.mpr c26
         have c26b9 : (t192 == 0) = false := by rw [c26b0] at c25b0; simpa using c25b0
         have c26b1 : (t196 != 0) = true := bne_iff_ne.mpr c26
         have H' := Aside0.mk H
         clear H
         go_wp2
         go_meet
         case rel => exact ⟨_, (false), (by first | rfl | (simp; done) | (simp [*]; done)), H', ⟨by have := HJ8.out; first | omega | exact Nat.le_refl _⟩, ⟨by repeat (first | (with_reducible first | exact HB.out | apply below_alloc | apply pw_below_drewN | apply below_drew1) | exact HB.out)⟩⟩
      ·rw [if_neg c24] at H
       have c24b0 : (t188 == 0) = false := beq_eq_false_iff_ne.mpr c24
       have c24b1 : (t188 != 0) = true := bne_iff_ne.mpr c24
       (first | rw [c24b0] | (simp only [i64_w, i32_w]; rw [c24b0]) | skip)
       by_cases c30 : (false != (t196 == 0)) = true
       ·rw [if_pos c30] at H
        have c30b0 : (false != (t196 == 0)) = true := c30
        (try (have c30b1 : decide (false = (t196 == 0)) = false := by simpa using c30))
        (try (have c30b2 : (false == (t196 == 0)) = false := by simpa using c30))
        (try (have c30b3 : ¬ (false = (t196 == 0)) := by simpa using c30))
        clear c30
        have H' := Aside0.mk H
        clear H
        go_wp2
        go_meet
        case rel => exact ⟨_, (true), (by first | rfl | (simp; done) | (simp [*]; done)), H', ⟨by have := HJ8.out; first | omega | exact Nat.le_refl _⟩, ⟨by repeat (first | (with_reducible first | exact HB.out | apply below_alloc | apply pw_below_drewN | apply below_drew1) | exact HB.out)⟩⟩
       ·rw [if_neg c30] at H
        have c30b0 : (false != (t196 == 0)) = false := by simpa using c30
        (try (have c30b1 : decide (false = (t196 == 0)) = true := by simpa using c30))
        (try (have c30b2 : (false == (t196 == 0)) = true := by simpa using c30))
        clear c30
        by_cases c31 : t196 = 0
        ·rw [if_pos c31] at H
         have c31b0 : (t196 == 0) = true := beq_iff_eq.mpr c31
         rw [c31b0] at c30b0; exact absurd c30b0 (by decide)
        ·rw [if_neg c31] at H
         have c31b0 : (t196 == 0) = false := beq_eq_false_iff_ne.mpr c31
         have c31b1 : (t196 != 0) = true := bne_iff_ne.mpr c31
         have H' := Aside0.mk H
         clear H
         go_wp2
         go_meet
         case rel => exact ⟨_, (false), (by first | rfl | (simp; done) | (simp [*]; done)), H', ⟨by have := HJ8.out; first | omega | exact Nat.le_refl _⟩, ⟨by repeat (first | (with_reducible first | exact HB.out | apply below_alloc | apply pw_below_drewN | apply below_drew1) | exact HB.out)⟩⟩
     case rest =>
      clear HC19
      try clear c1
      try clear c2
      try clear p2
      try clear c3
      try clear c5
      try clear p6
      try clear c8
      try clear c11
      try clear c11b0
      try clear c11b1
      try clear c12
      try clear c12b0
      try clear c13
      try clear c13b0
      try clear c14
      try clear c14b0
      try clear c15
      try clear c21
      try clear c24
      try clear c24b0
      try clear c24b1
      try clear c25
      try clear c25b0
      try clear c25b1
      try clear c25b2
      try clear c26
      try clear c26b0
      try clear c26b1
      try clear c30
      try clear c30b0
      try clear c30b1
      try clear c30b2
      try clear c31
      try clear c31b0
      try clear c31b1
      try clear p2
      try clear p6
      obtain ⟨kq, x88_18, rfl, HA, HJ18, HB⟩ := hcut
      cases kq with
      | zero => exact absurd HA.out (by simp [bailiwicklaw03_StepTwice.j1])
      | succ kj18 =>
       have H := HA.out
       clear HA
       simp only [bailiwicklaw03_StepTwice.j1] at H
       by_cases c35 : x88_18 = true
       ·subst c35
        have H1 : (some false) = some r := by rw [if_pos rfl] at H; exact H
        clear H
        have H := H1
        clear H1
        obtain rfl := Option.some.inj H
        go_wp2
        go_ret
        exact ⟨by first | rfl | (simp [errW_none, errW_some] <;> rfl) | (simp [*, errW_none, errW_some] <;> rfl), by repeat (first | (with_reducible first | exact HB.out | apply below_alloc | apply pw_below_drewN | apply below_drew1) | exact HB.out)⟩
       ·replace c35 := Bool.eq_false_iff.mpr c35
        subst c35
        have H1 : (if a1 ≥ a2 then (bailiwicklaw03_StepTwice.j2 kj18 l0 a1 a2 a3 a4 t188 true) else (bailiwicklaw03_StepTwice.j2 kj18 l0 a1 a2 a3 a4 t188 (decide (a2 ≥ a3)))) = some r := by rw [if_neg (show ¬ (false = true) by decide)] at H; exact H
        clear H
        have H := H1
        clear H1
        have HC36 := Aside0.mk H
        clear H
        go_upto_region 10 with (fail)
        go_cut [96] (fun v96 wc => ∃ (kq : Nat) (x96_35 : Bool), v96 = .bool x96_35 ∧ Aside0 (bailiwicklaw03_StepTwice.j2 kq l0 a1 a2 a3 a4 t188 x96_35 = some r) ∧ Aside0 (kq ≤ kj18) ∧ Aside0 (Below w.heap.size w wc))
        case first =>
         have H := HC36.out
         clear HC36
         by_cases c37 : a1 ≥ a2
         ·rw [if_pos c37] at H
          have c37b0 : decide (a2 ≤ a1) = true := decide_eq_true c37
          clear c37
          (first | rw [c37b0] | (simp only [i64_w, i32_w]; rw [c37b0]) | skip)
          have H' := Aside0.mk H
          clear H
          go_wp2
          go_meet
          case rel => exact ⟨_, (true), (by first | rfl | (simp; done) | (simp [*]; done)), H', ⟨by have := HJ8.out; have := HJ18.out; first | omega | exact Nat.le_refl _⟩, ⟨by repeat (first | (with_reducible first | exact HB.out | apply below_alloc | apply pw_below_drewN | apply below_drew1) | exact HB.out)⟩⟩
         ·rw [if_neg c37] at H
          have c37b0 : decide (a2 ≤ a1) = false := decide_eq_false c37
          clear c37
          (first | rw [c37b0] | (simp only [i64_w, i32_w]; rw [c37b0]) | skip)
          have H' := Aside0.mk H
          clear H
          go_wp2
          go_meet
          case rel => exact ⟨_, (decide (a2 ≥ a3)), (by first | rfl | (simp; done) | (simp [*]; done)), H', ⟨by have := HJ8.out; have := HJ18.out; first | omega | exact Nat.le_refl _⟩, ⟨by repeat (first | (with_reducible first | exact HB.out | apply below_alloc | apply pw_below_drewN | apply below_drew1) | exact HB.out)⟩⟩
        case rest =>
         clear HC36
         try clear c1
         try clear c2
         try clear p2
         try clear c3
         try clear c5
         try clear p6
         try clear c8
         try clear c11
         try clear c11b0
         try clear c11b1
         try clear c12
         try clear c12b0
         try clear c13
         try clear c13b0
         try clear c14
         try clear c14b0
         try clear c15
         try clear c21
         try clear c24
         try clear c24b0
         try clear c24b1
         try clear c25
         try clear c25b0
         try clear c25b1
         try clear c25b2
         try clear c26
         try clear c26b0
         try clear c26b1
         try clear c30
         try clear c30b0
         try clear c30b1
         try clear c30b2
         try clear c31
         try clear c31b0
         try clear c31b1
         try clear c35
         try clear c37
         try clear c37b0
         try clear p2
         try clear p6
         obtain ⟨kq, x96_35, rfl, HA, HJ35, HB⟩ := hcut
         cases kq with
         | zero => exact absurd HA.out (by simp [bailiwicklaw03_StepTwice.j2])
         | succ kj35 =>
          have H := HA.out
          clear HA
          simp only [bailiwicklaw03_StepTwice.j2] at H
          by_cases c38 : x96_35 = true
          ·subst c38
           have H1 : (some true) = some r := by rw [if_pos rfl] at H; exact H
           clear H
           have H := H1
           clear H1
           obtain rfl := Option.some.inj H
           go_wp2
           go_ret
           exact ⟨by first | rfl | (simp [errW_none, errW_some] <;> rfl) | (simp [*, errW_none, errW_some] <;> rfl), by repeat (first | (with_reducible first | exact HB.out | apply below_alloc | apply pw_below_drewN | apply below_drew1) | exact HB.out)⟩
          ·replace c38 := Bool.eq_false_iff.mpr c38
           subst c38
           have H1 : ((step_Take.f kj35 l0 a1 a2 a4).bind fun bt201 => ((step_Take.f kj35 bt201.1 a2 a3 a4).bind fun bt205 => (if bt201.2 = 0 then (if ((bt205.2 == 0) == (t188 == 0)) = true then (if t188 = 0 then ((bailiwicklaw03_take.f kj35 l0 a1 a3 a4).bind fun t209 => ((bailiwickref03_Same.f kj35 bt205.1 t209).bind fun t212 => (some t212))) else (some true)) else (some false)) else (if (false == (t188 == 0)) = true then (if t188 = 0 then ((bailiwicklaw03_take.f kj35 l0 a1 a3 a4).bind fun t213 => ((bailiwickref03_Same.f kj35 bt205.1 t213).bind fun t216 => (some t216))) else (some true)) else (some false))))) = some r := by rw [if_neg (show ¬ (false = true) by decide)] at H; exact H
           clear H
           have H := H1
           clear H1
           replace H := Option.bind_eq_some_iff.mp H
           obtain ⟨⟨t201, t202⟩, A390, H⟩ := H
           replace H : ((step_Take.f kj35 t201 a2 a3 a4).bind fun bt205 => (if t202 = 0 then (if ((bt205.2 == 0) == (t188 == 0)) = true then (if t188 = 0 then ((bailiwicklaw03_take.f kj35 l0 a1 a3 a4).bind fun t209 => ((bailiwickref03_Same.f kj35 bt205.1 t209).bind fun t212 => (some t212))) else (some true)) else (some false)) else (if (false == (t188 == 0)) = true then (if t188 = 0 then ((bailiwicklaw03_take.f kj35 l0 a1 a3 a4).bind fun t213 => ((bailiwickref03_Same.f kj35 bt205.1 t213).bind fun t216 => (some t216))) else (some true)) else (some false)))) = some r := H
           have A39 := Aside0.mk A390
           clear A390
           replace H := Option.bind_eq_some_iff.mp H
           obtain ⟨⟨t205, t206⟩, A400, H⟩ := H
           replace H : (if t202 = 0 then (if ((t206 == 0) == (t188 == 0)) = true then (if t188 = 0 then ((bailiwicklaw03_take.f kj35 l0 a1 a3 a4).bind fun t209 => ((bailiwickref03_Same.f kj35 t205 t209).bind fun t212 => (some t212))) else (some true)) else (some false)) else (if (false == (t188 == 0)) = true then (if t188 = 0 then ((bailiwicklaw03_take.f kj35 l0 a1 a3 a4).bind fun t213 => ((bailiwickref03_Same.f kj35 t205 t213).bind fun t216 => (some t216))) else (some true)) else (some false))) = some r := H
           have A40 := Aside0.mk A400
           clear A400
           by_cases c41 : t202 = 0
           ·rw [if_pos c41] at H
            have c41b0 : (t202 == 0) = true := beq_iff_eq.mpr c41
            have c41b1 : (t202 != 0) = false := bne_eq_false_iff_eq.mpr c41
            clear c41
            by_cases c42 : ((t206 == 0) == (t188 == 0)) = true
            ·rw [if_pos c42] at H
             have c42b0 : ((t206 == 0) == (t188 == 0)) = true := c42
             (try (have c42b1 : decide ((t206 == 0) = (t188 == 0)) = true := by simpa using c42))
             (try (have c42b2 : ((t206 == 0) == (t188 == 0)) = true := by simpa using c42))
             clear c42
             by_cases c43 : t188 = 0
             ·rw [if_pos c43] at H
              have c43b0 : (t188 == 0) = true := beq_iff_eq.mpr c43
              have c43b9 : (t206 == 0) = true := by rw [c43b0] at c42b0; simpa using c42b0
              have c43b1 : (t188 != 0) = false := bne_eq_false_iff_eq.mpr c43
              clear c43
              replace H := Option.bind_eq_some_iff.mp H
              obtain ⟨t209, A440, H⟩ := H
              replace H : ((bailiwickref03_Same.f kj35 t205 t209).bind fun t212 => (some t212)) = some r := H
              have A44 := Aside0.mk A440
              clear A440
              replace H := Option.bind_eq_some_iff.mp H
              obtain ⟨t212, A450, H⟩ := H
              replace H : (some t212) = some r := H
              have A45 := Aside0.mk A450
              clear A450
              obtain rfl := Option.some.inj H
              go_wp2_with (first | ((with_reducible refine gate_callee (f := 21) rfl ?_); refine goesL_ (some 102) rfl rfl Try.func21 (by kernel_rfl) rfl #[.slice A0 l0.length c0, .int .i64 a1, .int .i64 a2, .int .i64 a4] rfl (by (try simp only [List.map_toArray, List.map_cons, List.map_nil]); first | done | rfl | (simp only [List.length_drop, List.length_take]; rfl)) ?_; (with_reducible refine (step_Take.calls kj35 _ _ l0 a1 a2 a4 t201 t202 _ ?side1 ?side2 A39.out).mono ?_); (case side1 => repeat (first | exact (Kd.C_below HR0.out HB.out) | (with_reducible refine Kd.C_alloc ?_ _) | (with_reducible refine Kd.C_drewN ?_ _) | (with_reducible refine Kd.C_drew ?_))); (case side2 => exact HC0.out); rintro e w46 ⟨v203, rfl, ho0, hb⟩; refine ⟨_, rfl, ?_⟩; have n0_ := Aside0.mk (Kd.R_lower ho0 (below_size (by repeat (first | (with_reducible first | exact HB.out | apply below_alloc | apply pw_below_drewN | apply below_drew1) | exact HB.out)))); have n1_ := Aside0.mk (below_step (by repeat (first | (with_reducible first | exact HB.out | apply below_alloc | apply pw_below_drewN | apply below_drew1) | exact HB.out)) hb); clear HB; have HO204 := n0_; have HB := n1_; clear n0_ n1_; (try clear hb); (try clear hb2); (try clear hk); (try clear hi); (try clear ho0); obtain ⟨Ao47, co47, eo47⟩ := Kd.R_slice HO204.out; subst eo47) | ((with_reducible refine gate_callee (f := 21) rfl ?_); refine goesL_ (some 110) rfl rfl Try.func21 (by kernel_rfl) rfl #[.slice Ao47 t201.length co47, .int .i64 a2, .int .i64 a3, .int .i64 a4] rfl (by (try simp only [List.map_toArray, List.map_cons, List.map_nil]); first | done | rfl | (simp only [List.length_drop, List.length_take]; rfl)) ?_; (with_reducible refine (step_Take.calls kj35 _ _ t201 a2 a3 a4 t205 t206 _ ?side1 ?side2 A40.out).mono ?_); (case side1 => repeat (first | exact (Kd.R_reads' HO204.out).2.2 | (with_reducible refine Kd.C_alloc ?_ _) | (with_reducible refine Kd.C_drewN ?_ _) | (with_reducible refine Kd.C_drew ?_))); (case side2 => exact (Kd.R_reads' HO204.out).2.1); rintro e w48 ⟨v207, rfl, ho0, hb⟩; refine ⟨_, rfl, ?_⟩; have n0_ := Aside0.mk (Kd.R_elder' (by (with_reducible repeat (first | apply Kd.R_alloc | apply Kd.R_drewN | apply Kd.R_drew)); exact HO204.out) (Kd.R_base ho0) hb); have n1_ := Aside0.mk (Kd.R_lower (Kd.R_new' ho0 (Kd.R_lt (by (with_reducible repeat (first | apply Kd.R_alloc | apply Kd.R_drewN | apply Kd.R_drew)); exact HO204.out))) (below_size (by repeat (first | (with_reducible first | exact HB.out | apply below_alloc | apply pw_below_drewN | apply below_drew1) | exact HB.out)))); have n2_ := Aside0.mk (below_step (by repeat (first | (with_reducible first | exact HB.out | apply below_alloc | apply pw_below_drewN | apply below_drew1) | exact HB.out)) hb); clear HO204; clear HB; have HO204 := n0_; have HO208 := n1_; have HB := n2_; clear n0_ n1_ n2_; (try clear hb); (try clear hb2); (try clear hk); (try clear hi); (try clear ho0)) | (go_at_call 23; (with_reducible refine (bailiwicklaw03_take.calls kj35 _ _ l0 a1 a3 a4 t209 _ ?side1 ?side2 A44.out).mono ?_); (case side1 => repeat (first | exact (Kd.C_below HR0.out HB.out) | (with_reducible refine Kd.C_alloc ?_ _) | (with_reducible refine Kd.C_drewN ?_ _) | (with_reducible refine Kd.C_drew ?_))); (case side2 => exact HC0.out); rintro e w49 ⟨v210, rfl, ho0, hb⟩; have n0_ := Aside0.mk (Kd.R_elder' (by (with_reducible repeat (first | apply Kd.R_alloc | apply Kd.R_drewN | apply Kd.R_drew)); exact HO204.out) (Kd.R_base ho0) hb); have n1_ := Aside0.mk (Kd.R_elder' (by (with_reducible repeat (first | apply Kd.R_alloc | apply Kd.R_drewN | apply Kd.R_drew)); exact HO208.out) (Kd.R_base ho0) hb); have n2_ := Aside0.mk (Kd.R_lower (Kd.R_new' (Kd.R_new' ho0 (Kd.R_lt (by (with_reducible repeat (first | apply Kd.R_alloc | apply Kd.R_drewN | apply Kd.R_drew)); exact HO204.out))) (Kd.R_lt (by (with_reducible repeat (first | apply Kd.R_alloc | apply Kd.R_drewN | apply Kd.R_drew)); exact HO208.out))) (below_size (by repeat (first | (with_reducible first | exact HB.out | apply below_alloc | apply pw_below_drewN | apply below_drew1) | exact HB.out)))); have n3_ := Aside0.mk (below_step (by repeat (first | (with_reducible first | exact HB.out | apply below_alloc | apply pw_below_drewN | apply below_drew1) | exact HB.out)) hb); clear HO204; clear HO208; clear HB; have HO204 := n0_; have HO208 := n1_; have HO211 := n2_; have HB := n3_; clear n0_ n1_ n2_ n3_; (try clear hb); (try clear hb2); (try clear hk); (try clear hi); (try clear ho0); obtain ⟨Ao50, co50, eo50⟩ := Kd.R_slice HO208.out; subst eo50; obtain ⟨Ao51, co51, eo51⟩ := Kd.R_slice HO211.out; subst eo51) | (go_at_call 22; (with_reducible refine (bailiwickref03_Same.calls kj35 _ _ t205 _ _ t209 t212 _ ?side1 ?side2 ?side3 ?side4 A45.out).mono ?_); (case side1 => repeat (first | exact (Kd.R_reads' HO208.out).2.2 | (with_reducible refine Kd.C_alloc ?_ _) | (with_reducible refine Kd.C_drewN ?_ _) | (with_reducible refine Kd.C_drew ?_))); (case side2 => exact (Kd.R_reads' HO208.out).2.1); (case side3 => repeat (first | exact (Kd.R_reads' HO211.out).2.2 | (with_reducible refine Kd.C_alloc ?_ _) | (with_reducible refine Kd.C_drewN ?_ _) | (with_reducible refine Kd.C_drew ?_))); (case side4 => exact (Kd.R_reads' HO211.out).2.1); rintro e w' ⟨rfl, ⟨nd, rfl⟩⟩))
              go_ret
              exact ⟨by first | rfl | (simp [errW_none, errW_some] <;> rfl) | (simp [*, errW_none, errW_some] <;> rfl), by repeat (first | (with_reducible first | exact HB.out | apply below_alloc | apply pw_below_drewN | apply below_drew1) | exact HB.out)⟩
             ·rw [if_neg c43] at H
              have c43b0 : (t188 == 0) = false := beq_eq_false_iff_ne.mpr c43
              have c43b9 : (t206 == 0) = false := by rw [c43b0] at c42b0; simpa using c42b0
              have c43b1 : (t188 != 0) = true := bne_iff_ne.mpr c43
              obtain rfl := Option.some.inj H
              go_wp2_with (first | ((with_reducible refine gate_callee (f := 21) rfl ?_); refine goesL_ (some 102) rfl rfl Try.func21 (by kernel_rfl) rfl #[.slice A0 l0.length c0, .int .i64 a1, .int .i64 a2, .int .i64 a4] rfl (by (try simp only [List.map_toArray, List.map_cons, List.map_nil]); first | done | rfl | (simp only [List.length_drop, List.length_take]; rfl)) ?_; (with_reducible refine (step_Take.calls kj35 _ _ l0 a1 a2 a4 t201 t202 _ ?side1 ?side2 A39.out).mono ?_); (case side1 => repeat (first | exact (Kd.C_below HR0.out HB.out) | (with_reducible refine Kd.C_alloc ?_ _) | (with_reducible refine Kd.C_drewN ?_ _) | (with_reducible refine Kd.C_drew ?_))); (case side2 => exact HC0.out); rintro e w52 ⟨v203, rfl, ho0, hb⟩; refine ⟨_, rfl, ?_⟩; have n0_ := Aside0.mk (Kd.R_lower ho0 (below_size (by repeat (first | (with_reducible first | exact HB.out | apply below_alloc | apply pw_below_drewN | apply below_drew1) | exact HB.out)))); have n1_ := Aside0.mk (below_step (by repeat (first | (with_reducible first | exact HB.out | apply below_alloc | apply pw_below_drewN | apply below_drew1) | exact HB.out)) hb); clear HB; have HO204 := n0_; have HB := n1_; clear n0_ n1_; (try clear hb); (try clear hb2); (try clear hk); (try clear hi); (try clear ho0); obtain ⟨Ao53, co53, eo53⟩ := Kd.R_slice HO204.out; subst eo53) | ((with_reducible refine gate_callee (f := 21) rfl ?_); refine goesL_ (some 110) rfl rfl Try.func21 (by kernel_rfl) rfl #[.slice Ao53 t201.length co53, .int .i64 a2, .int .i64 a3, .int .i64 a4] rfl (by (try simp only [List.map_toArray, List.map_cons, List.map_nil]); first | done | rfl | (simp only [List.length_drop, List.length_take]; rfl)) ?_; (with_reducible refine (step_Take.calls kj35 _ _ t201 a2 a3 a4 t205 t206 _ ?side1 ?side2 A40.out).mono ?_); (case side1 => repeat (first | exact (Kd.R_reads' HO204.out).2.2 | (with_reducible refine Kd.C_alloc ?_ _) | (with_reducible refine Kd.C_drewN ?_ _) | (with_reducible refine Kd.C_drew ?_))); (case side2 => exact (Kd.R_reads' HO204.out).2.1); rintro e w54 ⟨v207, rfl, ho0, hb⟩; refine ⟨_, rfl, ?_⟩; have n0_ := Aside0.mk (Kd.R_elder' (by (with_reducible repeat (first | apply Kd.R_alloc | apply Kd.R_drewN | apply Kd.R_drew)); exact HO204.out) (Kd.R_base ho0) hb); have n1_ := Aside0.mk (Kd.R_lower (Kd.R_new' ho0 (Kd.R_lt (by (with_reducible repeat (first | apply Kd.R_alloc | apply Kd.R_drewN | apply Kd.R_drew)); exact HO204.out))) (below_size (by repeat (first | (with_reducible first | exact HB.out | apply below_alloc | apply pw_below_drewN | apply below_drew1) | exact HB.out)))); have n2_ := Aside0.mk (below_step (by repeat (first | (with_reducible first | exact HB.out | apply below_alloc | apply pw_below_drewN | apply below_drew1) | exact HB.out)) hb); clear HO204; clear HB; have HO204 := n0_; have HO208 := n1_; have HB := n2_; clear n0_ n1_ n2_; (try clear hb); (try clear hb2); (try clear hk); (try clear hi); (try clear ho0)))
              go_ret
              exact ⟨by first | rfl | (simp [errW_none, errW_some] <;> rfl) | (simp [*, errW_none, errW_some] <;> rfl), by repeat (first | (with_reducible first | exact HB.out | apply below_alloc | apply pw_below_drewN | apply below_drew1) | exact HB.out)⟩
            ·rw [if_neg c42] at H
             have c42b0 : ((t206 == 0) == (t188 == 0)) = false := by simpa using c42
             (try (have c42b1 : decide ((t206 == 0) = (t188 == 0)) = false := by simpa using c42))
             (try (have c42b2 : ((t206 == 0) == (t188 == 0)) = false := by simpa using c42))
             (try (have c42b3 : ¬ ((t206 == 0) = (t188 == 0)) := by simpa using c42))
             clear c42
             obtain rfl := Option.some.inj H
             go_wp2_with (first | ((with_reducible refine gate_callee (f := 21) rfl ?_); refine goesL_ (some 102) rfl rfl Try.func21 (by kernel_rfl) rfl #[.slice A0 l0.length c0, .int .i64 a1, .int .i64 a2, .int .i64 a4] rfl (by (try simp only [List.map_toArray, List.map_cons, List.map_nil]); first | done | rfl | (simp only [List.length_drop, List.length_take]; rfl)) ?_; (with_reducible refine (step_Take.calls kj35 _ _ l0 a1 a2 a4 t201 t202 _ ?side1 ?side2 A39.out).mono ?_); (case side1 => repeat (first | exact (Kd.C_below HR0.out HB.out) | (with_reducible refine Kd.C_alloc ?_ _) | (with_reducible refine Kd.C_drewN ?_ _) | (with_reducible refine Kd.C_drew ?_))); (case side2 => exact HC0.out); rintro e w55 ⟨v203, rfl, ho0, hb⟩; refine ⟨_, rfl, ?_⟩; have n0_ := Aside0.mk (Kd.R_lower ho0 (below_size (by repeat (first | (with_reducible first | exact HB.out | apply below_alloc | apply pw_below_drewN | apply below_drew1) | exact HB.out)))); have n1_ := Aside0.mk (below_step (by repeat (first | (with_reducible first | exact HB.out | apply below_alloc | apply pw_below_drewN | apply below_drew1) | exact HB.out)) hb); clear HB; have HO204 := n0_; have HB := n1_; clear n0_ n1_; (try clear hb); (try clear hb2); (try clear hk); (try clear hi); (try clear ho0); obtain ⟨Ao56, co56, eo56⟩ := Kd.R_slice HO204.out; subst eo56) | ((with_reducible refine gate_callee (f := 21) rfl ?_); refine goesL_ (some 110) rfl rfl Try.func21 (by kernel_rfl) rfl #[.slice Ao56 t201.length co56, .int .i64 a2, .int .i64 a3, .int .i64 a4] rfl (by (try simp only [List.map_toArray, List.map_cons, List.map_nil]); first | done | rfl | (simp only [List.length_drop, List.length_take]; rfl)) ?_; (with_reducible refine (step_Take.calls kj35 _ _ t201 a2 a3 a4 t205 t206 _ ?side1 ?side2 A40.out).mono ?_); (case side1 => repeat (first | exact (Kd.R_reads' HO204.out).2.2 | (with_reducible refine Kd.C_alloc ?_ _) | (with_reducible refine Kd.C_drewN ?_ _) | (with_reducible refine Kd.C_drew ?_))); (case side2 => exact (Kd.R_reads' HO204.out).2.1); rintro e w57 ⟨v207, rfl, ho0, hb⟩; refine ⟨_, rfl, ?_⟩; have n0_ := Aside0.mk (Kd.R_elder' (by (with_reducible repeat (first | apply Kd.R_alloc | apply Kd.R_drewN | apply Kd.R_drew)); exact HO204.out) (Kd.R_base ho0) hb); have n1_ := Aside0.mk (Kd.R_lower (Kd.R_new' ho0 (Kd.R_lt (by (with_reducible repeat (first | apply Kd.R_alloc | apply Kd.R_drewN | apply Kd.R_drew)); exact HO204.out))) (below_size (by repeat (first | (with_reducible first | exact HB.out | apply below_alloc | apply pw_below_drewN | apply below_drew1) | exact HB.out)))); have n2_ := Aside0.mk (below_step (by repeat (first | (with_reducible first | exact HB.out | apply below_alloc | apply pw_below_drewN | apply below_drew1) | exact HB.out)) hb); clear HO204; clear HB; have HO204 := n0_; have HO208 := n1_; have HB := n2_; clear n0_ n1_ n2_; (try clear hb); (try clear hb2); (try clear hk); (try clear hi); (try clear ho0)))
             go_ret
             exact ⟨by first | rfl | (simp [errW_none, errW_some] <;> rfl) | (simp [*, errW_none, errW_some] <;> rfl), by repeat (first | (with_reducible first | exact HB.out | apply below_alloc | apply pw_below_drewN | apply below_drew1) | exact HB.out)⟩
           ·rw [if_neg c41] at H
            have c41b0 : (t202 == 0) = false := beq_eq_false_iff_ne.mpr c41
            have c41b1 : (t202 != 0) = true := bne_iff_ne.mpr c41
            by_cases c58 : (false == (t188 == 0)) = true
            ·rw [if_pos c58] at H
             have c58b0 : (false == (t188 == 0)) = true := c58
             (try (have c58b1 : decide (false = (t188 == 0)) = true := by simpa using c58))
             (try (have c58b2 : (false == (t188 == 0)) = true := by simpa using c58))
             clear c58
             by_cases c59 : t188 = 0
             ·rw [if_pos c59] at H
              have c59b0 : (t188 == 0) = true := beq_iff_eq.mpr c59
              rw [c59b0] at c58b0; exact absurd c58b0 (by decide)
             ·rw [if_neg c59] at H
              have c59b0 : (t188 == 0) = false := beq_eq_false_iff_ne.mpr c59
              have c59b1 : (t188 != 0) = true := bne_iff_ne.mpr c59
              obtain rfl := Option.some.inj H
              go_wp2_with (first | ((with_reducible refine gate_callee (f := 21) rfl ?_); refine goesL_ (some 102) rfl rfl Try.func21 (by kernel_rfl) rfl #[.slice A0 l0.length c0, .int .i64 a1, .int .i64 a2, .int .i64 a4] rfl (by (try simp only [List.map_toArray, List.map_cons, List.map_nil]); first | done | rfl | (simp only [List.length_drop, List.length_take]; rfl)) ?_; (with_reducible refine (step_Take.calls kj35 _ _ l0 a1 a2 a4 t201 t202 _ ?side1 ?side2 A39.out).mono ?_); (case side1 => repeat (first | exact (Kd.C_below HR0.out HB.out) | (with_reducible refine Kd.C_alloc ?_ _) | (with_reducible refine Kd.C_drewN ?_ _) | (with_reducible refine Kd.C_drew ?_))); (case side2 => exact HC0.out); rintro e w68 ⟨v203, rfl, ho0, hb⟩; refine ⟨_, rfl, ?_⟩; have n0_ := Aside0.mk (Kd.R_lower ho0 (below_size (by repeat (first | (with_reducible first | exact HB.out | apply below_alloc | apply pw_below_drewN | apply below_drew1) | exact HB.out)))); have n1_ := Aside0.mk (below_step (by repeat (first | (with_reducible first | exact HB.out | apply below_alloc | apply pw_below_drewN | apply below_drew1) | exact HB.out)) hb); clear HB; have HO204 := n0_; have HB := n1_; clear n0_ n1_; (try clear hb); (try clear hb2); (try clear hk); (try clear hi); (try clear ho0); obtain ⟨Ao69, co69, eo69⟩ := Kd.R_slice HO204.out; subst eo69) | ((with_reducible refine gate_callee (f := 21) rfl ?_); refine goesL_ (some 110) rfl rfl Try.func21 (by kernel_rfl) rfl #[.slice Ao69 t201.length co69, .int .i64 a2, .int .i64 a3, .int .i64 a4] rfl (by (try simp only [List.map_toArray, List.map_cons, List.map_nil]); first | done | rfl | (simp only [List.length_drop, List.length_take]; rfl)) ?_; (with_reducible refine (step_Take.calls kj35 _ _ t201 a2 a3 a4 t205 t206 _ ?side1 ?side2 A40.out).mono ?_); (case side1 => repeat (first | exact (Kd.R_reads' HO204.out).2.2 | (with_reducible refine Kd.C_alloc ?_ _) | (with_reducible refine Kd.C_drewN ?_ _) | (with_reducible refine Kd.C_drew ?_))); (case side2 => exact (Kd.R_reads' HO204.out).2.1); rintro e w70 ⟨v207, rfl, ho0, hb⟩; refine ⟨_, rfl, ?_⟩; have n0_ := Aside0.mk (Kd.R_elder' (by (with_reducible repeat (first | apply Kd.R_alloc | apply Kd.R_drewN | apply Kd.R_drew)); exact HO204.out) (Kd.R_base ho0) hb); have n1_ := Aside0.mk (Kd.R_lower (Kd.R_new' ho0 (Kd.R_lt (by (with_reducible repeat (first | apply Kd.R_alloc | apply Kd.R_drewN | apply Kd.R_drew)); exact HO204.out))) (below_size (by repeat (first | (with_reducible first | exact HB.out | apply below_alloc | apply pw_below_drewN | apply below_drew1) | exact HB.out)))); have n2_ := Aside0.mk (below_step (by repeat (first | (with_reducible first | exact HB.out | apply below_alloc | apply pw_below_drewN | apply below_drew1) | exact HB.out)) hb); clear HO204; clear HB; have HO204 := n0_; have HO208 := n1_; have HB := n2_; clear n0_ n1_ n2_; (try clear hb); (try clear hb2); (try clear hk); (try clear hi); (try clear ho0)))
              go_ret
              exact ⟨by first | rfl | (simp [errW_none, errW_some] <;> rfl) | (simp [*, errW_none, errW_some] <;> rfl), by repeat (first | (with_reducible first | exact HB.out | apply below_alloc | apply pw_below_drewN | apply below_drew1) | exact HB.out)⟩
            ·rw [if_neg c58] at H
             have c58b0 : (false == (t188 == 0)) = false := by simpa using c58
             (try (have c58b1 : decide (false = (t188 == 0)) = false := by simpa using c58))
             (try (have c58b2 : (false == (t188 == 0)) = false := by simpa using c58))
             (try (have c58b3 : ¬ (false = (t188 == 0)) := by simpa using c58))
             clear c58
             obtain rfl := Option.some.inj H
             go_wp2_with (first | ((with_reducible refine gate_callee (f := 21) rfl ?_); refine goesL_ (some 102) rfl rfl Try.func21 (by kernel_rfl) rfl #[.slice A0 l0.length c0, .int .i64 a1, .int .i64 a2, .int .i64 a4] rfl (by (try simp only [List.map_toArray, List.map_cons, List.map_nil]); first | done | rfl | (simp only [List.length_drop, List.length_take]; rfl)) ?_; (with_reducible refine (step_Take.calls kj35 _ _ l0 a1 a2 a4 t201 t202 _ ?side1 ?side2 A39.out).mono ?_); (case side1 => repeat (first | exact (Kd.C_below HR0.out HB.out) | (with_reducible refine Kd.C_alloc ?_ _) | (with_reducible refine Kd.C_drewN ?_ _) | (with_reducible refine Kd.C_drew ?_))); (case side2 => exact HC0.out); rintro e w71 ⟨v203, rfl, ho0, hb⟩; refine ⟨_, rfl, ?_⟩; have n0_ := Aside0.mk (Kd.R_lower ho0 (below_size (by repeat (first | (with_reducible first | exact HB.out | apply below_alloc | apply pw_below_drewN | apply below_drew1) | exact HB.out)))); have n1_ := Aside0.mk (below_step (by repeat (first | (with_reducible first | exact HB.out | apply below_alloc | apply pw_below_drewN | apply below_drew1) | exact HB.out)) hb); clear HB; have HO204 := n0_; have HB := n1_; clear n0_ n1_; (try clear hb); (try clear hb2); (try clear hk); (try clear hi); (try clear ho0); obtain ⟨Ao72, co72, eo72⟩ := Kd.R_slice HO204.out; subst eo72) | ((with_reducible refine gate_callee (f := 21) rfl ?_); refine goesL_ (some 110) rfl rfl Try.func21 (by kernel_rfl) rfl #[.slice Ao72 t201.length co72, .int .i64 a2, .int .i64 a3, .int .i64 a4] rfl (by (try simp only [List.map_toArray, List.map_cons, List.map_nil]); first | done | rfl | (simp only [List.length_drop, List.length_take]; rfl)) ?_; (with_reducible refine (step_Take.calls kj35 _ _ t201 a2 a3 a4 t205 t206 _ ?side1 ?side2 A40.out).mono ?_); (case side1 => repeat (first | exact (Kd.R_reads' HO204.out).2.2 | (with_reducible refine Kd.C_alloc ?_ _) | (with_reducible refine Kd.C_drewN ?_ _) | (with_reducible refine Kd.C_drew ?_))); (case side2 => exact (Kd.R_reads' HO204.out).2.1); rintro e w73 ⟨v207, rfl, ho0, hb⟩; refine ⟨_, rfl, ?_⟩; have n0_ := Aside0.mk (Kd.R_elder' (by (with_reducible repeat (first | apply Kd.R_alloc | apply Kd.R_drewN | apply Kd.R_drew)); exact HO204.out) (Kd.R_base ho0) hb); have n1_ := Aside0.mk (Kd.R_lower (Kd.R_new' ho0 (Kd.R_lt (by (with_reducible repeat (first | apply Kd.R_alloc | apply Kd.R_drewN | apply Kd.R_drew)); exact HO204.out))) (below_size (by repeat (first | (with_reducible first | exact HB.out | apply below_alloc | apply pw_below_drewN | apply below_drew1) | exact HB.out)))); have n2_ := Aside0.mk (below_step (by repeat (first | (with_reducible first | exact HB.out | apply below_alloc | apply pw_below_drewN | apply below_drew1) | exact HB.out)) hb); clear HO204; clear HB; have HO204 := n0_; have HO208 := n1_; have HB := n2_; clear n0_ n1_ n2_; (try clear hb); (try clear hb2); (try clear hk); (try clear hi); (try clear ho0)))
             go_ret
             exact ⟨by first | rfl | (simp [errW_none, errW_some] <;> rfl) | (simp [*, errW_none, errW_some] <;> rfl), by repeat (first | (with_reducible first | exact HB.out | apply below_alloc | apply pw_below_drewN | apply below_drew1) | exact HB.out)⟩
 ·replace c8 := Bool.eq_false_iff.mpr c8
  subst c8
  have H1 : (some false) = some r := by rw [if_neg (show ¬ (false = true) by decide)] at H; exact H
  clear H
  have H := H1
  clear H1
  obtain rfl := Option.some.inj H
  go_enter Try.func5, Try.ntmps5
  go_wp2_with (first | ((with_reducible refine gate_callee (f := 14) rfl ?_); refine goesL_ (some 21) rfl rfl Try.func14 (by kernel_rfl) rfl #[] rfl (by (try simp only [List.map_toArray, List.map_cons, List.map_nil]); first | done | rfl | (simp only [List.length_drop, List.length_take]; rfl)) ?_; (with_reducible refine (bailiwicklaw03_awake.calls k  false _ A7.out).mono ?_); rintro e w74 ⟨rfl, hb⟩; refine ⟨_, rfl, ?_⟩; have n0_ := Aside0.mk (below_step (by repeat (first | (with_reducible first | exact HB.out | apply below_alloc | apply pw_below_drewN | apply below_drew1) | exact HB.out)) hb); clear HB; have HB := n0_; clear n0_; (try clear hb); (try clear hb2); (try clear hk); (try clear hi)))
  go_ret
  exact ⟨by first | rfl | (simp [errW_none, errW_some] <;> rfl) | (simp [*, errW_none, errW_some] <;> rfl), by repeat (first | (with_reducible first | exact HB.out | apply below_alloc | apply pw_below_drewN | apply below_drew1) | exact HB.out)⟩

/-- THE ONE PURE STATEMENT of bailiwicklaw03_StepTwice. -/
def bailiwicklaw03_StepTwice.Pure : Prop := ∀ (l0 : List (S45)) (a1 : Int) (a2 : Int) (a3 : Int) (a4 : Int) (a5 : Int), (l0.length * 16 ≤ 140737488351232 ∧ l0.length ≤ maxLen ∧ ∀ x0_ ∈ l0, (((Lit.int .i64 x0_.f0).wf = true) ∧ ((Lit.int .i64 x0_.f1).wf = true))) → (Lit.int .i64 a1).wf = true → (Lit.int .i64 a2).wf = true → (Lit.int .i64 a3).wf = true → (Lit.int .i64 a4).wf = true → (Lit.int .i64 a5).wf = true → ∃ k, bailiwicklaw03_StepTwice.f k l0 a1 a2 a3 a4 a5 = some true


end Go.Proofs.Ytimllhflecippaa.F
