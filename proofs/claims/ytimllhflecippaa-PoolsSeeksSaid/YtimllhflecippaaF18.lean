-- Written by gprint.py (this repo's own driver over the kit's printer); Lean checks it.
import Derived.Test.YtimllhflecippaaF0
import Derived.Test.YtimllhflecippaaF15
import Derived.Test.YtimllhflecippaaF17
namespace Go.Proofs.Ytimllhflecippaa.F
open Go.RowKit Go.Proofs.YtimllhflecippaaW.PrintWords Go.Proofs.YtimllhflecippaaW.PrintLast Go.Proofs.YtimllhflecippaaW.PrintMore
attribute [local go_sem] max2_int min2_int max_two min_two max_three min_three max_four min_four   -- for this text's walks alone
set_option linter.unusedVariables false
set_option linter.unusedSimpArgs false

/-! ### bailiwickref04_First: function 41 -/
mutual
def bailiwickref04_First.j0 : Nat → List (List (S45)) → Int → Int → List Int → Bool → Option (Int × Bool)
 | 0, _, _, _, _, _ => none
 | k + 1, x0, x1, x2, x3, x36 => if x36 = true then (some (0, false)) else (bailiwickref04_First.l0 k x0 x1 x2 x3 0)
def bailiwickref04_First.l0 : Nat → List (List (S45)) → Int → Int → List Int → Int → Option (Int × Bool)
 | 0, _, _, _, _, _ => none
 | k + 1, x0, x1, x2, x3, x10 => if x10 < (x3.length : Int) then (if 0 ≤ x10 then (if (rd x3 x10) < 0 then (some (0, false)) else (if (rd x3 x10) > 1048576 then (some (0, false)) else (bailiwickref04_First.l0 k x0 x1 x2 x3 (wrap64 (x10 + 1))))) else (none)) else (bailiwickref04_First.l1 k x0 x1 x2 x3 (-1) (-1))
def bailiwickref04_First.l1 : Nat → List (List (S45)) → Int → Int → List Int → Int → Int → Option (Int × Bool)
 | 0, _, _, _, _, _, _ => none
 | k + 1, x0, x1, x2, x3, x11, x12 => if x12 < (x0.length : Int) then (bailiwickref04_First.l2 k x0 x1 x2 x3 x11 x12 0) else (if x11 < 0 then (some (0, false)) else (some (x11, true)))
def bailiwickref04_First.l2 : Nat → List (List (S45)) → Int → Int → List Int → Int → Int → Int → Option (Int × Bool)
 | 0, _, _, _, _, _, _, _ => none
 | k + 1, x0, x1, x2, x3, x11, x12, x13 => if x12 < 0 then (if x13 < 1 then (bailiwickref04_First.j4 k x0 x1 x2 x3 x11 x12 x13 true) else (if x12 ≥ 0 then (if 0 ≤ x12 then (if x12 < (x0.length : Int) then (bailiwickref04_First.j4 k x0 x1 x2 x3 x11 x12 x13 (decide (x13 < ((rd_L2 x0 x12).length : Int)))) else (none)) else (none)) else (bailiwickref04_First.j4 k x0 x1 x2 x3 x11 x12 x13 false))) else (if x12 ≥ 0 then (if 0 ≤ x12 then (if x12 < (x0.length : Int) then (bailiwickref04_First.j4 k x0 x1 x2 x3 x11 x12 x13 (decide (x13 < ((rd_L2 x0 x12).length : Int)))) else (none)) else (none)) else (bailiwickref04_First.j4 k x0 x1 x2 x3 x11 x12 x13 false))
def bailiwickref04_First.j4 : Nat → List (List (S45)) → Int → Int → List Int → Int → Int → Int → Bool → Option (Int × Bool)
 | 0, _, _, _, _, _, _, _, _ => none
 | k + 1, x0, x1, x2, x3, x11, x12, x13, x79 => if x79 = true then (if x12 ≥ 0 then (if 0 ≤ x12 then (if x12 < (x0.length : Int) then (if 0 ≤ x13 then (if x13 < ((rd_L2 x0 x12).length : Int) then (if ((rd_T45 (rd_L2 x0 x12) x13).f0) ≥ x1 then (if ((rd_T45 (rd_L2 x0 x12) x13).f0) < 4611686018427387904 then (if x11 < 0 then ((bailiwickref04_fits.f k x0 ((rd_T45 (rd_L2 x0 x12) x13).f0) x2 x3).bind fun t283 => (if t283 = true then (bailiwickref04_First.l2 k x0 x1 x2 x3 ((rd_T45 (rd_L2 x0 x12) x13).f0) x12 (wrap64 (x13 + 1))) else (bailiwickref04_First.l2 k x0 x1 x2 x3 x11 x12 (wrap64 (x13 + 1))))) else (if ((rd_T45 (rd_L2 x0 x12) x13).f0) < x11 then ((bailiwickref04_fits.f k x0 ((rd_T45 (rd_L2 x0 x12) x13).f0) x2 x3).bind fun t284 => (if t284 = true then (bailiwickref04_First.l2 k x0 x1 x2 x3 ((rd_T45 (rd_L2 x0 x12) x13).f0) x12 (wrap64 (x13 + 1))) else (bailiwickref04_First.l2 k x0 x1 x2 x3 x11 x12 (wrap64 (x13 + 1))))) else (bailiwickref04_First.l2 k x0 x1 x2 x3 x11 x12 (wrap64 (x13 + 1))))) else (bailiwickref04_First.l2 k x0 x1 x2 x3 x11 x12 (wrap64 (x13 + 1)))) else (bailiwickref04_First.l2 k x0 x1 x2 x3 x11 x12 (wrap64 (x13 + 1)))) else (none)) else (none)) else (none)) else (none)) else (if x1 ≥ x1 then (if x1 < 4611686018427387904 then (if x11 < 0 then ((bailiwickref04_fits.f k x0 x1 x2 x3).bind fun t285 => (if t285 = true then (bailiwickref04_First.l2 k x0 x1 x2 x3 x1 x12 (wrap64 (x13 + 1))) else (bailiwickref04_First.l2 k x0 x1 x2 x3 x11 x12 (wrap64 (x13 + 1))))) else (if x1 < x11 then ((bailiwickref04_fits.f k x0 x1 x2 x3).bind fun t286 => (if t286 = true then (bailiwickref04_First.l2 k x0 x1 x2 x3 x1 x12 (wrap64 (x13 + 1))) else (bailiwickref04_First.l2 k x0 x1 x2 x3 x11 x12 (wrap64 (x13 + 1))))) else (bailiwickref04_First.l2 k x0 x1 x2 x3 x11 x12 (wrap64 (x13 + 1))))) else (bailiwickref04_First.l2 k x0 x1 x2 x3 x11 x12 (wrap64 (x13 + 1)))) else (bailiwickref04_First.l2 k x0 x1 x2 x3 x11 x12 (wrap64 (x13 + 1))))) else (bailiwickref04_First.l1 k x0 x1 x2 x3 x11 (wrap64 (x12 + 1)))
end
def bailiwickref04_First.f (k : Nat) (l0 : List (List (S45))) (a1 : Int) (a2 : Int) (l3 : List Int) : Option (Int × Bool) := (bailiwickref04_Right.f k l0).bind fun t276 => (if t276 = true then (if (l3.length : Int) = (l0.length : Int) then (if a1 < 0 then (bailiwickref04_First.j0 k l0 a1 a2 l3 true) else (if a1 ≥ 4611686018427387904 then (bailiwickref04_First.j0 k l0 a1 a2 l3 true) else (bailiwickref04_First.j0 k l0 a1 a2 l3 (decide (a2 < 1))))) else (bailiwickref04_First.j0 k l0 a1 a2 l3 true)) else (bailiwickref04_First.j0 k l0 a1 a2 l3 true))
theorem bailiwickref04_First.mono_l : ∀ k, (∀ y0 y1 y2 y3 y4, LeO (bailiwickref04_First.j0 k y0 y1 y2 y3 y4) (bailiwickref04_First.j0 (k + 1) y0 y1 y2 y3 y4)) ∧ (∀ y0 y1 y2 y3 y4, LeO (bailiwickref04_First.l0 k y0 y1 y2 y3 y4) (bailiwickref04_First.l0 (k + 1) y0 y1 y2 y3 y4)) ∧ (∀ y0 y1 y2 y3 y4 y5, LeO (bailiwickref04_First.l1 k y0 y1 y2 y3 y4 y5) (bailiwickref04_First.l1 (k + 1) y0 y1 y2 y3 y4 y5)) ∧ (∀ y0 y1 y2 y3 y4 y5 y6, LeO (bailiwickref04_First.l2 k y0 y1 y2 y3 y4 y5 y6) (bailiwickref04_First.l2 (k + 1) y0 y1 y2 y3 y4 y5 y6)) ∧ (∀ y0 y1 y2 y3 y4 y5 y6 y7, LeO (bailiwickref04_First.j4 k y0 y1 y2 y3 y4 y5 y6 y7) (bailiwickref04_First.j4 (k + 1) y0 y1 y2 y3 y4 y5 y6 y7))
 | 0 => ⟨fun _ _ _ _ _ r h => by simp [bailiwickref04_First.j0] at h, fun _ _ _ _ _ r h => by simp [bailiwickref04_First.l0] at h, fun _ _ _ _ _ _ r h => by simp [bailiwickref04_First.l1] at h, fun _ _ _ _ _ _ _ r h => by simp [bailiwickref04_First.l2] at h, fun _ _ _ _ _ _ _ _ r h => by simp [bailiwickref04_First.j4] at h⟩
 | k + 1 => by
  obtain ⟨ih0, ih1, ih2, ih3, ih4⟩ := bailiwickref04_First.mono_l k
  refine ⟨?_, ?_, ?_, ?_, ?_⟩
  ·intro y0 y1 y2 y3 y4
   unfold bailiwickref04_First.j0
   repeat' first
   | (with_reducible exact ih0 _ _ _ _ _)
   | (with_reducible exact ih1 _ _ _ _ _)
   | (with_reducible exact ih2 _ _ _ _ _ _)
   | (with_reducible exact ih3 _ _ _ _ _ _ _)
   | (with_reducible exact ih4 _ _ _ _ _ _ _ _)
   | (with_reducible exact bailiwickref04_Right.mono _ _)
   | (with_reducible exact bailiwickref04_fits.mono _ _ _ _ _)
   | (with_reducible exact LeO.refl _)
   | (with_reducible exact LeO.none _)
   | (with_reducible refine LeO.ite ?_ ?_)
   | (with_reducible refine LeO.bind ?_ (fun _ => ?_))
   | exact ih0 _ _ _ _ _
   | exact ih1 _ _ _ _ _
   | exact ih2 _ _ _ _ _ _
   | exact ih3 _ _ _ _ _ _ _
   | exact ih4 _ _ _ _ _ _ _ _
   | exact bailiwickref04_Right.mono _ _
   | exact bailiwickref04_fits.mono _ _ _ _ _
   | exact LeO.none _
   | refine LeO.ite ?_ ?_
   | refine LeO.bind ?_ (fun _ => ?_)
  ·intro y0 y1 y2 y3 y4
   unfold bailiwickref04_First.l0
   repeat' first
   | (with_reducible exact ih0 _ _ _ _ _)
   | (with_reducible exact ih1 _ _ _ _ _)
   | (with_reducible exact ih2 _ _ _ _ _ _)
   | (with_reducible exact ih3 _ _ _ _ _ _ _)
   | (with_reducible exact ih4 _ _ _ _ _ _ _ _)
   | (with_reducible exact bailiwickref04_Right.mono _ _)
   | (with_reducible exact bailiwickref04_fits.mono _ _ _ _ _)
   | (with_reducible exact LeO.refl _)
   | (with_reducible exact LeO.none _)
   | (with_reducible refine LeO.ite ?_ ?_)
   | (with_reducible refine LeO.bind ?_ (fun _ => ?_))
   | exact ih0 _ _ _ _ _
   | exact ih1 _ _ _ _ _
   | exact ih2 _ _ _ _ _ _
   | exact ih3 _ _ _ _ _ _ _
   | exact ih4 _ _ _ _ _ _ _ _
   | exact bailiwickref04_Right.mono _ _
   | exact bailiwickref04_fits.mono _ _ _ _ _
   | exact LeO.none _
   | refine LeO.ite ?_ ?_
   | refine LeO.bind ?_ (fun _ => ?_)
  ·intro y0 y1 y2 y3 y4 y5
   unfold bailiwickref04_First.l1
   repeat' first
   | (with_reducible exact ih0 _ _ _ _ _)
   | (with_reducible exact ih1 _ _ _ _ _)
   | (with_reducible exact ih2 _ _ _ _ _ _)
   | (with_reducible exact ih3 _ _ _ _ _ _ _)
   | (with_reducible exact ih4 _ _ _ _ _ _ _ _)
   | (with_reducible exact bailiwickref04_Right.mono _ _)
   | (with_reducible exact bailiwickref04_fits.mono _ _ _ _ _)
   | (with_reducible exact LeO.refl _)
   | (with_reducible exact LeO.none _)
   | (with_reducible refine LeO.ite ?_ ?_)
   | (with_reducible refine LeO.bind ?_ (fun _ => ?_))
   | exact ih0 _ _ _ _ _
   | exact ih1 _ _ _ _ _
   | exact ih2 _ _ _ _ _ _
   | exact ih3 _ _ _ _ _ _ _
   | exact ih4 _ _ _ _ _ _ _ _
   | exact bailiwickref04_Right.mono _ _
   | exact bailiwickref04_fits.mono _ _ _ _ _
   | exact LeO.none _
   | refine LeO.ite ?_ ?_
   | refine LeO.bind ?_ (fun _ => ?_)
  ·intro y0 y1 y2 y3 y4 y5 y6
   unfold bailiwickref04_First.l2
   repeat' first
   | (with_reducible exact ih0 _ _ _ _ _)
   | (with_reducible exact ih1 _ _ _ _ _)
   | (with_reducible exact ih2 _ _ _ _ _ _)
   | (with_reducible exact ih3 _ _ _ _ _ _ _)
   | (with_reducible exact ih4 _ _ _ _ _ _ _ _)
   | (with_reducible exact bailiwickref04_Right.mono _ _)
   | (with_reducible exact bailiwickref04_fits.mono _ _ _ _ _)
   | (with_reducible exact LeO.refl _)
   | (with_reducible exact LeO.none _)
   | (with_reducible refine LeO.ite ?_ ?_)
   | (with_reducible refine LeO.bind ?_ (fun _ => ?_))
   | exact ih0 _ _ _ _ _
   | exact ih1 _ _ _ _ _
   | exact ih2 _ _ _ _ _ _
   | exact ih3 _ _ _ _ _ _ _
   | exact ih4 _ _ _ _ _ _ _ _
   | exact bailiwickref04_Right.mono _ _
   | exact bailiwickref04_fits.mono _ _ _ _ _
   | exact LeO.none _
   | refine LeO.ite ?_ ?_
   | refine LeO.bind ?_ (fun _ => ?_)
  ·intro y0 y1 y2 y3 y4 y5 y6 y7
   unfold bailiwickref04_First.j4
   repeat' first
   | (with_reducible exact ih0 _ _ _ _ _)
   | (with_reducible exact ih1 _ _ _ _ _)
   | (with_reducible exact ih2 _ _ _ _ _ _)
   | (with_reducible exact ih3 _ _ _ _ _ _ _)
   | (with_reducible exact ih4 _ _ _ _ _ _ _ _)
   | (with_reducible exact bailiwickref04_Right.mono _ _)
   | (with_reducible exact bailiwickref04_fits.mono _ _ _ _ _)
   | (with_reducible exact LeO.refl _)
   | (with_reducible exact LeO.none _)
   | (with_reducible refine LeO.ite ?_ ?_)
   | (with_reducible refine LeO.bind ?_ (fun _ => ?_))
   | exact ih0 _ _ _ _ _
   | exact ih1 _ _ _ _ _
   | exact ih2 _ _ _ _ _ _
   | exact ih3 _ _ _ _ _ _ _
   | exact ih4 _ _ _ _ _ _ _ _
   | exact bailiwickref04_Right.mono _ _
   | exact bailiwickref04_fits.mono _ _ _ _ _
   | exact LeO.none _
   | refine LeO.ite ?_ ?_
   | refine LeO.bind ?_ (fun _ => ?_)
theorem bailiwickref04_First.mono : ∀ a0 a1 a2 a3 k, LeO (bailiwickref04_First.f k a0 a1 a2 a3) (bailiwickref04_First.f (k + 1) a0 a1 a2 a3) := by
 intro a0 a1 a2 a3 k
 obtain ⟨ih0, ih1, ih2, ih3, ih4⟩ := bailiwickref04_First.mono_l k
 unfold bailiwickref04_First.f
 repeat' first
   | (with_reducible exact ih0 _ _ _ _ _)
   | (with_reducible exact ih1 _ _ _ _ _)
   | (with_reducible exact ih2 _ _ _ _ _ _)
   | (with_reducible exact ih3 _ _ _ _ _ _ _)
   | (with_reducible exact ih4 _ _ _ _ _ _ _ _)
   | (with_reducible exact bailiwickref04_Right.mono _ _)
   | (with_reducible exact bailiwickref04_fits.mono _ _ _ _ _)
   | (with_reducible exact LeO.refl _)
   | (with_reducible exact LeO.none _)
   | (with_reducible refine LeO.ite ?_ ?_)
   | (with_reducible refine LeO.bind ?_ (fun _ => ?_))
   | exact ih0 _ _ _ _ _
   | exact ih1 _ _ _ _ _
   | exact ih2 _ _ _ _ _ _
   | exact ih3 _ _ _ _ _ _ _
   | exact ih4 _ _ _ _ _ _ _ _
   | exact bailiwickref04_Right.mono _ _
   | exact bailiwickref04_fits.mono _ _ _ _ _
   | exact LeO.none _
   | refine LeO.ite ?_ ?_
   | refine LeO.bind ?_ (fun _ => ?_)
set_option maxHeartbeats 8000000 in
set_option maxRecDepth 100000 in
theorem bailiwickref04_First.calls (k : Nat) (A0 : Option Addr) (c0 : Nat) (l0 : List (List (S45))) (a1 : Int) (a2 : Int) (A3 : Option Addr) (c3 : Nat) (l3 : List Int) (r1 : Int) (r2 : Bool) (w : World) (hr0 : Kd.C (Kd.slice 45 k45) w A0 l0.length l0) (hc0 : l0.length ≤ c0) (hr3 : Kd.C (Kd.int .i64) w A3 l3.length l3) (hc3 : l3.length ≤ c3) (h : bailiwickref04_First.f k l0 a1 a2 l3 = some (r1, r2)) :
  Calls Try.prog 41 #[.slice A0 l0.length c0, .int .i64 a1, .int .i64 a2, .slice A3 l3.length c3] w fun e w' => e = .returned (.tuple #[.int .i64 r1, .bool r2]) ∧ Drawn0 w w' := by
 have HR0 := Aside0.mk hr0
 have HC0 := Aside0.mk hc0
 clear hr0 hc0
 have HR3 := Aside0.mk hr3
 have HC3 := Aside0.mk hc3
 clear hr3 hc3
 have H : ((bailiwickref04_Right.f k l0).bind fun t276 => (if t276 = true then (if (l3.length : Int) = (l0.length : Int) then (if a1 < 0 then (bailiwickref04_First.j0 k l0 a1 a2 l3 true) else (if a1 ≥ 4611686018427387904 then (bailiwickref04_First.j0 k l0 a1 a2 l3 true) else (bailiwickref04_First.j0 k l0 a1 a2 l3 (decide (a2 < 1))))) else (bailiwickref04_First.j0 k l0 a1 a2 l3 true)) else (bailiwickref04_First.j0 k l0 a1 a2 l3 true))) = some (r1, r2) := h
 clear h
 have HC5 := Aside0.mk H
 clear H
 go_enter Try.func41, Try.ntmps41
 go_upto_region 1 with (fail)
 go_cut [36] (fun v36 wc => ∃ (kq : Nat) (x36_4 : Bool), v36 = .bool x36_4 ∧ Aside0 (bailiwickref04_First.j0 kq l0 a1 a2 l3 x36_4 = some (r1, r2)) ∧ Aside0 (kq ≤ k) ∧ Drawn0 w wc)
 case first =>
  have H := HC5.out
  clear HC5
  replace H := Option.bind_eq_some_iff.mp H
  obtain ⟨t276, A60, H⟩ := H
  replace H : (if t276 = true then (if (l3.length : Int) = (l0.length : Int) then (if a1 < 0 then (bailiwickref04_First.j0 k l0 a1 a2 l3 true) else (if a1 ≥ 4611686018427387904 then (bailiwickref04_First.j0 k l0 a1 a2 l3 true) else (bailiwickref04_First.j0 k l0 a1 a2 l3 (decide (a2 < 1))))) else (bailiwickref04_First.j0 k l0 a1 a2 l3 true)) else (bailiwickref04_First.j0 k l0 a1 a2 l3 true)) = some (r1, r2) := H
  have A6 := Aside0.mk A60
  clear A60
  by_cases c7 : t276 = true
  ·subst c7
   have H1 : (if (l3.length : Int) = (l0.length : Int) then (if a1 < 0 then (bailiwickref04_First.j0 k l0 a1 a2 l3 true) else (if a1 ≥ 4611686018427387904 then (bailiwickref04_First.j0 k l0 a1 a2 l3 true) else (bailiwickref04_First.j0 k l0 a1 a2 l3 (decide (a2 < 1))))) else (bailiwickref04_First.j0 k l0 a1 a2 l3 true)) = some (r1, r2) := by rw [if_pos rfl] at H; exact H
   clear H
   have H := H1
   clear H1
   by_cases c8 : (l3.length : Int) = (l0.length : Int)
   ·rw [if_pos c8] at H
    have c8b0 : ((l3.length : Int) == (l0.length : Int)) = true := beq_iff_eq.mpr c8
    have c8b1 : ((l3.length : Int) != (l0.length : Int)) = false := bne_eq_false_iff_eq.mpr c8
    have c8b2 : (l3.length == l0.length) = true := by first | simpa using c8 | (simp at c8 ⊢; omega)
    clear c8
    (first | rw [c8b0] | (simp only [i64_w, i32_w]; rw [c8b0]) | skip)
    by_cases c9 : a1 < 0
    ·rw [if_pos c9] at H
     have c9b0 : decide (a1 < 0) = true := decide_eq_true c9
     clear c9
     have H' := Aside0.mk H
     clear H
     go_wp2_with (first | ((with_reducible refine gate_callee (f := 45) rfl ?_); refine goesL_ (some 16) rfl rfl Try.func45 (by kernel_rfl) rfl #[.slice A0 l0.length c0] rfl (by (try simp only [List.map_toArray, List.map_cons, List.map_nil]); first | done | rfl | (simp only [List.length_drop, List.length_take]; rfl)) ?_; (with_reducible refine (bailiwickref04_Right.calls k _ _ l0 true _ ?side1 ?side2 A6.out).mono ?_); (case side1 => repeat (first | exact HR0.out | (with_reducible refine Kd.C_alloc ?_ _) | (with_reducible refine Kd.C_drewN ?_ _) | (with_reducible refine Kd.C_drew ?_))); (case side2 => exact HC0.out); rintro e w' ⟨rfl, ⟨nd, rfl⟩⟩; refine ⟨_, rfl, ?_⟩))
     go_meet
     case rel => exact ⟨_, (true), (by first | rfl | (simp; done) | (simp [*]; done)), H', ⟨by first | omega | exact Nat.le_refl _⟩, by repeat (first | exact Drawn0.refl _ | apply Drawn0.step)⟩
    ·rw [if_neg c9] at H
     have c9b0 : decide (a1 < 0) = false := decide_eq_false c9
     clear c9
     by_cases c10 : a1 ≥ 4611686018427387904
     ·rw [if_pos c10] at H
      have c10b0 : decide (4611686018427387904 ≤ a1) = true := decide_eq_true c10
      clear c10
      have H' := Aside0.mk H
      clear H
      go_wp2_with (first | ((with_reducible refine gate_callee (f := 45) rfl ?_); refine goesL_ (some 16) rfl rfl Try.func45 (by kernel_rfl) rfl #[.slice A0 l0.length c0] rfl (by (try simp only [List.map_toArray, List.map_cons, List.map_nil]); first | done | rfl | (simp only [List.length_drop, List.length_take]; rfl)) ?_; (with_reducible refine (bailiwickref04_Right.calls k _ _ l0 true _ ?side1 ?side2 A6.out).mono ?_); (case side1 => repeat (first | exact HR0.out | (with_reducible refine Kd.C_alloc ?_ _) | (with_reducible refine Kd.C_drewN ?_ _) | (with_reducible refine Kd.C_drew ?_))); (case side2 => exact HC0.out); rintro e w' ⟨rfl, ⟨nd, rfl⟩⟩; refine ⟨_, rfl, ?_⟩))
      go_meet
      case rel => exact ⟨_, (true), (by first | rfl | (simp; done) | (simp [*]; done)), H', ⟨by first | omega | exact Nat.le_refl _⟩, by repeat (first | exact Drawn0.refl _ | apply Drawn0.step)⟩
     ·rw [if_neg c10] at H
      have c10b0 : decide (4611686018427387904 ≤ a1) = false := decide_eq_false c10
      clear c10
      have H' := Aside0.mk H
      clear H
      go_wp2_with (first | ((with_reducible refine gate_callee (f := 45) rfl ?_); refine goesL_ (some 16) rfl rfl Try.func45 (by kernel_rfl) rfl #[.slice A0 l0.length c0] rfl (by (try simp only [List.map_toArray, List.map_cons, List.map_nil]); first | done | rfl | (simp only [List.length_drop, List.length_take]; rfl)) ?_; (with_reducible refine (bailiwickref04_Right.calls k _ _ l0 true _ ?side1 ?side2 A6.out).mono ?_); (case side1 => repeat (first | exact HR0.out | (with_reducible refine Kd.C_alloc ?_ _) | (with_reducible refine Kd.C_drewN ?_ _) | (with_reducible refine Kd.C_drew ?_))); (case side2 => exact HC0.out); rintro e w' ⟨rfl, ⟨nd, rfl⟩⟩; refine ⟨_, rfl, ?_⟩))
      go_meet
      case rel => exact ⟨_, (decide (a2 < 1)), (by first | rfl | (simp; done) | (simp [*]; done)), H', ⟨by first | omega | exact Nat.le_refl _⟩, by repeat (first | exact Drawn0.refl _ | apply Drawn0.step)⟩
   ·rw [if_neg c8] at H
    have c8b0 : ((l3.length : Int) == (l0.length : Int)) = false := beq_eq_false_iff_ne.mpr c8
    have c8b1 : ((l3.length : Int) != (l0.length : Int)) = true := bne_iff_ne.mpr c8
    have c8b2 : (l3.length == l0.length) = false := by first | simpa using c8 | (simp at c8 ⊢; omega)
    (first | rw [c8b0] | (simp only [i64_w, i32_w]; rw [c8b0]) | skip)
    have H' := Aside0.mk H
    clear H
    go_wp2_with (first | ((with_reducible refine gate_callee (f := 45) rfl ?_); refine goesL_ (some 16) rfl rfl Try.func45 (by kernel_rfl) rfl #[.slice A0 l0.length c0] rfl (by (try simp only [List.map_toArray, List.map_cons, List.map_nil]); first | done | rfl | (simp only [List.length_drop, List.length_take]; rfl)) ?_; (with_reducible refine (bailiwickref04_Right.calls k _ _ l0 true _ ?side1 ?side2 A6.out).mono ?_); (case side1 => repeat (first | exact HR0.out | (with_reducible refine Kd.C_alloc ?_ _) | (with_reducible refine Kd.C_drewN ?_ _) | (with_reducible refine Kd.C_drew ?_))); (case side2 => exact HC0.out); rintro e w' ⟨rfl, ⟨nd, rfl⟩⟩; refine ⟨_, rfl, ?_⟩))
    go_meet
    case rel => exact ⟨_, (true), (by first | rfl | (simp; done) | (simp [*]; done)), H', ⟨by first | omega | exact Nat.le_refl _⟩, by repeat (first | exact Drawn0.refl _ | apply Drawn0.step)⟩
  ·replace c7 := Bool.eq_false_iff.mpr c7
   subst c7
   have H1 : (bailiwickref04_First.j0 k l0 a1 a2 l3 true) = some (r1, r2) := by rw [if_neg (show ¬ (false = true) by decide)] at H; exact H
   clear H
   have H := H1
   clear H1
   have H' := Aside0.mk H
   clear H
   go_wp2_with (first | ((with_reducible refine gate_callee (f := 45) rfl ?_); refine goesL_ (some 16) rfl rfl Try.func45 (by kernel_rfl) rfl #[.slice A0 l0.length c0] rfl (by (try simp only [List.map_toArray, List.map_cons, List.map_nil]); first | done | rfl | (simp only [List.length_drop, List.length_take]; rfl)) ?_; (with_reducible refine (bailiwickref04_Right.calls k _ _ l0 false _ ?side1 ?side2 A6.out).mono ?_); (case side1 => repeat (first | exact HR0.out | (with_reducible refine Kd.C_alloc ?_ _) | (with_reducible refine Kd.C_drewN ?_ _) | (with_reducible refine Kd.C_drew ?_))); (case side2 => exact HC0.out); rintro e w' ⟨rfl, ⟨nd, rfl⟩⟩; refine ⟨_, rfl, ?_⟩))
   go_meet
   case rel => exact ⟨_, (true), (by first | rfl | (simp; done) | (simp [*]; done)), H', ⟨by first | omega | exact Nat.le_refl _⟩, by repeat (first | exact Drawn0.refl _ | apply Drawn0.step)⟩
 case rest =>
  clear HC5
  try clear c1
  try clear p2
  try clear c3
  try clear c4
  try clear c7
  try clear c8
  try clear c8b0
  try clear c8b1
  try clear c8b2
  try clear c9
  try clear c9b0
  try clear c10
  try clear c10b0
  obtain ⟨kq, x36_4, rfl, HA, HJ4, ⟨mc4, rfl⟩⟩ := hcut
  cases kq with
  | zero => exact absurd HA.out (by simp [bailiwickref04_First.j0])
  | succ kj4 =>
   have H := HA.out
   clear HA
   simp only [bailiwickref04_First.j0] at H
   by_cases c11 : x36_4 = true
   ·subst c11
    have H1 : (some (0, false)) = some (r1, r2) := by rw [if_pos rfl] at H; exact H
    clear H
    have H := H1
    clear H1
    simp only [Option.some.injEq, Prod.mk.injEq] at H
    obtain ⟨rfl, rfl⟩ := H
    go_wp2
    go_ret2
    exact ⟨by first | rfl | (simp; done) | (simp [*]; done), by repeat (first | exact Drawn0.refl _ | apply Drawn0.step)⟩
   ·replace c11 := Bool.eq_false_iff.mpr c11
    subst c11
    have H1 : (bailiwickref04_First.l0 kj4 l0 a1 a2 l3 0) = some (r1, r2) := by rw [if_neg (show ¬ (false = true) by decide)] at H; exact H
    clear H
    have H := H1
    clear H1
    have H' := Aside0.mk H
    clear H
    go_wp2
    go_loopg [10] kj4 (fun kq v10 w' => ∃ (x10_2 : Int), v10 = .int .i64 x10_2 ∧ Aside0 (bailiwickref04_First.l0 kq l0 a1 a2 l3 x10_2 = some (r1, r2)) ∧ Aside0 (kq ≤ kj4) ∧ Drawn0 w w')
    case atStart => exact ⟨(0), (by first | rfl | (simp; done) | (simp [*]; done)), H', ⟨Nat.le_refl _⟩, by repeat (first | exact Drawn0.refl _ | apply Drawn0.step)⟩
    case round =>
     clear H'
     try clear c1
     try clear p2
     try clear c3
     try clear c4
     try clear c7
     try clear c8
     try clear c8b0
     try clear c8b1
     try clear c8b2
     try clear c9
     try clear c9b0
     try clear c10
     try clear c10b0
     try clear c11
     try clear p2
     obtain ⟨x10_2, rfl, HA, HK2, ⟨m2, rfl⟩⟩ := hrel
     cases gk with
     | zero => exact absurd HA.out (by simp [bailiwickref04_First.l0])
     | succ k2 =>
      have H := HA.out
      clear HA
      simp only [bailiwickref04_First.l0] at H
      by_cases c12 : x10_2 < (l3.length : Int)
      ·rw [if_pos c12] at H
       have c12b0 : decide (x10_2 < (l3.length : Int)) = true := decide_eq_true c12
       clear c12
       by_cases c13 : 0 ≤ x10_2
       ·rw [if_pos c13] at H
        have c13b0 : decide (0 ≤ x10_2) = true := decide_eq_true c13
        clear c13
        by_cases c14 : (rd l3 x10_2) < 0
        ·rw [if_pos c14] at H
         have c14b0 : decide ((rd l3 x10_2) < 0) = true := decide_eq_true c14
         clear c14
         simp only [Option.some.injEq, Prod.mk.injEq] at H
         obtain ⟨rfl, rfl⟩ := H
         have p277 : 0 ≤ (x10_2 : Int) := of_decide_eq_true (by first | (with_reducible assumption) | assumption)
         have q277 : x10_2 < (l3.length : Int) := of_decide_eq_true (by first | (with_reducible assumption) | assumption)
         obtain ⟨ad277, e277, hx277_0⟩ := Kd.at_int HR3.out x10_2 p277 q277
         cases e277
         replace p277 := eq_true p277
         replace q277 := eq_true q277
         go_wp2
         go_ret2
         exact ⟨by first | rfl | (simp; done) | (simp [*]; done), by repeat (first | exact Drawn0.refl _ | apply Drawn0.step)⟩
        ·rw [if_neg c14] at H
         have c14b0 : decide ((rd l3 x10_2) < 0) = false := decide_eq_false c14
         clear c14
         by_cases c15 : (rd l3 x10_2) > 1048576
         ·rw [if_pos c15] at H
          have c15b0 : decide (1048576 < (rd l3 x10_2)) = true := decide_eq_true c15
          clear c15
          simp only [Option.some.injEq, Prod.mk.injEq] at H
          obtain ⟨rfl, rfl⟩ := H
          have p277 : 0 ≤ (x10_2 : Int) := of_decide_eq_true (by first | (with_reducible assumption) | assumption)
          have q277 : x10_2 < (l3.length : Int) := of_decide_eq_true (by first | (with_reducible assumption) | assumption)
          obtain ⟨ad277, e277, hx277_0⟩ := Kd.at_int HR3.out x10_2 p277 q277
          cases e277
          replace p277 := eq_true p277
          replace q277 := eq_true q277
          have p278 : 0 ≤ (x10_2 : Int) := of_decide_eq_true (by first | (with_reducible assumption) | assumption)
          have q278 : x10_2 < (l3.length : Int) := of_decide_eq_true (by first | (with_reducible assumption) | assumption)
          obtain ⟨ad278, e278, hx278_0⟩ := Kd.at_int HR3.out x10_2 p278 q278
          obtain rfl : ad277 = ad278 := (by injection e278)
          replace p278 := eq_true p278
          replace q278 := eq_true q278
          go_wp2
          go_ret2
          exact ⟨by first | rfl | (simp; done) | (simp [*]; done), by repeat (first | exact Drawn0.refl _ | apply Drawn0.step)⟩
         ·rw [if_neg c15] at H
          have c15b0 : decide (1048576 < (rd l3 x10_2)) = false := decide_eq_false c15
          clear c15
          have H' := Aside0.mk H
          clear H
          have p277 : 0 ≤ (x10_2 : Int) := of_decide_eq_true (by first | (with_reducible assumption) | assumption)
          have q277 : x10_2 < (l3.length : Int) := of_decide_eq_true (by first | (with_reducible assumption) | assumption)
          obtain ⟨ad277, e277, hx277_0⟩ := Kd.at_int HR3.out x10_2 p277 q277
          cases e277
          replace p277 := eq_true p277
          replace q277 := eq_true q277
          have p278 : 0 ≤ (x10_2 : Int) := of_decide_eq_true (by first | (with_reducible assumption) | assumption)
          have q278 : x10_2 < (l3.length : Int) := of_decide_eq_true (by first | (with_reducible assumption) | assumption)
          obtain ⟨ad278, e278, hx278_0⟩ := Kd.at_int HR3.out x10_2 p278 q278
          obtain rfl : ad277 = ad278 := (by injection e278)
          replace p278 := eq_true p278
          replace q278 := eq_true q278
          go_wp2
          go_roundg k2
          case measure => have := HJ4.out; have := HK2.out; omega
          case rel => exact ⟨(wrap64 (x10_2 + 1)), (by first | rfl | (simp; done) | (simp [*]; done)), H', ⟨by have := HJ4.out; have := HK2.out; omega⟩, by repeat (first | exact Drawn0.refl _ | apply Drawn0.step)⟩
       ·rw [if_neg c13] at H
        exact absurd H (by simp)
      ·rw [if_neg c12] at H
       have c12b0 : decide (x10_2 < (l3.length : Int)) = false := decide_eq_false c12
       clear c12
       have H' := Aside0.mk H
       clear H
       go_wp2
       go_loopg [11, 12] k2 (fun kq v11 v12 w' => ∃ (x11_3 : Int) (x12_3 : Int), v11 = .int .i64 x11_3 ∧ v12 = .int .i64 x12_3 ∧ Aside0 (bailiwickref04_First.l1 kq l0 a1 a2 l3 x11_3 x12_3 = some (r1, r2)) ∧ Aside0 (kq ≤ k2) ∧ Drawn0 w w')
       case atStart => exact ⟨((-1)), ((-1)), (by first | rfl | (simp; done) | (simp [*]; done)), (by first | rfl | (simp; done) | (simp [*]; done)), H', ⟨Nat.le_refl _⟩, by repeat (first | exact Drawn0.refl _ | apply Drawn0.step)⟩
       case round =>
        clear H'
        try clear c1
        try clear p2
        try clear q2
        try clear hx2
        try clear c3
        try clear c4
        try clear p6
        try clear c7
        try clear c8
        try clear c8b0
        try clear c8b1
        try clear c8b2
        try clear c9
        try clear c9b0
        try clear c10
        try clear c10b0
        try clear c11
        try clear c12
        try clear c12b0
        try clear c13
        try clear c13b0
        try clear c14
        try clear c14b0
        try clear c15
        try clear c15b0
        try clear hx277_0
        try clear hx278_0
        try clear p2
        try clear p277
        try clear p278
        try clear q277
        try clear q278
        obtain ⟨x11_3, x12_3, rfl, rfl, HA, HK3, ⟨m3, rfl⟩⟩ := hrel
        cases gk with
        | zero => exact absurd HA.out (by simp [bailiwickref04_First.l1])
        | succ k3 =>
         have H := HA.out
         clear HA
         simp only [bailiwickref04_First.l1] at H
         by_cases c16 : x12_3 < (l0.length : Int)
         ·rw [if_pos c16] at H
          have c16b0 : decide (x12_3 < (l0.length : Int)) = true := decide_eq_true c16
          clear c16
          have H' := Aside0.mk H
          clear H
          go_wp2
          go_loopg [11, 13] k3 (fun kq v11 v13 w' => ∃ (x11_4 : Int) (x13_4 : Int), v11 = .int .i64 x11_4 ∧ v13 = .int .i64 x13_4 ∧ Aside0 (bailiwickref04_First.l2 kq l0 a1 a2 l3 x11_4 x12_3 x13_4 = some (r1, r2)) ∧ Aside0 (kq ≤ k3) ∧ Drawn0 w w')
          case atStart => exact ⟨(x11_3), (0), (by first | rfl | (simp; done) | (simp [*]; done)), (by first | rfl | (simp; done) | (simp [*]; done)), H', ⟨Nat.le_refl _⟩, by repeat (first | exact Drawn0.refl _ | apply Drawn0.step)⟩
          case round =>
           clear H'
           try clear c1
           try clear p2
           try clear q2
           try clear hx2
           try clear c3
           try clear c4
           try clear p6
           try clear c7
           try clear c8
           try clear c8b0
           try clear c8b1
           try clear c8b2
           try clear c9
           try clear c9b0
           try clear c10
           try clear c10b0
           try clear c11
           try clear c12
           try clear c12b0
           try clear c13
           try clear c13b0
           try clear c14
           try clear c14b0
           try clear c15
           try clear c15b0
           try clear c16
           try clear c16b0
           try clear hx277_0
           try clear hx278_0
           try clear p2
           try clear p277
           try clear p278
           try clear p6
           try clear q2
           try clear q277
           try clear q278
           obtain ⟨x11_4, x13_4, rfl, rfl, HA, HK4, ⟨m4, rfl⟩⟩ := hrel
           cases gk with
           | zero => exact absurd HA.out (by simp [bailiwickref04_First.l2])
           | succ k4 =>
            have H := HA.out
            clear HA
            simp only [bailiwickref04_First.l2] at H
            have HC17 := Aside0.mk H
            clear H
            go_upto_region 13 with (fail)
            go_cut [79] (fun v79 wc => ∃ (kq : Nat) (x79_16 : Bool), v79 = .bool x79_16 ∧ Aside0 (bailiwickref04_First.j4 kq l0 a1 a2 l3 x11_4 x12_3 x13_4 x79_16 = some (r1, r2)) ∧ Aside0 (kq ≤ k4) ∧ Drawn0 w wc)
            case first =>
             have H := HC17.out
             clear HC17
             by_cases c18 : x12_3 < 0
             ·rw [if_pos c18] at H
              have c18b0 : decide (x12_3 < 0) = true := decide_eq_true c18
              clear c18
              (first | rw [c18b0] | (simp only [i64_w, i32_w]; rw [c18b0]) | skip)
              by_cases c19 : x13_4 < 1
              ·rw [if_pos c19] at H
               have c19b0 : decide (x13_4 < 1) = true := decide_eq_true c19
               clear c19
               have H' := Aside0.mk H
               clear H
               go_wp2
               go_meet
               case rel => exact ⟨_, (true), (by first | rfl | (simp; done) | (simp [*]; done)), H', ⟨by have := HJ4.out; have := HK2.out; have := HK3.out; have := HK4.out; first | omega | exact Nat.le_refl _⟩, by repeat (first | exact Drawn0.refl _ | apply Drawn0.step)⟩
              ·rw [if_neg c19] at H
               have c19b0 : decide (x13_4 < 1) = false := decide_eq_false c19
               clear c19
               by_cases c20 : x12_3 ≥ 0
               ·rw [if_pos c20] at H
                have c20b0 : decide (0 ≤ x12_3) = true := decide_eq_true c20
                clear c20
                by_cases c21 : 0 ≤ x12_3
                ·rw [if_pos c21] at H
                 have c21b0 : decide (0 ≤ x12_3) = true := decide_eq_true c21
                 clear c21
                 by_cases c22 : x12_3 < (l0.length : Int)
                 ·rw [if_pos c22] at H
                  have c22b0 : decide (x12_3 < (l0.length : Int)) = true := decide_eq_true c22
                  clear c22
                  have H' := Aside0.mk H
                  clear H
                  have p279 : 0 ≤ (x12_3 : Int) := of_decide_eq_true (by first | (with_reducible assumption) | assumption)
                  have q279 : x12_3 < (l0.length : Int) := of_decide_eq_true (by first | (with_reducible assumption) | assumption)
                  obtain ⟨ad279, A279_0, c279_0, e279, hx279_0, hl279_0, hi279_0⟩ := at_L2 HR0.out x12_3 p279 q279
                  cases e279
                  have HR279_0 := Aside0.mk hi279_0
                  have HC279_0 := Aside0.mk hl279_0
                  clear hi279_0 hl279_0
                  replace p279 := eq_true p279
                  replace q279 := eq_true q279
                  go_wp2
                  go_meet
                  case rel => exact ⟨_, (decide (x13_4 < ((rd_L2 l0 x12_3).length : Int))), (by first | rfl | (simp; done) | (simp [*]; done)), H', ⟨by have := HJ4.out; have := HK2.out; have := HK3.out; have := HK4.out; first | omega | exact Nat.le_refl _⟩, by repeat (first | exact Drawn0.refl _ | apply Drawn0.step)⟩
                 ·rw [if_neg c22] at H
                  exact absurd H (by simp)
                ·rw [if_neg c21] at H
                 exact absurd H (by simp)
               ·rw [if_neg c20] at H
                have c20b0 : decide (0 ≤ x12_3) = false := decide_eq_false c20
                clear c20
                have H' := Aside0.mk H
                clear H
                go_wp2
                go_meet
                case rel => exact ⟨_, (false), (by first | rfl | (simp; done) | (simp [*]; done)), H', ⟨by have := HJ4.out; have := HK2.out; have := HK3.out; have := HK4.out; first | omega | exact Nat.le_refl _⟩, by repeat (first | exact Drawn0.refl _ | apply Drawn0.step)⟩
             ·rw [if_neg c18] at H
              have c18b0 : decide (x12_3 < 0) = false := decide_eq_false c18
              clear c18
              (first | rw [c18b0] | (simp only [i64_w, i32_w]; rw [c18b0]) | skip)
              by_cases c23 : x12_3 ≥ 0
              ·rw [if_pos c23] at H
               have c23b0 : decide (0 ≤ x12_3) = true := decide_eq_true c23
               clear c23
               by_cases c24 : 0 ≤ x12_3
               ·rw [if_pos c24] at H
                have c24b0 : decide (0 ≤ x12_3) = true := decide_eq_true c24
                clear c24
                by_cases c25 : x12_3 < (l0.length : Int)
                ·rw [if_pos c25] at H
                 have c25b0 : decide (x12_3 < (l0.length : Int)) = true := decide_eq_true c25
                 clear c25
                 have H' := Aside0.mk H
                 clear H
                 have p280 : 0 ≤ (x12_3 : Int) := of_decide_eq_true (by first | (with_reducible assumption) | assumption)
                 have q280 : x12_3 < (l0.length : Int) := of_decide_eq_true (by first | (with_reducible assumption) | assumption)
                 obtain ⟨ad280, A280_0, c280_0, e280, hx280_0, hl280_0, hi280_0⟩ := at_L2 HR0.out x12_3 p280 q280
                 cases e280
                 have HR280_0 := Aside0.mk hi280_0
                 have HC280_0 := Aside0.mk hl280_0
                 clear hi280_0 hl280_0
                 replace p280 := eq_true p280
                 replace q280 := eq_true q280
                 go_wp2
                 go_meet
                 case rel => exact ⟨_, (decide (x13_4 < ((rd_L2 l0 x12_3).length : Int))), (by first | rfl | (simp; done) | (simp [*]; done)), H', ⟨by have := HJ4.out; have := HK2.out; have := HK3.out; have := HK4.out; first | omega | exact Nat.le_refl _⟩, by repeat (first | exact Drawn0.refl _ | apply Drawn0.step)⟩
                ·rw [if_neg c25] at H
                 exact absurd H (by simp)
               ·rw [if_neg c24] at H
                exact absurd H (by simp)
              ·rw [if_neg c23] at H
               have c23b0 : decide (0 ≤ x12_3) = false := decide_eq_false c23
               clear c23
               have H' := Aside0.mk H
               clear H
               go_wp2
               go_meet
               case rel => exact ⟨_, (false), (by first | rfl | (simp; done) | (simp [*]; done)), H', ⟨by have := HJ4.out; have := HK2.out; have := HK3.out; have := HK4.out; first | omega | exact Nat.le_refl _⟩, by repeat (first | exact Drawn0.refl _ | apply Drawn0.step)⟩
            case rest =>
             clear HC17
             try clear c1
             try clear c2
             try clear p2
             try clear q2
             try clear hx2
             try clear c3
             try clear c4
             try clear p6
             try clear c7
             try clear c8
             try clear c8b0
             try clear c8b1
             try clear c8b2
             try clear c9
             try clear c9b0
             try clear c10
             try clear c10b0
             try clear c11
             try clear c12
             try clear c12b0
             try clear c13
             try clear c13b0
             try clear c14
             try clear c14b0
             try clear c15
             try clear c15b0
             try clear c16
             try clear c16b0
             try clear c18
             try clear c18b0
             try clear c19
             try clear c19b0
             try clear c20
             try clear c20b0
             try clear c21
             try clear c21b0
             try clear c22
             try clear c22b0
             try clear c23
             try clear c23b0
             try clear c24
             try clear c24b0
             try clear c25
             try clear c25b0
             try clear hx277_0
             try clear hx278_0
             try clear hx279_0
             try clear hx280_0
             try clear p2
             try clear p277
             try clear p278
             try clear p279
             try clear p280
             try clear p6
             try clear q2
             try clear q277
             try clear q278
             try clear q279
             try clear q280
             obtain ⟨kq, x79_16, rfl, HA, HJ16, ⟨mc16, rfl⟩⟩ := hcut
             cases kq with
             | zero => exact absurd HA.out (by simp [bailiwickref04_First.j4])
             | succ kj16 =>
              have H := HA.out
              clear HA
              simp only [bailiwickref04_First.j4] at H
              by_cases c26 : x79_16 = true
              ·subst c26
               have H1 : (if x12_3 ≥ 0 then (if 0 ≤ x12_3 then (if x12_3 < (l0.length : Int) then (if 0 ≤ x13_4 then (if x13_4 < ((rd_L2 l0 x12_3).length : Int) then (if ((rd_T45 (rd_L2 l0 x12_3) x13_4).f0) ≥ a1 then (if ((rd_T45 (rd_L2 l0 x12_3) x13_4).f0) < 4611686018427387904 then (if x11_4 < 0 then ((bailiwickref04_fits.f kj16 l0 ((rd_T45 (rd_L2 l0 x12_3) x13_4).f0) a2 l3).bind fun t283 => (if t283 = true then (bailiwickref04_First.l2 kj16 l0 a1 a2 l3 ((rd_T45 (rd_L2 l0 x12_3) x13_4).f0) x12_3 (wrap64 (x13_4 + 1))) else (bailiwickref04_First.l2 kj16 l0 a1 a2 l3 x11_4 x12_3 (wrap64 (x13_4 + 1))))) else (if ((rd_T45 (rd_L2 l0 x12_3) x13_4).f0) < x11_4 then ((bailiwickref04_fits.f kj16 l0 ((rd_T45 (rd_L2 l0 x12_3) x13_4).f0) a2 l3).bind fun t284 => (if t284 = true then (bailiwickref04_First.l2 kj16 l0 a1 a2 l3 ((rd_T45 (rd_L2 l0 x12_3) x13_4).f0) x12_3 (wrap64 (x13_4 + 1))) else (bailiwickref04_First.l2 kj16 l0 a1 a2 l3 x11_4 x12_3 (wrap64 (x13_4 + 1))))) else (bailiwickref04_First.l2 kj16 l0 a1 a2 l3 x11_4 x12_3 (wrap64 (x13_4 + 1))))) else (bailiwickref04_First.l2 kj16 l0 a1 a2 l3 x11_4 x12_3 (wrap64 (x13_4 + 1)))) else (bailiwickref04_First.l2 kj16 l0 a1 a2 l3 x11_4 x12_3 (wrap64 (x13_4 + 1)))) else (none)) else (none)) else (none)) else (none)) else (if a1 ≥ a1 then (if a1 < 4611686018427387904 then (if x11_4 < 0 then ((bailiwickref04_fits.f kj16 l0 a1 a2 l3).bind fun t285 => (if t285 = true then (bailiwickref04_First.l2 kj16 l0 a1 a2 l3 a1 x12_3 (wrap64 (x13_4 + 1))) else (bailiwickref04_First.l2 kj16 l0 a1 a2 l3 x11_4 x12_3 (wrap64 (x13_4 + 1))))) else (if a1 < x11_4 then ((bailiwickref04_fits.f kj16 l0 a1 a2 l3).bind fun t286 => (if t286 = true then (bailiwickref04_First.l2 kj16 l0 a1 a2 l3 a1 x12_3 (wrap64 (x13_4 + 1))) else (bailiwickref04_First.l2 kj16 l0 a1 a2 l3 x11_4 x12_3 (wrap64 (x13_4 + 1))))) else (bailiwickref04_First.l2 kj16 l0 a1 a2 l3 x11_4 x12_3 (wrap64 (x13_4 + 1))))) else (bailiwickref04_First.l2 kj16 l0 a1 a2 l3 x11_4 x12_3 (wrap64 (x13_4 + 1)))) else (bailiwickref04_First.l2 kj16 l0 a1 a2 l3 x11_4 x12_3 (wrap64 (x13_4 + 1))))) = some (r1, r2) := by rw [if_pos rfl] at H; exact H
               clear H
               have H := H1
               clear H1
               by_cases c27 : x12_3 ≥ 0
               ·rw [if_pos c27] at H
                have c27b0 : decide (0 ≤ x12_3) = true := decide_eq_true c27
                clear c27
                by_cases c28 : 0 ≤ x12_3
                ·rw [if_pos c28] at H
                 have c28b0 : decide (0 ≤ x12_3) = true := decide_eq_true c28
                 clear c28
                 by_cases c29 : x12_3 < (l0.length : Int)
                 ·rw [if_pos c29] at H
                  have c29b0 : decide (x12_3 < (l0.length : Int)) = true := decide_eq_true c29
                  clear c29
                  by_cases c30 : 0 ≤ x13_4
                  ·rw [if_pos c30] at H
                   have c30b0 : decide (0 ≤ x13_4) = true := decide_eq_true c30
                   clear c30
                   by_cases c31 : x13_4 < ((rd_L2 l0 x12_3).length : Int)
                   ·rw [if_pos c31] at H
                    have c31b0 : decide (x13_4 < ((rd_L2 l0 x12_3).length : Int)) = true := decide_eq_true c31
                    clear c31
                    by_cases c32 : ((rd_T45 (rd_L2 l0 x12_3) x13_4).f0) ≥ a1
                    ·rw [if_pos c32] at H
                     have c32b0 : decide (a1 ≤ ((rd_T45 (rd_L2 l0 x12_3) x13_4).f0)) = true := decide_eq_true c32
                     clear c32
                     by_cases c33 : ((rd_T45 (rd_L2 l0 x12_3) x13_4).f0) < 4611686018427387904
                     ·rw [if_pos c33] at H
                      have c33b0 : decide (((rd_T45 (rd_L2 l0 x12_3) x13_4).f0) < 4611686018427387904) = true := decide_eq_true c33
                      clear c33
                      by_cases c34 : x11_4 < 0
                      ·rw [if_pos c34] at H
                       have c34b0 : decide (x11_4 < 0) = true := decide_eq_true c34
                       clear c34
                       replace H := Option.bind_eq_some_iff.mp H
                       obtain ⟨t283, A350, H⟩ := H
                       replace H : (if t283 = true then (bailiwickref04_First.l2 kj16 l0 a1 a2 l3 ((rd_T45 (rd_L2 l0 x12_3) x13_4).f0) x12_3 (wrap64 (x13_4 + 1))) else (bailiwickref04_First.l2 kj16 l0 a1 a2 l3 x11_4 x12_3 (wrap64 (x13_4 + 1)))) = some (r1, r2) := H
                       have A35 := Aside0.mk A350
                       clear A350
                       by_cases c36 : t283 = true
                       ·subst c36
                        have H1 : (bailiwickref04_First.l2 kj16 l0 a1 a2 l3 ((rd_T45 (rd_L2 l0 x12_3) x13_4).f0) x12_3 (wrap64 (x13_4 + 1))) = some (r1, r2) := by rw [if_pos rfl] at H; exact H
                        clear H
                        have H := H1
                        clear H1
                        have H' := Aside0.mk H
                        clear H
                        have p281 : 0 ≤ (x12_3 : Int) := of_decide_eq_true (by first | (with_reducible assumption) | assumption)
                        have q281 : x12_3 < (l0.length : Int) := of_decide_eq_true (by first | (with_reducible assumption) | assumption)
                        obtain ⟨ad281, A281_0, c281_0, e281, hx281_0, hl281_0, hi281_0⟩ := at_L2 HR0.out x12_3 p281 q281
                        cases e281
                        have HR281_0 := Aside0.mk hi281_0
                        have HC281_0 := Aside0.mk hl281_0
                        clear hi281_0 hl281_0
                        replace p281 := eq_true p281
                        replace q281 := eq_true q281
                        have p282 : 0 ≤ (x13_4 : Int) := of_decide_eq_true (by first | (with_reducible assumption) | assumption)
                        have q282 : x13_4 < ((rd_L2 l0 x12_3).length : Int) := of_decide_eq_true (by first | (with_reducible assumption) | assumption)
                        obtain ⟨ad282, e282, hx282_0, hx282_1⟩ := at_T45 HR281_0.out x13_4 p282 q282
                        cases e282
                        replace p282 := eq_true p282
                        replace q282 := eq_true q282
                        go_wp2_with (first | (go_at_call 60; (with_reducible refine (bailiwickref04_fits.calls kj16 _ _ l0 ((rd_T45 (rd_L2 l0 x12_3) x13_4).f0) a2 _ _ l3 true _ ?side1 ?side2 ?side3 ?side4 A35.out).mono ?_); (case side1 => repeat (first | exact HR0.out | (with_reducible refine Kd.C_alloc ?_ _) | (with_reducible refine Kd.C_drewN ?_ _) | (with_reducible refine Kd.C_drew ?_))); (case side2 => exact HC0.out); (case side3 => repeat (first | exact HR3.out | (with_reducible refine Kd.C_alloc ?_ _) | (with_reducible refine Kd.C_drewN ?_ _) | (with_reducible refine Kd.C_drew ?_))); (case side4 => exact HC3.out); rintro e w' ⟨rfl, ⟨nd, rfl⟩⟩))
                        go_roundg kj16
                        case measure => have := HJ4.out; have := HK2.out; have := HK3.out; have := HK4.out; have := HJ16.out; omega
                        case rel => exact ⟨((rd_T45 (rd_L2 l0 x12_3) x13_4).f0), (wrap64 (x13_4 + 1)), (by first | rfl | (simp; done) | (simp [*]; done)), (by first | rfl | (simp; done) | (simp [*]; done)), H', ⟨by have := HJ4.out; have := HK2.out; have := HK3.out; have := HK4.out; have := HJ16.out; omega⟩, by repeat (first | exact Drawn0.refl _ | apply Drawn0.step)⟩
                       ·replace c36 := Bool.eq_false_iff.mpr c36
                        subst c36
                        have H1 : (bailiwickref04_First.l2 kj16 l0 a1 a2 l3 x11_4 x12_3 (wrap64 (x13_4 + 1))) = some (r1, r2) := by rw [if_neg (show ¬ (false = true) by decide)] at H; exact H
                        clear H
                        have H := H1
                        clear H1
                        have H' := Aside0.mk H
                        clear H
                        have p281 : 0 ≤ (x12_3 : Int) := of_decide_eq_true (by first | (with_reducible assumption) | assumption)
                        have q281 : x12_3 < (l0.length : Int) := of_decide_eq_true (by first | (with_reducible assumption) | assumption)
                        obtain ⟨ad281, A281_0, c281_0, e281, hx281_0, hl281_0, hi281_0⟩ := at_L2 HR0.out x12_3 p281 q281
                        cases e281
                        have HR281_0 := Aside0.mk hi281_0
                        have HC281_0 := Aside0.mk hl281_0
                        clear hi281_0 hl281_0
                        replace p281 := eq_true p281
                        replace q281 := eq_true q281
                        have p282 : 0 ≤ (x13_4 : Int) := of_decide_eq_true (by first | (with_reducible assumption) | assumption)
                        have q282 : x13_4 < ((rd_L2 l0 x12_3).length : Int) := of_decide_eq_true (by first | (with_reducible assumption) | assumption)
                        obtain ⟨ad282, e282, hx282_0, hx282_1⟩ := at_T45 HR281_0.out x13_4 p282 q282
                        cases e282
                        replace p282 := eq_true p282
                        replace q282 := eq_true q282
                        go_wp2_with (first | (go_at_call 60; (with_reducible refine (bailiwickref04_fits.calls kj16 _ _ l0 ((rd_T45 (rd_L2 l0 x12_3) x13_4).f0) a2 _ _ l3 false _ ?side1 ?side2 ?side3 ?side4 A35.out).mono ?_); (case side1 => repeat (first | exact HR0.out | (with_reducible refine Kd.C_alloc ?_ _) | (with_reducible refine Kd.C_drewN ?_ _) | (with_reducible refine Kd.C_drew ?_))); (case side2 => exact HC0.out); (case side3 => repeat (first | exact HR3.out | (with_reducible refine Kd.C_alloc ?_ _) | (with_reducible refine Kd.C_drewN ?_ _) | (with_reducible refine Kd.C_drew ?_))); (case side4 => exact HC3.out); rintro e w' ⟨rfl, ⟨nd, rfl⟩⟩))
                        go_roundg kj16
                        case measure => have := HJ4.out; have := HK2.out; have := HK3.out; have := HK4.out; have := HJ16.out; omega
                        case rel => exact ⟨(x11_4), (wrap64 (x13_4 + 1)), (by first | rfl | (simp; done) | (simp [*]; done)), (by first | rfl | (simp; done) | (simp [*]; done)), H', ⟨by have := HJ4.out; have := HK2.out; have := HK3.out; have := HK4.out; have := HJ16.out; omega⟩, by repeat (first | exact Drawn0.refl _ | apply Drawn0.step)⟩
                      ·rw [if_neg c34] at H
                       have c34b0 : decide (x11_4 < 0) = false := decide_eq_false c34
                       clear c34
                       by_cases c37 : ((rd_T45 (rd_L2 l0 x12_3) x13_4).f0) < x11_4
                       ·rw [if_pos c37] at H
                        have c37b0 : decide (((rd_T45 (rd_L2 l0 x12_3) x13_4).f0) < x11_4) = true := decide_eq_true c37
                        clear c37
                        replace H := Option.bind_eq_some_iff.mp H
                        obtain ⟨t284, A380, H⟩ := H
                        replace H : (if t284 = true then (bailiwickref04_First.l2 kj16 l0 a1 a2 l3 ((rd_T45 (rd_L2 l0 x12_3) x13_4).f0) x12_3 (wrap64 (x13_4 + 1))) else (bailiwickref04_First.l2 kj16 l0 a1 a2 l3 x11_4 x12_3 (wrap64 (x13_4 + 1)))) = some (r1, r2) := H
                        have A38 := Aside0.mk A380
                        clear A380
                        by_cases c39 : t284 = true
                        ·subst c39
                         have H1 : (bailiwickref04_First.l2 kj16 l0 a1 a2 l3 ((rd_T45 (rd_L2 l0 x12_3) x13_4).f0) x12_3 (wrap64 (x13_4 + 1))) = some (r1, r2) := by rw [if_pos rfl] at H; exact H
                         clear H
                         have H := H1
                         clear H1
                         have H' := Aside0.mk H
                         clear H
                         have p281 : 0 ≤ (x12_3 : Int) := of_decide_eq_true (by first | (with_reducible assumption) | assumption)
                         have q281 : x12_3 < (l0.length : Int) := of_decide_eq_true (by first | (with_reducible assumption) | assumption)
                         obtain ⟨ad281, A281_0, c281_0, e281, hx281_0, hl281_0, hi281_0⟩ := at_L2 HR0.out x12_3 p281 q281
                         cases e281
                         have HR281_0 := Aside0.mk hi281_0
                         have HC281_0 := Aside0.mk hl281_0
                         clear hi281_0 hl281_0
                         replace p281 := eq_true p281
                         replace q281 := eq_true q281
                         have p282 : 0 ≤ (x13_4 : Int) := of_decide_eq_true (by first | (with_reducible assumption) | assumption)
                         have q282 : x13_4 < ((rd_L2 l0 x12_3).length : Int) := of_decide_eq_true (by first | (with_reducible assumption) | assumption)
                         obtain ⟨ad282, e282, hx282_0, hx282_1⟩ := at_T45 HR281_0.out x13_4 p282 q282
                         cases e282
                         replace p282 := eq_true p282
                         replace q282 := eq_true q282
                         go_wp2_with (first | (go_at_call 60; (with_reducible refine (bailiwickref04_fits.calls kj16 _ _ l0 ((rd_T45 (rd_L2 l0 x12_3) x13_4).f0) a2 _ _ l3 true _ ?side1 ?side2 ?side3 ?side4 A38.out).mono ?_); (case side1 => repeat (first | exact HR0.out | (with_reducible refine Kd.C_alloc ?_ _) | (with_reducible refine Kd.C_drewN ?_ _) | (with_reducible refine Kd.C_drew ?_))); (case side2 => exact HC0.out); (case side3 => repeat (first | exact HR3.out | (with_reducible refine Kd.C_alloc ?_ _) | (with_reducible refine Kd.C_drewN ?_ _) | (with_reducible refine Kd.C_drew ?_))); (case side4 => exact HC3.out); rintro e w' ⟨rfl, ⟨nd, rfl⟩⟩))
                         go_roundg kj16
                         case measure => have := HJ4.out; have := HK2.out; have := HK3.out; have := HK4.out; have := HJ16.out; omega
                         case rel => exact ⟨((rd_T45 (rd_L2 l0 x12_3) x13_4).f0), (wrap64 (x13_4 + 1)), (by first | rfl | (simp; done) | (simp [*]; done)), (by first | rfl | (simp; done) | (simp [*]; done)), H', ⟨by have := HJ4.out; have := HK2.out; have := HK3.out; have := HK4.out; have := HJ16.out; omega⟩, by repeat (first | exact Drawn0.refl _ | apply Drawn0.step)⟩
                        ·replace c39 := Bool.eq_false_iff.mpr c39
                         subst c39
                         have H1 : (bailiwickref04_First.l2 kj16 l0 a1 a2 l3 x11_4 x12_3 (wrap64 (x13_4 + 1))) = some (r1, r2) := by rw [if_neg (show ¬ (false = true) by decide)] at H; exact H
                         clear H
                         have H := H1
                         clear H1
                         have H' := Aside0.mk H
                         clear H
                         have p281 : 0 ≤ (x12_3 : Int) := of_decide_eq_true (by first | (with_reducible assumption) | assumption)
                         have q281 : x12_3 < (l0.length : Int) := of_decide_eq_true (by first | (with_reducible assumption) | assumption)
                         obtain ⟨ad281, A281_0, c281_0, e281, hx281_0, hl281_0, hi281_0⟩ := at_L2 HR0.out x12_3 p281 q281
                         cases e281
                         have HR281_0 := Aside0.mk hi281_0
                         have HC281_0 := Aside0.mk hl281_0
                         clear hi281_0 hl281_0
                         replace p281 := eq_true p281
                         replace q281 := eq_true q281
                         have p282 : 0 ≤ (x13_4 : Int) := of_decide_eq_true (by first | (with_reducible assumption) | assumption)
                         have q282 : x13_4 < ((rd_L2 l0 x12_3).length : Int) := of_decide_eq_true (by first | (with_reducible assumption) | assumption)
                         obtain ⟨ad282, e282, hx282_0, hx282_1⟩ := at_T45 HR281_0.out x13_4 p282 q282
                         cases e282
                         replace p282 := eq_true p282
                         replace q282 := eq_true q282
                         go_wp2_with (first | (go_at_call 60; (with_reducible refine (bailiwickref04_fits.calls kj16 _ _ l0 ((rd_T45 (rd_L2 l0 x12_3) x13_4).f0) a2 _ _ l3 false _ ?side1 ?side2 ?side3 ?side4 A38.out).mono ?_); (case side1 => repeat (first | exact HR0.out | (with_reducible refine Kd.C_alloc ?_ _) | (with_reducible refine Kd.C_drewN ?_ _) | (with_reducible refine Kd.C_drew ?_))); (case side2 => exact HC0.out); (case side3 => repeat (first | exact HR3.out | (with_reducible refine Kd.C_alloc ?_ _) | (with_reducible refine Kd.C_drewN ?_ _) | (with_reducible refine Kd.C_drew ?_))); (case side4 => exact HC3.out); rintro e w' ⟨rfl, ⟨nd, rfl⟩⟩))
                         go_roundg kj16
                         case measure => have := HJ4.out; have := HK2.out; have := HK3.out; have := HK4.out; have := HJ16.out; omega
                         case rel => exact ⟨(x11_4), (wrap64 (x13_4 + 1)), (by first | rfl | (simp; done) | (simp [*]; done)), (by first | rfl | (simp; done) | (simp [*]; done)), H', ⟨by have := HJ4.out; have := HK2.out; have := HK3.out; have := HK4.out; have := HJ16.out; omega⟩, by repeat (first | exact Drawn0.refl _ | apply Drawn0.step)⟩
                       ·rw [if_neg c37] at H
                        have c37b0 : decide (((rd_T45 (rd_L2 l0 x12_3) x13_4).f0) < x11_4) = false := decide_eq_false c37
                        clear c37
                        have H' := Aside0.mk H
                        clear H
                        have p281 : 0 ≤ (x12_3 : Int) := of_decide_eq_true (by first | (with_reducible assumption) | assumption)
                        have q281 : x12_3 < (l0.length : Int) := of_decide_eq_true (by first | (with_reducible assumption) | assumption)
                        obtain ⟨ad281, A281_0, c281_0, e281, hx281_0, hl281_0, hi281_0⟩ := at_L2 HR0.out x12_3 p281 q281
                        cases e281
                        have HR281_0 := Aside0.mk hi281_0
                        have HC281_0 := Aside0.mk hl281_0
                        clear hi281_0 hl281_0
                        replace p281 := eq_true p281
                        replace q281 := eq_true q281
                        have p282 : 0 ≤ (x13_4 : Int) := of_decide_eq_true (by first | (with_reducible assumption) | assumption)
                        have q282 : x13_4 < ((rd_L2 l0 x12_3).length : Int) := of_decide_eq_true (by first | (with_reducible assumption) | assumption)
                        obtain ⟨ad282, e282, hx282_0, hx282_1⟩ := at_T45 HR281_0.out x13_4 p282 q282
                        cases e282
                        replace p282 := eq_true p282
                        replace q282 := eq_true q282
                        go_wp2
                        go_roundg kj16
                        case measure => have := HJ4.out; have := HK2.out; have := HK3.out; have := HK4.out; have := HJ16.out; omega
                        case rel => exact ⟨(x11_4), (wrap64 (x13_4 + 1)), (by first | rfl | (simp; done) | (simp [*]; done)), (by first | rfl | (simp; done) | (simp [*]; done)), H', ⟨by have := HJ4.out; have := HK2.out; have := HK3.out; have := HK4.out; have := HJ16.out; omega⟩, by repeat (first | exact Drawn0.refl _ | apply Drawn0.step)⟩
                     ·rw [if_neg c33] at H
                      have c33b0 : decide (((rd_T45 (rd_L2 l0 x12_3) x13_4).f0) < 4611686018427387904) = false := decide_eq_false c33
                      clear c33
                      have H' := Aside0.mk H
                      clear H
                      have p281 : 0 ≤ (x12_3 : Int) := of_decide_eq_true (by first | (with_reducible assumption) | assumption)
                      have q281 : x12_3 < (l0.length : Int) := of_decide_eq_true (by first | (with_reducible assumption) | assumption)
                      obtain ⟨ad281, A281_0, c281_0, e281, hx281_0, hl281_0, hi281_0⟩ := at_L2 HR0.out x12_3 p281 q281
                      cases e281
                      have HR281_0 := Aside0.mk hi281_0
                      have HC281_0 := Aside0.mk hl281_0
                      clear hi281_0 hl281_0
                      replace p281 := eq_true p281
                      replace q281 := eq_true q281
                      have p282 : 0 ≤ (x13_4 : Int) := of_decide_eq_true (by first | (with_reducible assumption) | assumption)
                      have q282 : x13_4 < ((rd_L2 l0 x12_3).length : Int) := of_decide_eq_true (by first | (with_reducible assumption) | assumption)
                      obtain ⟨ad282, e282, hx282_0, hx282_1⟩ := at_T45 HR281_0.out x13_4 p282 q282
                      cases e282
                      replace p282 := eq_true p282
                      replace q282 := eq_true q282
                      go_wp2
                      go_roundg kj16
                      case measure => have := HJ4.out; have := HK2.out; have := HK3.out; have := HK4.out; have := HJ16.out; omega
                      case rel => exact ⟨(x11_4), (wrap64 (x13_4 + 1)), (by first | rfl | (simp; done) | (simp [*]; done)), (by first | rfl | (simp; done) | (simp [*]; done)), H', ⟨by have := HJ4.out; have := HK2.out; have := HK3.out; have := HK4.out; have := HJ16.out; omega⟩, by repeat (first | exact Drawn0.refl _ | apply Drawn0.step)⟩
                    ·rw [if_neg c32] at H
                     have c32b0 : decide (a1 ≤ ((rd_T45 (rd_L2 l0 x12_3) x13_4).f0)) = false := decide_eq_false c32
                     clear c32
                     have H' := Aside0.mk H
                     clear H
                     have p281 : 0 ≤ (x12_3 : Int) := of_decide_eq_true (by first | (with_reducible assumption) | assumption)
                     have q281 : x12_3 < (l0.length : Int) := of_decide_eq_true (by first | (with_reducible assumption) | assumption)
                     obtain ⟨ad281, A281_0, c281_0, e281, hx281_0, hl281_0, hi281_0⟩ := at_L2 HR0.out x12_3 p281 q281
                     cases e281
                     have HR281_0 := Aside0.mk hi281_0
                     have HC281_0 := Aside0.mk hl281_0
                     clear hi281_0 hl281_0
                     replace p281 := eq_true p281
                     replace q281 := eq_true q281
                     have p282 : 0 ≤ (x13_4 : Int) := of_decide_eq_true (by first | (with_reducible assumption) | assumption)
                     have q282 : x13_4 < ((rd_L2 l0 x12_3).length : Int) := of_decide_eq_true (by first | (with_reducible assumption) | assumption)
                     obtain ⟨ad282, e282, hx282_0, hx282_1⟩ := at_T45 HR281_0.out x13_4 p282 q282
                     cases e282
                     replace p282 := eq_true p282
                     replace q282 := eq_true q282
                     go_wp2
                     go_roundg kj16
                     case measure => have := HJ4.out; have := HK2.out; have := HK3.out; have := HK4.out; have := HJ16.out; omega
                     case rel => exact ⟨(x11_4), (wrap64 (x13_4 + 1)), (by first | rfl | (simp; done) | (simp [*]; done)), (by first | rfl | (simp; done) | (simp [*]; done)), H', ⟨by have := HJ4.out; have := HK2.out; have := HK3.out; have := HK4.out; have := HJ16.out; omega⟩, by repeat (first | exact Drawn0.refl _ | apply Drawn0.step)⟩
                   ·rw [if_neg c31] at H
                    exact absurd H (by simp)
                  ·rw [if_neg c30] at H
                   exact absurd H (by simp)
                 ·rw [if_neg c29] at H
                  exact absurd H (by simp)
                ·rw [if_neg c28] at H
                 exact absurd H (by simp)
               ·rw [if_neg c27] at H
                have c27b0 : decide (0 ≤ x12_3) = false := decide_eq_false c27
                clear c27
                by_cases c40 : a1 ≥ a1
                ·rw [if_pos c40] at H
                 have c40b0 : decide (a1 ≤ a1) = true := decide_eq_true c40
                 clear c40
                 by_cases c41 : a1 < 4611686018427387904
                 ·rw [if_pos c41] at H
                  have c41b0 : decide (a1 < 4611686018427387904) = true := decide_eq_true c41
                  clear c41
                  by_cases c42 : x11_4 < 0
                  ·rw [if_pos c42] at H
                   have c42b0 : decide (x11_4 < 0) = true := decide_eq_true c42
                   clear c42
                   replace H := Option.bind_eq_some_iff.mp H
                   obtain ⟨t285, A430, H⟩ := H
                   replace H : (if t285 = true then (bailiwickref04_First.l2 kj16 l0 a1 a2 l3 a1 x12_3 (wrap64 (x13_4 + 1))) else (bailiwickref04_First.l2 kj16 l0 a1 a2 l3 x11_4 x12_3 (wrap64 (x13_4 + 1)))) = some (r1, r2) := H
                   have A43 := Aside0.mk A430
                   clear A430
                   by_cases c44 : t285 = true
                   ·subst c44
                    have H1 : (bailiwickref04_First.l2 kj16 l0 a1 a2 l3 a1 x12_3 (wrap64 (x13_4 + 1))) = some (r1, r2) := by rw [if_pos rfl] at H; exact H
                    clear H
                    have H := H1
                    clear H1
                    have H' := Aside0.mk H
                    clear H
                    go_wp2_with (first | (go_at_call 60; (with_reducible refine (bailiwickref04_fits.calls kj16 _ _ l0 a1 a2 _ _ l3 true _ ?side1 ?side2 ?side3 ?side4 A43.out).mono ?_); (case side1 => repeat (first | exact HR0.out | (with_reducible refine Kd.C_alloc ?_ _) | (with_reducible refine Kd.C_drewN ?_ _) | (with_reducible refine Kd.C_drew ?_))); (case side2 => exact HC0.out); (case side3 => repeat (first | exact HR3.out | (with_reducible refine Kd.C_alloc ?_ _) | (with_reducible refine Kd.C_drewN ?_ _) | (with_reducible refine Kd.C_drew ?_))); (case side4 => exact HC3.out); rintro e w' ⟨rfl, ⟨nd, rfl⟩⟩))
                    go_roundg kj16
                    case measure => have := HJ4.out; have := HK2.out; have := HK3.out; have := HK4.out; have := HJ16.out; omega
                    case rel => exact ⟨(a1), (wrap64 (x13_4 + 1)), (by first | rfl | (simp; done) | (simp [*]; done)), (by first | rfl | (simp; done) | (simp [*]; done)), H', ⟨by have := HJ4.out; have := HK2.out; have := HK3.out; have := HK4.out; have := HJ16.out; omega⟩, by repeat (first | exact Drawn0.refl _ | apply Drawn0.step)⟩
                   ·replace c44 := Bool.eq_false_iff.mpr c44
                    subst c44
                    have H1 : (bailiwickref04_First.l2 kj16 l0 a1 a2 l3 x11_4 x12_3 (wrap64 (x13_4 + 1))) = some (r1, r2) := by rw [if_neg (show ¬ (false = true) by decide)] at H; exact H
                    clear H
                    have H := H1
                    clear H1
                    have H' := Aside0.mk H
                    clear H
                    go_wp2_with (first | (go_at_call 60; (with_reducible refine (bailiwickref04_fits.calls kj16 _ _ l0 a1 a2 _ _ l3 false _ ?side1 ?side2 ?side3 ?side4 A43.out).mono ?_); (case side1 => repeat (first | exact HR0.out | (with_reducible refine Kd.C_alloc ?_ _) | (with_reducible refine Kd.C_drewN ?_ _) | (with_reducible refine Kd.C_drew ?_))); (case side2 => exact HC0.out); (case side3 => repeat (first | exact HR3.out | (with_reducible refine Kd.C_alloc ?_ _) | (with_reducible refine Kd.C_drewN ?_ _) | (with_reducible refine Kd.C_drew ?_))); (case side4 => exact HC3.out); rintro e w' ⟨rfl, ⟨nd, rfl⟩⟩))
                    go_roundg kj16
                    case measure => have := HJ4.out; have := HK2.out; have := HK3.out; have := HK4.out; have := HJ16.out; omega
                    case rel => exact ⟨(x11_4), (wrap64 (x13_4 + 1)), (by first | rfl | (simp; done) | (simp [*]; done)), (by first | rfl | (simp; done) | (simp [*]; done)), H', ⟨by have := HJ4.out; have := HK2.out; have := HK3.out; have := HK4.out; have := HJ16.out; omega⟩, by repeat (first | exact Drawn0.refl _ | apply Drawn0.step)⟩
                  ·rw [if_neg c42] at H
                   have c42b0 : decide (x11_4 < 0) = false := decide_eq_false c42
                   clear c42
                   by_cases c45 : a1 < x11_4
                   ·rw [if_pos c45] at H
                    have c45b0 : decide (a1 < x11_4) = true := decide_eq_true c45
                    clear c45
                    replace H := Option.bind_eq_some_iff.mp H
                    obtain ⟨t286, A460, H⟩ := H
                    replace H : (if t286 = true then (bailiwickref04_First.l2 kj16 l0 a1 a2 l3 a1 x12_3 (wrap64 (x13_4 + 1))) else (bailiwickref04_First.l2 kj16 l0 a1 a2 l3 x11_4 x12_3 (wrap64 (x13_4 + 1)))) = some (r1, r2) := H
                    have A46 := Aside0.mk A460
                    clear A460
                    by_cases c47 : t286 = true
                    ·subst c47
                     have H1 : (bailiwickref04_First.l2 kj16 l0 a1 a2 l3 a1 x12_3 (wrap64 (x13_4 + 1))) = some (r1, r2) := by rw [if_pos rfl] at H; exact H
                     clear H
                     have H := H1
                     clear H1
                     have H' := Aside0.mk H
                     clear H
                     go_wp2_with (first | (go_at_call 60; (with_reducible refine (bailiwickref04_fits.calls kj16 _ _ l0 a1 a2 _ _ l3 true _ ?side1 ?side2 ?side3 ?side4 A46.out).mono ?_); (case side1 => repeat (first | exact HR0.out | (with_reducible refine Kd.C_alloc ?_ _) | (with_reducible refine Kd.C_drewN ?_ _) | (with_reducible refine Kd.C_drew ?_))); (case side2 => exact HC0.out); (case side3 => repeat (first | exact HR3.out | (with_reducible refine Kd.C_alloc ?_ _) | (with_reducible refine Kd.C_drewN ?_ _) | (with_reducible refine Kd.C_drew ?_))); (case side4 => exact HC3.out); rintro e w' ⟨rfl, ⟨nd, rfl⟩⟩))
                     go_roundg kj16
                     case measure => have := HJ4.out; have := HK2.out; have := HK3.out; have := HK4.out; have := HJ16.out; omega
                     case rel => exact ⟨(a1), (wrap64 (x13_4 + 1)), (by first | rfl | (simp; done) | (simp [*]; done)), (by first | rfl | (simp; done) | (simp [*]; done)), H', ⟨by have := HJ4.out; have := HK2.out; have := HK3.out; have := HK4.out; have := HJ16.out; omega⟩, by repeat (first | exact Drawn0.refl _ | apply Drawn0.step)⟩
                    ·replace c47 := Bool.eq_false_iff.mpr c47
                     subst c47
                     have H1 : (bailiwickref04_First.l2 kj16 l0 a1 a2 l3 x11_4 x12_3 (wrap64 (x13_4 + 1))) = some (r1, r2) := by rw [if_neg (show ¬ (false = true) by decide)] at H; exact H
                     clear H
                     have H := H1
                     clear H1
                     have H' := Aside0.mk H
                     clear H
                     go_wp2_with (first | (go_at_call 60; (with_reducible refine (bailiwickref04_fits.calls kj16 _ _ l0 a1 a2 _ _ l3 false _ ?side1 ?side2 ?side3 ?side4 A46.out).mono ?_); (case side1 => repeat (first | exact HR0.out | (with_reducible refine Kd.C_alloc ?_ _) | (with_reducible refine Kd.C_drewN ?_ _) | (with_reducible refine Kd.C_drew ?_))); (case side2 => exact HC0.out); (case side3 => repeat (first | exact HR3.out | (with_reducible refine Kd.C_alloc ?_ _) | (with_reducible refine Kd.C_drewN ?_ _) | (with_reducible refine Kd.C_drew ?_))); (case side4 => exact HC3.out); rintro e w' ⟨rfl, ⟨nd, rfl⟩⟩))
                     go_roundg kj16
                     case measure => have := HJ4.out; have := HK2.out; have := HK3.out; have := HK4.out; have := HJ16.out; omega
                     case rel => exact ⟨(x11_4), (wrap64 (x13_4 + 1)), (by first | rfl | (simp; done) | (simp [*]; done)), (by first | rfl | (simp; done) | (simp [*]; done)), H', ⟨by have := HJ4.out; have := HK2.out; have := HK3.out; have := HK4.out; have := HJ16.out; omega⟩, by repeat (first | exact Drawn0.refl _ | apply Drawn0.step)⟩
                   ·rw [if_neg c45] at H
                    have c45b0 : decide (a1 < x11_4) = false := decide_eq_false c45
                    clear c45
                    have H' := Aside0.mk H
                    clear H
                    go_wp2
                    go_roundg kj16
                    case measure => have := HJ4.out; have := HK2.out; have := HK3.out; have := HK4.out; have := HJ16.out; omega
                    case rel => exact ⟨(x11_4), (wrap64 (x13_4 + 1)), (by first | rfl | (simp; done) | (simp [*]; done)), (by first | rfl | (simp; done) | (simp [*]; done)), H', ⟨by have := HJ4.out; have := HK2.out; have := HK3.out; have := HK4.out; have := HJ16.out; omega⟩, by repeat (first | exact Drawn0.refl _ | apply Drawn0.step)⟩
                 ·rw [if_neg c41] at H
                  have c41b0 : decide (a1 < 4611686018427387904) = false := decide_eq_false c41
                  clear c41
                  have H' := Aside0.mk H
                  clear H
                  go_wp2
                  go_roundg kj16
                  case measure => have := HJ4.out; have := HK2.out; have := HK3.out; have := HK4.out; have := HJ16.out; omega
                  case rel => exact ⟨(x11_4), (wrap64 (x13_4 + 1)), (by first | rfl | (simp; done) | (simp [*]; done)), (by first | rfl | (simp; done) | (simp [*]; done)), H', ⟨by have := HJ4.out; have := HK2.out; have := HK3.out; have := HK4.out; have := HJ16.out; omega⟩, by repeat (first | exact Drawn0.refl _ | apply Drawn0.step)⟩
                ·rw [if_neg c40] at H
                 exact absurd (Int.le_refl _) c40
              ·replace c26 := Bool.eq_false_iff.mpr c26
               subst c26
               have H1 : (bailiwickref04_First.l1 kj16 l0 a1 a2 l3 x11_4 (wrap64 (x12_3 + 1))) = some (r1, r2) := by rw [if_neg (show ¬ (false = true) by decide)] at H; exact H
               clear H
               have H := H1
               clear H1
               have H' := Aside0.mk H
               clear H
               go_wp2
               go_roundg kj16
               case measure => have := HJ4.out; have := HK2.out; have := HK3.out; have := HK4.out; have := HJ16.out; omega
               case rel => exact ⟨(x11_4), (wrap64 (x12_3 + 1)), (by first | rfl | (simp; done) | (simp [*]; done)), (by first | rfl | (simp; done) | (simp [*]; done)), H', ⟨by have := HJ4.out; have := HK2.out; have := HK3.out; have := HK4.out; have := HJ16.out; omega⟩, by repeat (first | exact Drawn0.refl _ | apply Drawn0.step)⟩
         ·rw [if_neg c16] at H
          have c16b0 : decide (x12_3 < (l0.length : Int)) = false := decide_eq_false c16
          clear c16
          by_cases c48 : x11_3 < 0
          ·rw [if_pos c48] at H
           have c48b0 : decide (x11_3 < 0) = true := decide_eq_true c48
           clear c48
           simp only [Option.some.injEq, Prod.mk.injEq] at H
           obtain ⟨rfl, rfl⟩ := H
           go_wp2
           go_ret2
           exact ⟨by first | rfl | (simp; done) | (simp [*]; done), by repeat (first | exact Drawn0.refl _ | apply Drawn0.step)⟩
          ·rw [if_neg c48] at H
           have c48b0 : decide (x11_3 < 0) = false := decide_eq_false c48
           clear c48
           simp only [Option.some.injEq, Prod.mk.injEq] at H
           obtain ⟨rfl, rfl⟩ := H
           go_wp2
           go_ret2
           exact ⟨by first | rfl | (simp; done) | (simp [*]; done), by repeat (first | exact Drawn0.refl _ | apply Drawn0.step)⟩

end Go.Proofs.Ytimllhflecippaa.F
