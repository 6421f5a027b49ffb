-- Written by gprint.py (this repo's own driver over the kit's printer); Lean checks it.
import Derived.Test.YtimllhflecippaaF0
import Derived.Test.YtimllhflecippaaF4
import Derived.Test.YtimllhflecippaaF24
import Derived.Test.YtimllhflecippaaF26
import Derived.Test.YtimllhflecippaaF27
import Derived.Test.YtimllhflecippaaF29
import Derived.Test.YtimllhflecippaaF33
import Derived.Test.YtimllhflecippaaF34
namespace Go.Proofs.Ytimllhflecippaa.F
open Go.RowKit Go.Proofs.YtimllhflecippaaW.PrintWords Go.Proofs.YtimllhflecippaaW.PrintLast Go.Proofs.YtimllhflecippaaW.PrintMore
attribute [local go_sem] max2_int min2_int max_two min_two max_three min_three max_four min_four   -- for this text's walks alone
set_option linter.unusedVariables false
set_option linter.unusedSimpArgs false

/-! ### bailiwicklaw04_PoolsFirst: function 12 -/
mutual
def bailiwicklaw04_PoolsFirst.j0 : Nat → List (List (S45)) → Int → Int → List Int → Int → Bool → Option (Bool)
 | 0, _, _, _, _, _, _ => none
 | k + 1, x0, x1, x2, x3, x4, x28 => if x28 = true then (some true) else ((pools_First.f k x0 x1 x2 x3).bind fun bt435 => (if bt435.2 = true then ((when_Plus.f bt435.1 x2).bind fun t437 => ((pools_Take.f k x0 bt435.1 t437 x3).bind fun bt438 => ((when_Plus.f bt435.1 x2).bind fun t442 => ((pools_Give.f k bt438.1 bt435.1 t442 x3).bind fun bt443 => (if bt438.2 = 0 then (if bt443.2 = 0 then ((bailiwickref04_Same.f k bt443.1 x0).bind fun t447 => (if t447 = true then (bailiwicklaw04_PoolsFirst.j1 k x0 x1 x2 x3 x4 bt435.1 (decide (bt435.1 < x1))) else (bailiwicklaw04_PoolsFirst.j1 k x0 x1 x2 x3 x4 bt435.1 true))) else (bailiwicklaw04_PoolsFirst.j1 k x0 x1 x2 x3 x4 bt435.1 true)) else (if bt438.2 = 4 then (bailiwicklaw04_PoolsFirst.j1 k x0 x1 x2 x3 x4 bt435.1 (decide (bt435.1 < x1))) else (bailiwicklaw04_PoolsFirst.j1 k x0 x1 x2 x3 x4 bt435.1 true))))))) else (some (bt435.1 == 0))))
def bailiwicklaw04_PoolsFirst.j1 : Nat → List (List (S45)) → Int → Int → List Int → Int → Int → Bool → Option (Bool)
 | 0, _, _, _, _, _, _, _ => none
 | k + 1, x0, x1, x2, x3, x4, x11, x85 => if x85 = true then (some false) else (if x4 < x1 then (bailiwicklaw04_PoolsFirst.j2 k x0 x2 x3 x4 true) else (bailiwicklaw04_PoolsFirst.j2 k x0 x2 x3 x4 (decide (x4 ≥ x11))))
def bailiwicklaw04_PoolsFirst.j2 : Nat → List (List (S45)) → Int → List Int → Int → Bool → Option (Bool)
 | 0, _, _, _, _, _ => none
 | k + 1, x0, x2, x3, x4, x93 => if x93 = true then (some true) else ((when_Plus.f x4 x2).bind fun t448 => ((pools_Take.f k x0 x4 t448 x3).bind fun bt449 => (if bt449.2 = 5 then (some true) else (some (bt449.2 == 4)))))
end
def bailiwicklaw04_PoolsFirst.f (k : Nat) (l0 : List (List (S45))) (a1 : Int) (a2 : Int) (l3 : List Int) (a4 : Int) : Option (Bool) := (bailiwicklaw04_awake.f k).bind fun t433 => (if t433 = true then ((bailiwicklaw04_short.f k l0).bind fun t434 => (if t434 = true then (bailiwicklaw04_PoolsFirst.j0 k l0 a1 a2 l3 a4 (decide ((l3.length : Int) > 10))) else (bailiwicklaw04_PoolsFirst.j0 k l0 a1 a2 l3 a4 true))) else (some false))
theorem bailiwicklaw04_PoolsFirst.mono_l : ∀ k, (∀ y0 y1 y2 y3 y4 y5, LeO (bailiwicklaw04_PoolsFirst.j0 k y0 y1 y2 y3 y4 y5) (bailiwicklaw04_PoolsFirst.j0 (k + 1) y0 y1 y2 y3 y4 y5)) ∧ (∀ y0 y1 y2 y3 y4 y5 y6, LeO (bailiwicklaw04_PoolsFirst.j1 k y0 y1 y2 y3 y4 y5 y6) (bailiwicklaw04_PoolsFirst.j1 (k + 1) y0 y1 y2 y3 y4 y5 y6)) ∧ (∀ y0 y1 y2 y3 y4, LeO (bailiwicklaw04_PoolsFirst.j2 k y0 y1 y2 y3 y4) (bailiwicklaw04_PoolsFirst.j2 (k + 1) y0 y1 y2 y3 y4))
 | 0 => ⟨fun _ _ _ _ _ _ r h => by simp [bailiwicklaw04_PoolsFirst.j0] at h, fun _ _ _ _ _ _ _ r h => by simp [bailiwicklaw04_PoolsFirst.j1] at h, fun _ _ _ _ _ r h => by simp [bailiwicklaw04_PoolsFirst.j2] at h⟩
 | k + 1 => by
  obtain ⟨ih0, ih1, ih2⟩ := bailiwicklaw04_PoolsFirst.mono_l k
  refine ⟨?_, ?_, ?_⟩
  ·intro y0 y1 y2 y3 y4 y5
   unfold bailiwicklaw04_PoolsFirst.j0
   repeat' first
   | (with_reducible exact ih0 _ _ _ _ _ _)
   | (with_reducible exact ih1 _ _ _ _ _ _ _)
   | (with_reducible exact ih2 _ _ _ _ _)
   | (with_reducible exact bailiwicklaw04_awake.mono _)
   | (with_reducible exact bailiwicklaw04_short.mono _ _)
   | (with_reducible exact bailiwickref04_Same.mono _ _ _)
   | (with_reducible exact pools_First.mono _ _ _ _ _)
   | (with_reducible exact pools_Give.mono _ _ _ _ _)
   | (with_reducible exact pools_Take.mono _ _ _ _ _)
   | (with_reducible exact LeO.refl _)
   | (with_reducible exact LeO.none _)
   | (with_reducible refine LeO.ite ?_ ?_)
   | (with_reducible refine LeO.bind ?_ (fun _ => ?_))
   | exact ih0 _ _ _ _ _ _
   | exact ih1 _ _ _ _ _ _ _
   | exact ih2 _ _ _ _ _
   | exact bailiwicklaw04_awake.mono _
   | exact bailiwicklaw04_short.mono _ _
   | exact bailiwickref04_Same.mono _ _ _
   | exact pools_First.mono _ _ _ _ _
   | exact pools_Give.mono _ _ _ _ _
   | exact pools_Take.mono _ _ _ _ _
   | exact LeO.none _
   | refine LeO.ite ?_ ?_
   | refine LeO.bind ?_ (fun _ => ?_)
  ·intro y0 y1 y2 y3 y4 y5 y6
   unfold bailiwicklaw04_PoolsFirst.j1
   repeat' first
   | (with_reducible exact ih0 _ _ _ _ _ _)
   | (with_reducible exact ih1 _ _ _ _ _ _ _)
   | (with_reducible exact ih2 _ _ _ _ _)
   | (with_reducible exact bailiwicklaw04_awake.mono _)
   | (with_reducible exact bailiwicklaw04_short.mono _ _)
   | (with_reducible exact bailiwickref04_Same.mono _ _ _)
   | (with_reducible exact pools_First.mono _ _ _ _ _)
   | (with_reducible exact pools_Give.mono _ _ _ _ _)
   | (with_reducible exact pools_Take.mono _ _ _ _ _)
   | (with_reducible exact LeO.refl _)
   | (with_reducible exact LeO.none _)
   | (with_reducible refine LeO.ite ?_ ?_)
   | (with_reducible refine LeO.bind ?_ (fun _ => ?_))
   | exact ih0 _ _ _ _ _ _
   | exact ih1 _ _ _ _ _ _ _
   | exact ih2 _ _ _ _ _
   | exact bailiwicklaw04_awake.mono _
   | exact bailiwicklaw04_short.mono _ _
   | exact bailiwickref04_Same.mono _ _ _
   | exact pools_First.mono _ _ _ _ _
   | exact pools_Give.mono _ _ _ _ _
   | exact pools_Take.mono _ _ _ _ _
   | exact LeO.none _
   | refine LeO.ite ?_ ?_
   | refine LeO.bind ?_ (fun _ => ?_)
  ·intro y0 y1 y2 y3 y4
   unfold bailiwicklaw04_PoolsFirst.j2
   repeat' first
   | (with_reducible exact ih0 _ _ _ _ _ _)
   | (with_reducible exact ih1 _ _ _ _ _ _ _)
   | (with_reducible exact ih2 _ _ _ _ _)
   | (with_reducible exact bailiwicklaw04_awake.mono _)
   | (with_reducible exact bailiwicklaw04_short.mono _ _)
   | (with_reducible exact bailiwickref04_Same.mono _ _ _)
   | (with_reducible exact pools_First.mono _ _ _ _ _)
   | (with_reducible exact pools_Give.mono _ _ _ _ _)
   | (with_reducible exact pools_Take.mono _ _ _ _ _)
   | (with_reducible exact LeO.refl _)
   | (with_reducible exact LeO.none _)
   | (with_reducible refine LeO.ite ?_ ?_)
   | (with_reducible refine LeO.bind ?_ (fun _ => ?_))
   | exact ih0 _ _ _ _ _ _
   | exact ih1 _ _ _ _ _ _ _
   | exact ih2 _ _ _ _ _
   | exact bailiwicklaw04_awake.mono _
   | exact bailiwicklaw04_short.mono _ _
   | exact bailiwickref04_Same.mono _ _ _
   | exact pools_First.mono _ _ _ _ _
   | exact pools_Give.mono _ _ _ _ _
   | exact pools_Take.mono _ _ _ _ _
   | exact LeO.none _
   | refine LeO.ite ?_ ?_
   | refine LeO.bind ?_ (fun _ => ?_)
theorem bailiwicklaw04_PoolsFirst.mono : ∀ a0 a1 a2 a3 a4 k, LeO (bailiwicklaw04_PoolsFirst.f k a0 a1 a2 a3 a4) (bailiwicklaw04_PoolsFirst.f (k + 1) a0 a1 a2 a3 a4) := by
 intro a0 a1 a2 a3 a4 k
 obtain ⟨ih0, ih1, ih2⟩ := bailiwicklaw04_PoolsFirst.mono_l k
 unfold bailiwicklaw04_PoolsFirst.f
 repeat' first
   | (with_reducible exact ih0 _ _ _ _ _ _)
   | (with_reducible exact ih1 _ _ _ _ _ _ _)
   | (with_reducible exact ih2 _ _ _ _ _)
   | (with_reducible exact bailiwicklaw04_awake.mono _)
   | (with_reducible exact bailiwicklaw04_short.mono _ _)
   | (with_reducible exact bailiwickref04_Same.mono _ _ _)
   | (with_reducible exact pools_First.mono _ _ _ _ _)
   | (with_reducible exact pools_Give.mono _ _ _ _ _)
   | (with_reducible exact pools_Take.mono _ _ _ _ _)
   | (with_reducible exact LeO.refl _)
   | (with_reducible exact LeO.none _)
   | (with_reducible refine LeO.ite ?_ ?_)
   | (with_reducible refine LeO.bind ?_ (fun _ => ?_))
   | exact ih0 _ _ _ _ _ _
   | exact ih1 _ _ _ _ _ _ _
   | exact ih2 _ _ _ _ _
   | exact bailiwicklaw04_awake.mono _
   | exact bailiwicklaw04_short.mono _ _
   | exact bailiwickref04_Same.mono _ _ _
   | exact pools_First.mono _ _ _ _ _
   | exact pools_Give.mono _ _ _ _ _
   | exact pools_Take.mono _ _ _ _ _
   | exact LeO.none _
   | refine LeO.ite ?_ ?_
   | refine LeO.bind ?_ (fun _ => ?_)
set_option maxHeartbeats 8000000 in
set_option maxRecDepth 100000 in
theorem bailiwicklaw04_PoolsFirst.calls (k : Nat) (A0 : Option Addr) (c0 : Nat) (l0 : List (List (S45))) (a1 : Int) (a2 : Int) (A3 : Option Addr) (c3 : Nat) (l3 : List Int) (a4 : Int) (r : Bool) (w : World) (hr0 : Kd.C (Kd.slice 45 k45) w A0 l0.length l0) (hc0 : l0.length ≤ c0) (hr3 : Kd.C (Kd.int .i64) w A3 l3.length l3) (hc3 : l3.length ≤ c3) (h : bailiwicklaw04_PoolsFirst.f k l0 a1 a2 l3 a4 = some r) :
  Calls Try.prog 12 #[.slice A0 l0.length c0, .int .i64 a1, .int .i64 a2, .slice A3 l3.length c3, .int .i64 a4] w fun e w' => e = .returned (.bool r) ∧ Below w.heap.size w w' := by
 have HR0 := Aside0.mk hr0
 have HC0 := Aside0.mk hc0
 clear hr0 hc0
 have HR3 := Aside0.mk hr3
 have HC3 := Aside0.mk hc3
 clear hr3 hc3
 have HB := Aside0.mk (Below.refl w.heap.size w)
 have H : ((bailiwicklaw04_awake.f k).bind fun t433 => (if t433 = true then ((bailiwicklaw04_short.f k l0).bind fun t434 => (if t434 = true then (bailiwicklaw04_PoolsFirst.j0 k l0 a1 a2 l3 a4 (decide ((l3.length : Int) > 10))) else (bailiwicklaw04_PoolsFirst.j0 k l0 a1 a2 l3 a4 true))) else (some false))) = some r := h
 clear h
 replace H := Option.bind_eq_some_iff.mp H
 obtain ⟨t433, A60, H⟩ := H
 replace H : (if t433 = true then ((bailiwicklaw04_short.f k l0).bind fun t434 => (if t434 = true then (bailiwicklaw04_PoolsFirst.j0 k l0 a1 a2 l3 a4 (decide ((l3.length : Int) > 10))) else (bailiwicklaw04_PoolsFirst.j0 k l0 a1 a2 l3 a4 true))) else (some false)) = some r := H
 have A6 := Aside0.mk A60
 clear A60
 by_cases c7 : t433 = true
 ·subst c7
  have H1 : ((bailiwicklaw04_short.f k l0).bind fun t434 => (if t434 = true then (bailiwicklaw04_PoolsFirst.j0 k l0 a1 a2 l3 a4 (decide ((l3.length : Int) > 10))) else (bailiwicklaw04_PoolsFirst.j0 k l0 a1 a2 l3 a4 true))) = some r := by rw [if_pos rfl] at H; exact H
  clear H
  have H := H1
  clear H1
  have HC8 := Aside0.mk H
  clear H
  go_enter Try.func12, Try.ntmps12
  go_upto_region 3 with (first | ((with_reducible refine gate_callee (f := 34) rfl ?_); refine goesL_ (some 19) rfl rfl Try.func34 (by kernel_rfl) rfl #[] rfl (by (try simp only [List.map_toArray, List.map_cons, List.map_nil]); first | done | rfl | (simp only [List.length_drop, List.length_take]; rfl)) ?_; (with_reducible refine (bailiwicklaw04_awake.calls k  true _ A6.out).mono ?_); rintro e w9 ⟨rfl, hb⟩; refine ⟨_, rfl, ?_⟩; have n0_ := Aside0.mk (below_step (by repeat (first | (with_reducible first | exact HB.out | apply below_alloc | apply pw_below_drewN | apply below_drew1) | exact HB.out)) hb); clear HB; have HB := n0_; clear n0_; (try clear hb); (try clear hb2); (try clear hk); (try clear hi)))
  (try simp only [Act.put, List.setIfInBounds_toArray, List.set_cons_zero, List.set_cons_succ])
  go_cut [28] (fun v28 wc => ∃ (kq : Nat) (x28_7 : Bool), v28 = .bool x28_7 ∧ Aside0 (bailiwicklaw04_PoolsFirst.j0 kq l0 a1 a2 l3 a4 x28_7 = some r) ∧ Aside0 (kq ≤ k) ∧ Aside0 (Below w.heap.size w wc))
  case first =>
   have H := HC8.out
   clear HC8
   replace H := Option.bind_eq_some_iff.mp H
   obtain ⟨t434, A100, H⟩ := H
   replace H : (if t434 = true then (bailiwicklaw04_PoolsFirst.j0 k l0 a1 a2 l3 a4 (decide ((l3.length : Int) > 10))) else (bailiwicklaw04_PoolsFirst.j0 k l0 a1 a2 l3 a4 true)) = some r := H
   have A10 := Aside0.mk A100
   clear A100
   by_cases c11 : t434 = true
   ·subst c11
    have H1 : (bailiwicklaw04_PoolsFirst.j0 k l0 a1 a2 l3 a4 (decide ((l3.length : Int) > 10))) = some r := by rw [if_pos rfl] at H; exact H
    clear H
    have H := H1
    clear H1
    have H' := Aside0.mk H
    clear H
    go_wp2_with (first | ((with_reducible refine gate_callee (f := 39) rfl ?_); refine goesL_ (some 22) rfl rfl Try.func39 (by kernel_rfl) rfl #[.slice A0 l0.length c0] rfl (by (try simp only [List.map_toArray, List.map_cons, List.map_nil]); first | done | rfl | (simp only [List.length_drop, List.length_take]; rfl)) ?_; (with_reducible refine (bailiwicklaw04_short.calls k _ _ l0 true _ ?side1 ?side2 A10.out).mono ?_); (case side1 => repeat (first | exact (Kd.C_below HR0.out HB.out) | (with_reducible refine Kd.C_alloc ?_ _) | (with_reducible refine Kd.C_drewN ?_ _) | (with_reducible refine Kd.C_drew ?_))); (case side2 => exact HC0.out); rintro e w' ⟨rfl, ⟨nd, rfl⟩⟩; refine ⟨_, rfl, ?_⟩))
    go_meet
    case rel => exact ⟨_, (decide ((l3.length : Int) > 10)), (by first | rfl | (simp; done) | (simp [*]; done)), H', ⟨by first | omega | exact Nat.le_refl _⟩, ⟨by repeat (first | (with_reducible first | exact HB.out | apply below_alloc | apply pw_below_drewN | apply below_drew1) | exact HB.out)⟩⟩
   ·replace c11 := Bool.eq_false_iff.mpr c11
    subst c11
    have H1 : (bailiwicklaw04_PoolsFirst.j0 k l0 a1 a2 l3 a4 true) = some r := by rw [if_neg (show ¬ (false = true) by decide)] at H; exact H
    clear H
    have H := H1
    clear H1
    have H' := Aside0.mk H
    clear H
    go_wp2_with (first | ((with_reducible refine gate_callee (f := 39) rfl ?_); refine goesL_ (some 22) rfl rfl Try.func39 (by kernel_rfl) rfl #[.slice A0 l0.length c0] rfl (by (try simp only [List.map_toArray, List.map_cons, List.map_nil]); first | done | rfl | (simp only [List.length_drop, List.length_take]; rfl)) ?_; (with_reducible refine (bailiwicklaw04_short.calls k _ _ l0 false _ ?side1 ?side2 A10.out).mono ?_); (case side1 => repeat (first | exact (Kd.C_below HR0.out HB.out) | (with_reducible refine Kd.C_alloc ?_ _) | (with_reducible refine Kd.C_drewN ?_ _) | (with_reducible refine Kd.C_drew ?_))); (case side2 => exact HC0.out); rintro e w' ⟨rfl, ⟨nd, rfl⟩⟩; refine ⟨_, rfl, ?_⟩))
    go_meet
    case rel => exact ⟨_, (true), (by first | rfl | (simp; done) | (simp [*]; done)), H', ⟨by first | omega | exact Nat.le_refl _⟩, ⟨by repeat (first | (with_reducible first | exact HB.out | apply below_alloc | apply pw_below_drewN | apply below_drew1) | exact HB.out)⟩⟩
  case rest =>
   clear HC8
   try clear c1
   try clear p2
   try clear c3
   try clear c7
   try clear c11
   obtain ⟨kq, x28_7, rfl, HA, HJ7, HB⟩ := hcut
   cases kq with
   | zero => exact absurd HA.out (by simp [bailiwicklaw04_PoolsFirst.j0])
   | succ kj7 =>
    have H := HA.out
    clear HA
    simp only [bailiwicklaw04_PoolsFirst.j0] at H
    by_cases c12 : x28_7 = true
    ·subst c12
     have H1 : (some true) = some r := by rw [if_pos rfl] at H; exact H
     clear H
     have H := H1
     clear H1
     obtain rfl := Option.some.inj H
     go_wp2
     go_ret
     exact ⟨by first | rfl | (simp [errW_none, errW_some] <;> rfl) | (simp [*, errW_none, errW_some] <;> rfl), by repeat (first | (with_reducible first | exact HB.out | apply below_alloc | apply pw_below_drewN | apply below_drew1) | exact HB.out)⟩
    ·replace c12 := Bool.eq_false_iff.mpr c12
     subst c12
     have H1 : ((pools_First.f kj7 l0 a1 a2 l3).bind fun bt435 => (if bt435.2 = true then ((when_Plus.f bt435.1 a2).bind fun t437 => ((pools_Take.f kj7 l0 bt435.1 t437 l3).bind fun bt438 => ((when_Plus.f bt435.1 a2).bind fun t442 => ((pools_Give.f kj7 bt438.1 bt435.1 t442 l3).bind fun bt443 => (if bt438.2 = 0 then (if bt443.2 = 0 then ((bailiwickref04_Same.f kj7 bt443.1 l0).bind fun t447 => (if t447 = true then (bailiwicklaw04_PoolsFirst.j1 kj7 l0 a1 a2 l3 a4 bt435.1 (decide (bt435.1 < a1))) else (bailiwicklaw04_PoolsFirst.j1 kj7 l0 a1 a2 l3 a4 bt435.1 true))) else (bailiwicklaw04_PoolsFirst.j1 kj7 l0 a1 a2 l3 a4 bt435.1 true)) else (if bt438.2 = 4 then (bailiwicklaw04_PoolsFirst.j1 kj7 l0 a1 a2 l3 a4 bt435.1 (decide (bt435.1 < a1))) else (bailiwicklaw04_PoolsFirst.j1 kj7 l0 a1 a2 l3 a4 bt435.1 true))))))) else (some (bt435.1 == 0)))) = some r := by rw [if_neg (show ¬ (false = true) by decide)] at H; exact H
     clear H
     have H := H1
     clear H1
     replace H := Option.bind_eq_some_iff.mp H
     obtain ⟨⟨t435, t436⟩, A130, H⟩ := H
     replace H : (if t436 = true then ((when_Plus.f t435 a2).bind fun t437 => ((pools_Take.f kj7 l0 t435 t437 l3).bind fun bt438 => ((when_Plus.f t435 a2).bind fun t442 => ((pools_Give.f kj7 bt438.1 t435 t442 l3).bind fun bt443 => (if bt438.2 = 0 then (if bt443.2 = 0 then ((bailiwickref04_Same.f kj7 bt443.1 l0).bind fun t447 => (if t447 = true then (bailiwicklaw04_PoolsFirst.j1 kj7 l0 a1 a2 l3 a4 t435 (decide (t435 < a1))) else (bailiwicklaw04_PoolsFirst.j1 kj7 l0 a1 a2 l3 a4 t435 true))) else (bailiwicklaw04_PoolsFirst.j1 kj7 l0 a1 a2 l3 a4 t435 true)) else (if bt438.2 = 4 then (bailiwicklaw04_PoolsFirst.j1 kj7 l0 a1 a2 l3 a4 t435 (decide (t435 < a1))) else (bailiwicklaw04_PoolsFirst.j1 kj7 l0 a1 a2 l3 a4 t435 true))))))) else (some (t435 == 0))) = some r := H
     have A13 := Aside0.mk A130
     clear A130
     by_cases c14 : t436 = true
     ·subst c14
      have H1 : ((when_Plus.f t435 a2).bind fun t437 => ((pools_Take.f kj7 l0 t435 t437 l3).bind fun bt438 => ((when_Plus.f t435 a2).bind fun t442 => ((pools_Give.f kj7 bt438.1 t435 t442 l3).bind fun bt443 => (if bt438.2 = 0 then (if bt443.2 = 0 then ((bailiwickref04_Same.f kj7 bt443.1 l0).bind fun t447 => (if t447 = true then (bailiwicklaw04_PoolsFirst.j1 kj7 l0 a1 a2 l3 a4 t435 (decide (t435 < a1))) else (bailiwicklaw04_PoolsFirst.j1 kj7 l0 a1 a2 l3 a4 t435 true))) else (bailiwicklaw04_PoolsFirst.j1 kj7 l0 a1 a2 l3 a4 t435 true)) else (if bt438.2 = 4 then (bailiwicklaw04_PoolsFirst.j1 kj7 l0 a1 a2 l3 a4 t435 (decide (t435 < a1))) else (bailiwicklaw04_PoolsFirst.j1 kj7 l0 a1 a2 l3 a4 t435 true))))))) = some r := by rw [if_pos rfl] at H; exact H
      clear H
      have H := H1
      clear H1
      replace H := Option.bind_eq_some_iff.mp H
      obtain ⟨t437, A150, H⟩ := H
      replace H : ((pools_Take.f kj7 l0 t435 t437 l3).bind fun bt438 => ((when_Plus.f t435 a2).bind fun t442 => ((pools_Give.f kj7 bt438.1 t435 t442 l3).bind fun bt443 => (if bt438.2 = 0 then (if bt443.2 = 0 then ((bailiwickref04_Same.f kj7 bt443.1 l0).bind fun t447 => (if t447 = true then (bailiwicklaw04_PoolsFirst.j1 kj7 l0 a1 a2 l3 a4 t435 (decide (t435 < a1))) else (bailiwicklaw04_PoolsFirst.j1 kj7 l0 a1 a2 l3 a4 t435 true))) else (bailiwicklaw04_PoolsFirst.j1 kj7 l0 a1 a2 l3 a4 t435 true)) else (if bt438.2 = 4 then (bailiwicklaw04_PoolsFirst.j1 kj7 l0 a1 a2 l3 a4 t435 (decide (t435 < a1))) else (bailiwicklaw04_PoolsFirst.j1 kj7 l0 a1 a2 l3 a4 t435 true)))))) = some r := H
      have A15 := Aside0.mk A150
      clear A150
      replace H := Option.bind_eq_some_iff.mp H
      obtain ⟨⟨t438, t439⟩, A160, H⟩ := H
      replace H : ((when_Plus.f t435 a2).bind fun t442 => ((pools_Give.f kj7 t438 t435 t442 l3).bind fun bt443 => (if t439 = 0 then (if bt443.2 = 0 then ((bailiwickref04_Same.f kj7 bt443.1 l0).bind fun t447 => (if t447 = true then (bailiwicklaw04_PoolsFirst.j1 kj7 l0 a1 a2 l3 a4 t435 (decide (t435 < a1))) else (bailiwicklaw04_PoolsFirst.j1 kj7 l0 a1 a2 l3 a4 t435 true))) else (bailiwicklaw04_PoolsFirst.j1 kj7 l0 a1 a2 l3 a4 t435 true)) else (if t439 = 4 then (bailiwicklaw04_PoolsFirst.j1 kj7 l0 a1 a2 l3 a4 t435 (decide (t435 < a1))) else (bailiwicklaw04_PoolsFirst.j1 kj7 l0 a1 a2 l3 a4 t435 true))))) = some r := H
      have A16 := Aside0.mk A160
      clear A160
      replace H := Option.bind_eq_some_iff.mp H
      obtain ⟨t442, A170, H⟩ := H
      replace H : ((pools_Give.f kj7 t438 t435 t442 l3).bind fun bt443 => (if t439 = 0 then (if bt443.2 = 0 then ((bailiwickref04_Same.f kj7 bt443.1 l0).bind fun t447 => (if t447 = true then (bailiwicklaw04_PoolsFirst.j1 kj7 l0 a1 a2 l3 a4 t435 (decide (t435 < a1))) else (bailiwicklaw04_PoolsFirst.j1 kj7 l0 a1 a2 l3 a4 t435 true))) else (bailiwicklaw04_PoolsFirst.j1 kj7 l0 a1 a2 l3 a4 t435 true)) else (if t439 = 4 then (bailiwicklaw04_PoolsFirst.j1 kj7 l0 a1 a2 l3 a4 t435 (decide (t435 < a1))) else (bailiwicklaw04_PoolsFirst.j1 kj7 l0 a1 a2 l3 a4 t435 true)))) = some r := H
      have A17 := Aside0.mk A170
      clear A170
      replace H := Option.bind_eq_some_iff.mp H
      obtain ⟨⟨t443, t444⟩, A180, H⟩ := H
      replace H : (if t439 = 0 then (if t444 = 0 then ((bailiwickref04_Same.f kj7 t443 l0).bind fun t447 => (if t447 = true then (bailiwicklaw04_PoolsFirst.j1 kj7 l0 a1 a2 l3 a4 t435 (decide (t435 < a1))) else (bailiwicklaw04_PoolsFirst.j1 kj7 l0 a1 a2 l3 a4 t435 true))) else (bailiwicklaw04_PoolsFirst.j1 kj7 l0 a1 a2 l3 a4 t435 true)) else (if t439 = 4 then (bailiwicklaw04_PoolsFirst.j1 kj7 l0 a1 a2 l3 a4 t435 (decide (t435 < a1))) else (bailiwicklaw04_PoolsFirst.j1 kj7 l0 a1 a2 l3 a4 t435 true))) = some r := H
      have A18 := Aside0.mk A180
      clear A180
      have HC19 := Aside0.mk H
      clear H
      go_upto_region 10 with (first | ((with_reducible refine gate_callee (f := 40) rfl ?_); refine goesL_ (some 34) rfl rfl Try.func40 (by kernel_rfl) rfl #[.slice A0 l0.length c0, .int .i64 a1, .int .i64 a2, .slice A3 l3.length c3] rfl (by (try simp only [List.map_toArray, List.map_cons, List.map_nil]); first | done | rfl | (simp only [List.length_drop, List.length_take]; rfl)) ?_; (with_reducible refine (pools_First.calls kj7 _ _ l0 a1 a2 _ _ l3 t435 true _ ?side1 ?side2 ?side3 ?side4 A13.out).mono ?_); (case side1 => repeat (first | exact (Kd.C_below HR0.out HB.out) | (with_reducible refine Kd.C_alloc ?_ _) | (with_reducible refine Kd.C_drewN ?_ _) | (with_reducible refine Kd.C_drew ?_))); (case side2 => exact HC0.out); (case side3 => repeat (first | exact (Kd.C_below HR3.out HB.out) | (with_reducible refine Kd.C_alloc ?_ _) | (with_reducible refine Kd.C_drewN ?_ _) | (with_reducible refine Kd.C_drew ?_))); (case side4 => exact HC3.out); rintro e w20 ⟨rfl, hb⟩; refine ⟨_, rfl, ?_⟩; have n0_ := Aside0.mk (below_step (by repeat (first | (with_reducible first | exact HB.out | apply below_alloc | apply pw_below_drewN | apply below_drew1) | exact HB.out)) hb); clear HB; have HB := n0_; clear n0_; (try clear hb); (try clear hb2); (try clear hk); (try clear hi)) | ((with_reducible refine gate_callee (f := 20) rfl ?_); refine goesL_ (some 46) rfl rfl Try.func20 (by kernel_rfl) rfl #[.int .i64 t435, .int .i64 a2] rfl (by (try simp only [List.map_toArray, List.map_cons, List.map_nil]); first | done | rfl | (simp only [List.length_drop, List.length_take]; rfl)) ?_; (with_reducible refine (when_Plus.calls t435 a2 t437 _ A15.out).mono ?_); rintro e w21 ⟨rfl, hb⟩; refine ⟨_, rfl, ?_⟩; have n0_ := Aside0.mk (below_step (by repeat (first | (with_reducible first | exact HB.out | apply below_alloc | apply pw_below_drewN | apply below_drew1) | exact HB.out)) hb); clear HB; have HB := n0_; clear n0_; (try clear hb); (try clear hb2); (try clear hk); (try clear hi)) | ((with_reducible refine gate_callee (f := 42) rfl ?_); refine goesL_ (some 48) rfl rfl Try.func42 (by kernel_rfl) rfl #[.slice A0 l0.length c0, .int .i64 t435, .int .i64 t437, .slice A3 l3.length c3] rfl (by (try simp only [List.map_toArray, List.map_cons, List.map_nil]); first | done | rfl | (simp only [List.length_drop, List.length_take]; rfl)) ?_; (with_reducible refine (pools_Take.calls kj7 _ _ l0 t435 t437 _ _ l3 t438 t439 _ ?side1 ?side2 ?side3 ?side4 A16.out).mono ?_); (case side1 => repeat (first | exact (Kd.C_below HR0.out HB.out) | (with_reducible refine Kd.C_alloc ?_ _) | (with_reducible refine Kd.C_drewN ?_ _) | (with_reducible refine Kd.C_drew ?_))); (case side2 => exact HC0.out); (case side3 => repeat (first | exact (Kd.C_below HR3.out HB.out) | (with_reducible refine Kd.C_alloc ?_ _) | (with_reducible refine Kd.C_drewN ?_ _) | (with_reducible refine Kd.C_drew ?_))); (case side4 => exact HC3.out); rintro e w22 ⟨v440, rfl, ho0, hb⟩; refine ⟨_, rfl, ?_⟩; have n0_ := Aside0.mk (Kd.S_lower ho0 (below_size (by repeat (first | (with_reducible first | exact HB.out | apply below_alloc | apply pw_below_drewN | apply below_drew1) | exact HB.out)))); have n1_ := Aside0.mk (below_step (by repeat (first | (with_reducible first | exact HB.out | apply below_alloc | apply pw_below_drewN | apply below_drew1) | exact HB.out)) hb); clear HB; have HO441 := n0_; have HB := n1_; clear n0_ n1_; (try clear hb); (try clear hb2); (try clear hk); (try clear hi); (try clear ho0)) | ((with_reducible refine gate_callee (f := 20) rfl ?_); refine goesL_ (some 56) rfl rfl Try.func20 (by kernel_rfl) rfl #[.int .i64 t435, .int .i64 a2] rfl (by (try simp only [List.map_toArray, List.map_cons, List.map_nil]); first | done | rfl | (simp only [List.length_drop, List.length_take]; rfl)) ?_; (with_reducible refine (when_Plus.calls t435 a2 t442 _ A17.out).mono ?_); rintro e w23 ⟨rfl, hb⟩; refine ⟨_, rfl, ?_⟩; have n0_ := Aside0.mk (Kd.S_below (by (with_reducible repeat (first | apply Kd.S_alloc | apply Kd.S_drewN | apply Kd.S_drew)); exact HO441.out) hb); have n1_ := Aside0.mk (below_step (by repeat (first | (with_reducible first | exact HB.out | apply below_alloc | apply pw_below_drewN | apply below_drew1) | exact HB.out)) hb); clear HO441; clear HB; have HO441 := n0_; have HB := n1_; clear n0_ n1_; (try clear hb); (try clear hb2); (try clear hk); (try clear hi); obtain ⟨Ao24, co24, eo24⟩ := Kd.S_slice HO441.out; subst eo24) | ((with_reducible refine gate_callee (f := 44) rfl ?_); refine goesL_ (some 58) rfl rfl Try.func44 (by kernel_rfl) rfl #[.slice Ao24 t438.length co24, .int .i64 t435, .int .i64 t442, .slice A3 l3.length c3] rfl (by (try simp only [List.map_toArray, List.map_cons, List.map_nil]); first | done | rfl | (simp only [List.length_drop, List.length_take]; rfl)) ?_; (with_reducible refine (pools_Give.calls kj7 _ _ t438 t435 t442 _ _ l3 t443 t444 _ ?side1 ?side2 ?side3 ?side4 A18.out).mono ?_); (case side1 => repeat (first | exact (Kd.S_reads' HO441.out).2.2 | (with_reducible refine Kd.C_alloc ?_ _) | (with_reducible refine Kd.C_drewN ?_ _) | (with_reducible refine Kd.C_drew ?_))); (case side2 => exact (Kd.S_reads' HO441.out).2.1); (case side3 => repeat (first | exact (Kd.C_below HR3.out HB.out) | (with_reducible refine Kd.C_alloc ?_ _) | (with_reducible refine Kd.C_drewN ?_ _) | (with_reducible refine Kd.C_drew ?_))); (case side4 => exact HC3.out); rintro e w25 ⟨v445, rfl, ho0, hb⟩; refine ⟨_, rfl, ?_⟩; have n0_ := Aside0.mk (Kd.S_elder' (by (with_reducible repeat (first | apply Kd.S_alloc | apply Kd.S_drewN | apply Kd.S_drew)); exact HO441.out) (Kd.S_base ho0) hb); have n1_ := Aside0.mk (Kd.S_lower (Kd.S_new' ho0 (Kd.S_lt (by (with_reducible repeat (first | apply Kd.S_alloc | apply Kd.S_drewN | apply Kd.S_drew)); exact HO441.out))) (below_size (by repeat (first | (with_reducible first | exact HB.out | apply below_alloc | apply pw_below_drewN | apply below_drew1) | exact HB.out)))); have n2_ := Aside0.mk (below_step (by repeat (first | (with_reducible first | exact HB.out | apply below_alloc | apply pw_below_drewN | apply below_drew1) | exact HB.out)) hb); clear HO441; clear HB; have HO441 := n0_; have HO446 := n1_; have HB := n2_; clear n0_ n1_ n2_; (try clear hb); (try clear hb2); (try clear hk); (try clear hi); (try clear ho0)))
      (try simp only [Act.put, List.setIfInBounds_toArray, List.set_cons_zero, List.set_cons_succ])
      go_cut [85] (fun v85 wc => ∃ (kq : Nat) (x85_18 : Bool), v85 = .bool x85_18 ∧ Aside0 (bailiwicklaw04_PoolsFirst.j1 kq l0 a1 a2 l3 a4 t435 x85_18 = some r) ∧ Aside0 (kq ≤ kj7) ∧ Aside0 (Below w.heap.size w wc))
      case first =>
       have H := HC19.out
       clear HC19
       by_cases c26 : t439 = 0
       ·rw [if_pos c26] at H
        have c26b0 : (t439 == 0) = true := beq_iff_eq.mpr c26
        have c26b1 : (t439 != 0) = false := bne_eq_false_iff_eq.mpr c26
        clear c26
        (first | rw [c26b0] | (simp only [i64_w, i32_w]; rw [c26b0]) | skip)
        by_cases c27 : t444 = 0
        ·rw [if_pos c27] at H
         have c27b0 : (t444 == 0) = true := beq_iff_eq.mpr c27
         have c27b1 : (t444 != 0) = false := bne_eq_false_iff_eq.mpr c27
         clear c27
         replace H := Option.bind_eq_some_iff.mp H
         obtain ⟨t447, A280, H⟩ := H
         replace H : (if t447 = true then (bailiwicklaw04_PoolsFirst.j1 kj7 l0 a1 a2 l3 a4 t435 (decide (t435 < a1))) else (bailiwicklaw04_PoolsFirst.j1 kj7 l0 a1 a2 l3 a4 t435 true)) = some r := H
         have A28 := Aside0.mk A280
         clear A280
         by_cases c29 : t447 = true
         ·subst c29
          have H1 : (bailiwicklaw04_PoolsFirst.j1 kj7 l0 a1 a2 l3 a4 t435 (decide (t435 < a1))) = some r := by rw [if_pos rfl] at H; exact H
          clear H
          have H := H1
          clear H1
          have H' := Aside0.mk H
          clear H
          obtain ⟨Ao30, co30, eo30⟩ := Kd.S_slice HO446.out
          subst eo30
          go_wp2_with (first | (go_at_call 46; (with_reducible refine (bailiwickref04_Same.calls kj7 _ _ t443 _ _ l0 true _ ?side1 ?side2 ?side3 ?side4 A28.out).mono ?_); (case side1 => repeat (first | exact (Kd.S_reads' HO446.out).2.2 | (with_reducible refine Kd.C_alloc ?_ _) | (with_reducible refine Kd.C_drewN ?_ _) | (with_reducible refine Kd.C_drew ?_))); (case side2 => exact (Kd.S_reads' HO446.out).2.1); (case side3 => repeat (first | exact (Kd.C_below HR0.out HB.out) | (with_reducible refine Kd.C_alloc ?_ _) | (with_reducible refine Kd.C_drewN ?_ _) | (with_reducible refine Kd.C_drew ?_))); (case side4 => exact HC0.out); rintro e w' ⟨rfl, ⟨nd, rfl⟩⟩))
          go_meet
          case rel => exact ⟨_, (decide (t435 < a1)), (by first | rfl | (simp; done) | (simp [*]; done)), H', ⟨by have := HJ7.out; first | omega | exact Nat.le_refl _⟩, ⟨by repeat (first | (with_reducible first | exact HB.out | apply below_alloc | apply pw_below_drewN | apply below_drew1) | exact HB.out)⟩⟩
         ·replace c29 := Bool.eq_false_iff.mpr c29
          subst c29
          have H1 : (bailiwicklaw04_PoolsFirst.j1 kj7 l0 a1 a2 l3 a4 t435 true) = some r := by rw [if_neg (show ¬ (false = true) by decide)] at H; exact H
          clear H
          have H := H1
          clear H1
          have H' := Aside0.mk H
          clear H
          obtain ⟨Ao31, co31, eo31⟩ := Kd.S_slice HO446.out
          subst eo31
          go_wp2_with (first | (go_at_call 46; (with_reducible refine (bailiwickref04_Same.calls kj7 _ _ t443 _ _ l0 false _ ?side1 ?side2 ?side3 ?side4 A28.out).mono ?_); (case side1 => repeat (first | exact (Kd.S_reads' HO446.out).2.2 | (with_reducible refine Kd.C_alloc ?_ _) | (with_reducible refine Kd.C_drewN ?_ _) | (with_reducible refine Kd.C_drew ?_))); (case side2 => exact (Kd.S_reads' HO446.out).2.1); (case side3 => repeat (first | exact (Kd.C_below HR0.out HB.out) | (with_reducible refine Kd.C_alloc ?_ _) | (with_reducible refine Kd.C_drewN ?_ _) | (with_reducible refine Kd.C_drew ?_))); (case side4 => exact HC0.out); rintro e w' ⟨rfl, ⟨nd, rfl⟩⟩))
          go_meet
          case rel => exact ⟨_, (true), (by first | rfl | (simp; done) | (simp [*]; done)), H', ⟨by have := HJ7.out; first | omega | exact Nat.le_refl _⟩, ⟨by repeat (first | (with_reducible first | exact HB.out | apply below_alloc | apply pw_below_drewN | apply below_drew1) | exact HB.out)⟩⟩
        ·rw [if_neg c27] at H
         have c27b0 : (t444 == 0) = false := beq_eq_false_iff_ne.mpr c27
         have c27b1 : (t444 != 0) = true := bne_iff_ne.mpr c27
         have H' := Aside0.mk H
         clear H
         go_wp2
         go_meet
         case rel => exact ⟨_, (true), (by first | rfl | (simp; done) | (simp [*]; done)), H', ⟨by have := HJ7.out; first | omega | exact Nat.le_refl _⟩, ⟨by repeat (first | (with_reducible first | exact HB.out | apply below_alloc | apply pw_below_drewN | apply below_drew1) | exact HB.out)⟩⟩
       ·rw [if_neg c26] at H
        have c26b0 : (t439 == 0) = false := beq_eq_false_iff_ne.mpr c26
        have c26b1 : (t439 != 0) = true := bne_iff_ne.mpr c26
        (first | rw [c26b0] | (simp only [i64_w, i32_w]; rw [c26b0]) | skip)
        by_cases c32 : t439 = 4
        ·rw [if_pos c32] at H
         have c32b0 : (t439 == 4) = true := beq_iff_eq.mpr c32
         have c32b1 : (t439 != 4) = false := bne_eq_false_iff_eq.mpr c32
         clear c32
         have H' := Aside0.mk H
         clear H
         go_wp2
         go_meet
         case rel => exact ⟨_, (decide (t435 < a1)), (by first | rfl | (simp; done) | (simp [*]; done)), H', ⟨by have := HJ7.out; first | omega | exact Nat.le_refl _⟩, ⟨by repeat (first | (with_reducible first | exact HB.out | apply below_alloc | apply pw_below_drewN | apply below_drew1) | exact HB.out)⟩⟩
        ·rw [if_neg c32] at H
         have c32b0 : (t439 == 4) = false := beq_eq_false_iff_ne.mpr c32
         have c32b1 : (t439 != 4) = true := bne_iff_ne.mpr c32
         have H' := Aside0.mk H
         clear H
         go_wp2
         go_meet
         case rel => exact ⟨_, (true), (by first | rfl | (simp; done) | (simp [*]; done)), H', ⟨by have := HJ7.out; first | omega | exact Nat.le_refl _⟩, ⟨by repeat (first | (with_reducible first | exact HB.out | apply below_alloc | apply pw_below_drewN | apply below_drew1) | exact HB.out)⟩⟩
      case rest =>
       clear HC19
       try clear c1
       try clear c2
       try clear p2
       try clear c3
       try clear c4
       try clear c7
       try clear c11
       try clear c12
       try clear c14
       try clear c20
       try clear c26
       try clear c26b0
       try clear c26b1
       try clear c27
       try clear c27b0
       try clear c27b1
       try clear c29
       try clear c32
       try clear c32b0
       try clear c32b1
       try clear p2
       obtain ⟨kq, x85_18, rfl, HA, HJ18, HB⟩ := hcut
       cases kq with
       | zero => exact absurd HA.out (by simp [bailiwicklaw04_PoolsFirst.j1])
       | succ kj18 =>
        have H := HA.out
        clear HA
        simp only [bailiwicklaw04_PoolsFirst.j1] at H
        by_cases c33 : x85_18 = true
        ·subst c33
         have H1 : (some false) = some r := by rw [if_pos rfl] at H; exact H
         clear H
         have H := H1
         clear H1
         obtain rfl := Option.some.inj H
         go_wp2
         go_ret
         exact ⟨by first | rfl | (simp [errW_none, errW_some] <;> rfl) | (simp [*, errW_none, errW_some] <;> rfl), by repeat (first | (with_reducible first | exact HB.out | apply below_alloc | apply pw_below_drewN | apply below_drew1) | exact HB.out)⟩
        ·replace c33 := Bool.eq_false_iff.mpr c33
         subst c33
         have H1 : (if a4 < a1 then (bailiwicklaw04_PoolsFirst.j2 kj18 l0 a2 l3 a4 true) else (bailiwicklaw04_PoolsFirst.j2 kj18 l0 a2 l3 a4 (decide (a4 ≥ t435)))) = some r := by rw [if_neg (show ¬ (false = true) by decide)] at H; exact H
         clear H
         have H := H1
         clear H1
         have HC34 := Aside0.mk H
         clear H
         go_upto_region 12 with (fail)
         go_cut [93] (fun v93 wc => ∃ (kq : Nat) (x93_33 : Bool), v93 = .bool x93_33 ∧ Aside0 (bailiwicklaw04_PoolsFirst.j2 kq l0 a2 l3 a4 x93_33 = some r) ∧ Aside0 (kq ≤ kj18) ∧ Aside0 (Below w.heap.size w wc))
         case first =>
          have H := HC34.out
          clear HC34
          by_cases c35 : a4 < a1
          ·rw [if_pos c35] at H
           have c35b0 : decide (a4 < a1) = true := decide_eq_true c35
           clear c35
           (first | rw [c35b0] | (simp only [i64_w, i32_w]; rw [c35b0]) | skip)
           have H' := Aside0.mk H
           clear H
           go_wp2
           go_meet
           case rel => exact ⟨_, (true), (by first | rfl | (simp; done) | (simp [*]; done)), H', ⟨by have := HJ7.out; have := HJ18.out; first | omega | exact Nat.le_refl _⟩, ⟨by repeat (first | (with_reducible first | exact HB.out | apply below_alloc | apply pw_below_drewN | apply below_drew1) | exact HB.out)⟩⟩
          ·rw [if_neg c35] at H
           have c35b0 : decide (a4 < a1) = false := decide_eq_false c35
           clear c35
           (first | rw [c35b0] | (simp only [i64_w, i32_w]; rw [c35b0]) | skip)
           have H' := Aside0.mk H
           clear H
           go_wp2
           go_meet
           case rel => exact ⟨_, (decide (a4 ≥ t435)), (by first | rfl | (simp; done) | (simp [*]; done)), H', ⟨by have := HJ7.out; have := HJ18.out; first | omega | exact Nat.le_refl _⟩, ⟨by repeat (first | (with_reducible first | exact HB.out | apply below_alloc | apply pw_below_drewN | apply below_drew1) | exact HB.out)⟩⟩
         case rest =>
          clear HC34
          try clear c1
          try clear c2
          try clear p2
          try clear c3
          try clear c4
          try clear c7
          try clear c11
          try clear c12
          try clear c14
          try clear c20
          try clear c26
          try clear c26b0
          try clear c26b1
          try clear c27
          try clear c27b0
          try clear c27b1
          try clear c29
          try clear c32
          try clear c32b0
          try clear c32b1
          try clear c33
          try clear c34
          try clear c35
          try clear c35b0
          try clear p2
          obtain ⟨kq, x93_33, rfl, HA, HJ33, HB⟩ := hcut
          cases kq with
          | zero => exact absurd HA.out (by simp [bailiwicklaw04_PoolsFirst.j2])
          | succ kj33 =>
           have H := HA.out
           clear HA
           simp only [bailiwicklaw04_PoolsFirst.j2] at H
           by_cases c36 : x93_33 = true
           ·subst c36
            have H1 : (some true) = some r := by rw [if_pos rfl] at H; exact H
            clear H
            have H := H1
            clear H1
            obtain rfl := Option.some.inj H
            go_wp2
            go_ret
            exact ⟨by first | rfl | (simp [errW_none, errW_some] <;> rfl) | (simp [*, errW_none, errW_some] <;> rfl), by repeat (first | (with_reducible first | exact HB.out | apply below_alloc | apply pw_below_drewN | apply below_drew1) | exact HB.out)⟩
           ·replace c36 := Bool.eq_false_iff.mpr c36
            subst c36
            have H1 : ((when_Plus.f a4 a2).bind fun t448 => ((pools_Take.f kj33 l0 a4 t448 l3).bind fun bt449 => (if bt449.2 = 5 then (some true) else (some (bt449.2 == 4))))) = some r := by rw [if_neg (show ¬ (false = true) by decide)] at H; exact H
            clear H
            have H := H1
            clear H1
            replace H := Option.bind_eq_some_iff.mp H
            obtain ⟨t448, A370, H⟩ := H
            replace H : ((pools_Take.f kj33 l0 a4 t448 l3).bind fun bt449 => (if bt449.2 = 5 then (some true) else (some (bt449.2 == 4)))) = some r := H
            have A37 := Aside0.mk A370
            clear A370
            replace H := Option.bind_eq_some_iff.mp H
            obtain ⟨⟨t449, t450⟩, A380, H⟩ := H
            replace H : (if t450 = 5 then (some true) else (some (t450 == 4))) = some r := H
            have A38 := Aside0.mk A380
            clear A380
            by_cases c39 : t450 = 5
            ·rw [if_pos c39] at H
             have c39b0 : (t450 == 5) = true := beq_iff_eq.mpr c39
             have c39b1 : (t450 != 5) = false := bne_eq_false_iff_eq.mpr c39
             clear c39
             obtain rfl := Option.some.inj H
             go_wp2_with (first | ((with_reducible refine gate_callee (f := 20) rfl ?_); refine goesL_ (some 99) rfl rfl Try.func20 (by kernel_rfl) rfl #[.int .i64 a4, .int .i64 a2] rfl (by (try simp only [List.map_toArray, List.map_cons, List.map_nil]); first | done | rfl | (simp only [List.length_drop, List.length_take]; rfl)) ?_; (with_reducible refine (when_Plus.calls a4 a2 t448 _ A37.out).mono ?_); rintro e w40 ⟨rfl, hb⟩; refine ⟨_, rfl, ?_⟩; have n0_ := Aside0.mk (below_step (by repeat (first | (with_reducible first | exact HB.out | apply below_alloc | apply pw_below_drewN | apply below_drew1) | exact HB.out)) hb); clear HB; have HB := n0_; clear n0_; (try clear hb); (try clear hb2); (try clear hk); (try clear hi)) | ((with_reducible refine gate_callee (f := 42) rfl ?_); refine goesL_ (some 101) rfl rfl Try.func42 (by kernel_rfl) rfl #[.slice A0 l0.length c0, .int .i64 a4, .int .i64 t448, .slice A3 l3.length c3] rfl (by (try simp only [List.map_toArray, List.map_cons, List.map_nil]); first | done | rfl | (simp only [List.length_drop, List.length_take]; rfl)) ?_; (with_reducible refine (pools_Take.calls kj33 _ _ l0 a4 t448 _ _ l3 t449 t450 _ ?side1 ?side2 ?side3 ?side4 A38.out).mono ?_); (case side1 => repeat (first | exact (Kd.C_below HR0.out HB.out) | (with_reducible refine Kd.C_alloc ?_ _) | (with_reducible refine Kd.C_drewN ?_ _) | (with_reducible refine Kd.C_drew ?_))); (case side2 => exact HC0.out); (case side3 => repeat (first | exact (Kd.C_below HR3.out HB.out) | (with_reducible refine Kd.C_alloc ?_ _) | (with_reducible refine Kd.C_drewN ?_ _) | (with_reducible refine Kd.C_drew ?_))); (case side4 => exact HC3.out); rintro e w41 ⟨v451, rfl, ho0, hb⟩; refine ⟨_, rfl, ?_⟩; have n0_ := Aside0.mk (Kd.S_lower ho0 (below_size (by repeat (first | (with_reducible first | exact HB.out | apply below_alloc | apply pw_below_drewN | apply below_drew1) | exact HB.out)))); have n1_ := Aside0.mk (below_step (by repeat (first | (with_reducible first | exact HB.out | apply below_alloc | apply pw_below_drewN | apply below_drew1) | exact HB.out)) hb); clear HB; have HO452 := n0_; have HB := n1_; clear n0_ n1_; (try clear hb); (try clear hb2); (try clear hk); (try clear hi); (try clear ho0)))
             go_ret
             exact ⟨by first | rfl | (simp [errW_none, errW_some] <;> rfl) | (simp [*, errW_none, errW_some] <;> rfl), by repeat (first | (with_reducible first | exact HB.out | apply below_alloc | apply pw_below_drewN | apply below_drew1) | exact HB.out)⟩
            ·rw [if_neg c39] at H
             have c39b0 : (t450 == 5) = false := beq_eq_false_iff_ne.mpr c39
             have c39b1 : (t450 != 5) = true := bne_iff_ne.mpr c39
             obtain rfl := Option.some.inj H
             go_wp2_with (first | ((with_reducible refine gate_callee (f := 20) rfl ?_); refine goesL_ (some 99) rfl rfl Try.func20 (by kernel_rfl) rfl #[.int .i64 a4, .int .i64 a2] rfl (by (try simp only [List.map_toArray, List.map_cons, List.map_nil]); first | done | rfl | (simp only [List.length_drop, List.length_take]; rfl)) ?_; (with_reducible refine (when_Plus.calls a4 a2 t448 _ A37.out).mono ?_); rintro e w42 ⟨rfl, hb⟩; refine ⟨_, rfl, ?_⟩; have n0_ := Aside0.mk (below_step (by repeat (first | (with_reducible first | exact HB.out | apply below_alloc | apply pw_below_drewN | apply below_drew1) | exact HB.out)) hb); clear HB; have HB := n0_; clear n0_; (try clear hb); (try clear hb2); (try clear hk); (try clear hi)) | ((with_reducible refine gate_callee (f := 42) rfl ?_); refine goesL_ (some 101) rfl rfl Try.func42 (by kernel_rfl) rfl #[.slice A0 l0.length c0, .int .i64 a4, .int .i64 t448, .slice A3 l3.length c3] rfl (by (try simp only [List.map_toArray, List.map_cons, List.map_nil]); first | done | rfl | (simp only [List.length_drop, List.length_take]; rfl)) ?_; (with_reducible refine (pools_Take.calls kj33 _ _ l0 a4 t448 _ _ l3 t449 t450 _ ?side1 ?side2 ?side3 ?side4 A38.out).mono ?_); (case side1 => repeat (first | exact (Kd.C_below HR0.out HB.out) | (with_reducible refine Kd.C_alloc ?_ _) | (with_reducible refine Kd.C_drewN ?_ _) | (with_reducible refine Kd.C_drew ?_))); (case side2 => exact HC0.out); (case side3 => repeat (first | exact (Kd.C_below HR3.out HB.out) | (with_reducible refine Kd.C_alloc ?_ _) | (with_reducible refine Kd.C_drewN ?_ _) | (with_reducible refine Kd.C_drew ?_))); (case side4 => exact HC3.out); rintro e w43 ⟨v451, rfl, ho0, hb⟩; refine ⟨_, rfl, ?_⟩; have n0_ := Aside0.mk (Kd.S_lower ho0 (below_size (by repeat (first | (with_reducible first | exact HB.out | apply below_alloc | apply pw_below_drewN | apply below_drew1) | exact HB.out)))); have n1_ := Aside0.mk (below_step (by repeat (first | (with_reducible first | exact HB.out | apply below_alloc | apply pw_below_drewN | apply below_drew1) | exact HB.out)) hb); clear HB; have HO452 := n0_; have HB := n1_; clear n0_ n1_; (try clear hb); (try clear hb2); (try clear hk); (try clear hi); (try clear ho0)))
             go_ret
             exact ⟨by first | rfl | (simp [errW_none, errW_some] <;> rfl) | (simp [*, errW_none, errW_some] <;> rfl), by repeat (first | (with_reducible first | exact HB.out | apply below_alloc | apply pw_below_drewN | apply below_drew1) | exact HB.out)⟩
     ·replace c14 := Bool.eq_false_iff.mpr c14
      subst c14
      have H1 : (some (t435 == 0)) = some r := by rw [if_neg (show ¬ (false = true) by decide)] at H; exact H
      clear H
      have H := H1
      clear H1
      obtain rfl := Option.some.inj H
      go_wp2_with (first | ((with_reducible refine gate_callee (f := 40) rfl ?_); refine goesL_ (some 34) rfl rfl Try.func40 (by kernel_rfl) rfl #[.slice A0 l0.length c0, .int .i64 a1, .int .i64 a2, .slice A3 l3.length c3] rfl (by (try simp only [List.map_toArray, List.map_cons, List.map_nil]); first | done | rfl | (simp only [List.length_drop, List.length_take]; rfl)) ?_; (with_reducible refine (pools_First.calls kj7 _ _ l0 a1 a2 _ _ l3 t435 false _ ?side1 ?side2 ?side3 ?side4 A13.out).mono ?_); (case side1 => repeat (first | exact (Kd.C_below HR0.out HB.out) | (with_reducible refine Kd.C_alloc ?_ _) | (with_reducible refine Kd.C_drewN ?_ _) | (with_reducible refine Kd.C_drew ?_))); (case side2 => exact HC0.out); (case side3 => repeat (first | exact (Kd.C_below HR3.out HB.out) | (with_reducible refine Kd.C_alloc ?_ _) | (with_reducible refine Kd.C_drewN ?_ _) | (with_reducible refine Kd.C_drew ?_))); (case side4 => exact HC3.out); rintro e w44 ⟨rfl, hb⟩; refine ⟨_, rfl, ?_⟩; have n0_ := Aside0.mk (below_step (by repeat (first | (with_reducible first | exact HB.out | apply below_alloc | apply pw_below_drewN | apply below_drew1) | exact HB.out)) hb); clear HB; have HB := n0_; clear n0_; (try clear hb); (try clear hb2); (try clear hk); (try clear hi)))
      go_ret
      exact ⟨by first | rfl | (simp [errW_none, errW_some] <;> rfl) | (simp [*, errW_none, errW_some] <;> rfl), by repeat (first | (with_reducible first | exact HB.out | apply below_alloc | apply pw_below_drewN | apply below_drew1) | exact HB.out)⟩
 ·replace c7 := Bool.eq_false_iff.mpr c7
  subst c7
  have H1 : (some false) = some r := by rw [if_neg (show ¬ (false = true) by decide)] at H; exact H
  clear H
  have H := H1
  clear H1
  obtain rfl := Option.some.inj H
  go_enter Try.func12, Try.ntmps12
  go_wp2_with (first | ((with_reducible refine gate_callee (f := 34) rfl ?_); refine goesL_ (some 19) rfl rfl Try.func34 (by kernel_rfl) rfl #[] rfl (by (try simp only [List.map_toArray, List.map_cons, List.map_nil]); first | done | rfl | (simp only [List.length_drop, List.length_take]; rfl)) ?_; (with_reducible refine (bailiwicklaw04_awake.calls k  false _ A6.out).mono ?_); rintro e w45 ⟨rfl, hb⟩; refine ⟨_, rfl, ?_⟩; have n0_ := Aside0.mk (below_step (by repeat (first | (with_reducible first | exact HB.out | apply below_alloc | apply pw_below_drewN | apply below_drew1) | exact HB.out)) hb); clear HB; have HB := n0_; clear n0_; (try clear hb); (try clear hb2); (try clear hk); (try clear hi)))
  go_ret
  exact ⟨by first | rfl | (simp [errW_none, errW_some] <;> rfl) | (simp [*, errW_none, errW_some] <;> rfl), by repeat (first | (with_reducible first | exact HB.out | apply below_alloc | apply pw_below_drewN | apply below_drew1) | exact HB.out)⟩

/-- THE ONE PURE STATEMENT of bailiwicklaw04_PoolsFirst. -/
def bailiwicklaw04_PoolsFirst.Pure : Prop := ∀ (l0 : List (List (S45))) (a1 : Int) (a2 : Int) (l3 : List Int) (a4 : Int), (l0.length * 24 ≤ 140737488351232 ∧ l0.length ≤ maxLen ∧ ∀ x0_ ∈ l0, (x0_.length * 16 ≤ 140737488351232 ∧ x0_.length ≤ maxLen ∧ ∀ x1_ ∈ x0_, (((Lit.int .i64 x1_.f0).wf = true) ∧ ((Lit.int .i64 x1_.f1).wf = true)))) → (Lit.int .i64 a1).wf = true → (Lit.int .i64 a2).wf = true → (l3.length * 8 ≤ 140737488351232 ∧ l3.length ≤ maxLen ∧ ∀ x0_ ∈ l3, (Lit.int .i64 x0_).wf = true) → (Lit.int .i64 a4).wf = true → ∃ k, bailiwicklaw04_PoolsFirst.f k l0 a1 a2 l3 a4 = some true


end Go.Proofs.Ytimllhflecippaa.F
