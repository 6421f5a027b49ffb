-- Written by gprint.py (this repo's own driver over the kit's printer); Lean checks it.
import Derived.Test.YtimllhflecippaaF0
import Derived.Test.YtimllhflecippaaF2
import Derived.Test.YtimllhflecippaaF23
import Derived.Test.YtimllhflecippaaF26
import Derived.Test.YtimllhflecippaaF27
import Derived.Test.YtimllhflecippaaF29
import Derived.Test.YtimllhflecippaaF33
import Derived.Test.YtimllhflecippaaF34
namespace Go.Proofs.Ytimllhflecippaa.F
open Go.RowKit Go.Proofs.YtimllhflecippaaW.PrintWords Go.Proofs.YtimllhflecippaaW.PrintLast Go.Proofs.YtimllhflecippaaW.PrintMore
attribute [local go_sem] max2_int min2_int max_two min_two max_three min_three max_four min_four   -- for this text's walks alone
set_option linter.unusedVariables false
set_option linter.unusedSimpArgs false

/-! ### bailiwicklaw04_PoolsBack: function 13 -/
mutual
def bailiwicklaw04_PoolsBack.j0 : Nat → List (List (S45)) → Int → Int → List Int → Int → Bool → Option (Bool)
 | 0, _, _, _, _, _, _ => none
 | k + 1, x0, x1, x2, x3, x4, x28 => if x28 = true then (some true) else ((pools_Take.f k x0 x1 x2 x3).bind fun bt455 => (if bt455.2 = 0 then ((pools_Give.f k bt455.1 x1 x2 x3).bind fun bt460 => ((pools_At.f k x0 x4).bind fun t464 => ((pools_At.f k bt455.1 x4).bind fun t467 => (bailiwicklaw04_PoolsBack.l0 k x0 x1 x2 x3 x4 bt460.1 bt460.2 t464 t467 0)))) else ((bailiwickref04_Same.f k bt455.1 x0).bind fun t459 => (some t459))))
def bailiwicklaw04_PoolsBack.l0 : Nat → List (List (S45)) → Int → Int → List Int → Int → List (List (S45)) → Int → List Int → List Int → Int → Option (Bool)
 | 0, _, _, _, _, _, _, _, _, _, _ => none
 | k + 1, x0, x1, x2, x3, x4, x13, x14, x15, x16, x17 => if x17 < (x15.length : Int) then ((when_Right.f x4).bind fun t470 => (bailiwicklaw04_PoolsBack.j2 k x0 x1 x2 x3 x4 x13 x14 x15 x16 x17 t470)) else (bailiwicklaw04_PoolsBack.j2 k x0 x1 x2 x3 x4 x13 x14 x15 x16 x17 false)
def bailiwicklaw04_PoolsBack.j2 : Nat → List (List (S45)) → Int → Int → List Int → Int → List (List (S45)) → Int → List Int → List Int → Int → Bool → Option (Bool)
 | 0, _, _, _, _, _, _, _, _, _, _, _ => none
 | k + 1, x0, x1, x2, x3, x4, x13, x14, x15, x16, x17, x63 => if x63 = true then (if 0 ≤ x17 then (if x17 < (x15.length : Int) then (if x4 ≥ x1 then (bailiwicklaw04_PoolsBack.j3 k x0 x1 x2 x3 x4 x13 x14 x15 x16 x17 (rd x15 x17) (decide (x4 < x2))) else (bailiwicklaw04_PoolsBack.j3 k x0 x1 x2 x3 x4 x13 x14 x15 x16 x17 (rd x15 x17) false)) else (none)) else (none)) else (if x14 = 0 then ((bailiwickref04_Same.f k x13 x0).bind fun t471 => (if t471 = true then (if (x15.length : Int) = (x0.length : Int) then (some ((x16.length : Int) == (x0.length : Int))) else (some false)) else (some false))) else (some false))
def bailiwicklaw04_PoolsBack.j3 : Nat → List (List (S45)) → Int → Int → List Int → Int → List (List (S45)) → Int → List Int → List Int → Int → Int → Bool → Option (Bool)
 | 0, _, _, _, _, _, _, _, _, _, _, _, _ => none
 | k + 1, x0, x1, x2, x3, x4, x13, x14, x15, x16, x17, x18, x77 => if x77 = true then (if 0 ≤ x17 then (if x17 < (x3.length : Int) then (if x17 < (x16.length : Int) then (if (rd x16 x17) = (wrap64 (x18 - (rd x3 x17))) then (bailiwicklaw04_PoolsBack.l0 k x0 x1 x2 x3 x4 x13 x14 x15 x16 (wrap64 (x17 + 1))) else (some false)) else (none)) else (none)) else (none)) else (if 0 ≤ x17 then (if x17 < (x16.length : Int) then (if (rd x16 x17) = x18 then (bailiwicklaw04_PoolsBack.l0 k x0 x1 x2 x3 x4 x13 x14 x15 x16 (wrap64 (x17 + 1))) else (some false)) else (none)) else (none))
end
def bailiwicklaw04_PoolsBack.f (k : Nat) (l0 : List (List (S45))) (a1 : Int) (a2 : Int) (l3 : List Int) (a4 : Int) : Option (Bool) := (bailiwicklaw04_awake.f k).bind fun t453 => (if t453 = true then ((bailiwicklaw04_short.f k l0).bind fun t454 => (if t454 = true then (bailiwicklaw04_PoolsBack.j0 k l0 a1 a2 l3 a4 (decide ((l3.length : Int) > 10))) else (bailiwicklaw04_PoolsBack.j0 k l0 a1 a2 l3 a4 true))) else (some false))
theorem bailiwicklaw04_PoolsBack.mono_l : ∀ k, (∀ y0 y1 y2 y3 y4 y5, LeO (bailiwicklaw04_PoolsBack.j0 k y0 y1 y2 y3 y4 y5) (bailiwicklaw04_PoolsBack.j0 (k + 1) y0 y1 y2 y3 y4 y5)) ∧ (∀ y0 y1 y2 y3 y4 y5 y6 y7 y8 y9, LeO (bailiwicklaw04_PoolsBack.l0 k y0 y1 y2 y3 y4 y5 y6 y7 y8 y9) (bailiwicklaw04_PoolsBack.l0 (k + 1) y0 y1 y2 y3 y4 y5 y6 y7 y8 y9)) ∧ (∀ y0 y1 y2 y3 y4 y5 y6 y7 y8 y9 y10, LeO (bailiwicklaw04_PoolsBack.j2 k y0 y1 y2 y3 y4 y5 y6 y7 y8 y9 y10) (bailiwicklaw04_PoolsBack.j2 (k + 1) y0 y1 y2 y3 y4 y5 y6 y7 y8 y9 y10)) ∧ (∀ y0 y1 y2 y3 y4 y5 y6 y7 y8 y9 y10 y11, LeO (bailiwicklaw04_PoolsBack.j3 k y0 y1 y2 y3 y4 y5 y6 y7 y8 y9 y10 y11) (bailiwicklaw04_PoolsBack.j3 (k + 1) y0 y1 y2 y3 y4 y5 y6 y7 y8 y9 y10 y11))
 | 0 => ⟨fun _ _ _ _ _ _ r h => by simp [bailiwicklaw04_PoolsBack.j0] at h, fun _ _ _ _ _ _ _ _ _ _ r h => by simp [bailiwicklaw04_PoolsBack.l0] at h, fun _ _ _ _ _ _ _ _ _ _ _ r h => by simp [bailiwicklaw04_PoolsBack.j2] at h, fun _ _ _ _ _ _ _ _ _ _ _ _ r h => by simp [bailiwicklaw04_PoolsBack.j3] at h⟩
 | k + 1 => by
  obtain ⟨ih0, ih1, ih2, ih3⟩ := bailiwicklaw04_PoolsBack.mono_l k
  refine ⟨?_, ?_, ?_, ?_⟩
  ·intro y0 y1 y2 y3 y4 y5
   unfold bailiwicklaw04_PoolsBack.j0
   repeat' first
   | (with_reducible exact ih0 _ _ _ _ _ _)
   | (with_reducible exact ih1 _ _ _ _ _ _ _ _ _ _)
   | (with_reducible exact ih2 _ _ _ _ _ _ _ _ _ _ _)
   | (with_reducible exact ih3 _ _ _ _ _ _ _ _ _ _ _ _)
   | (with_reducible exact bailiwicklaw04_awake.mono _)
   | (with_reducible exact bailiwicklaw04_short.mono _ _)
   | (with_reducible exact bailiwickref04_Same.mono _ _ _)
   | (with_reducible exact pools_At.mono _ _ _)
   | (with_reducible exact pools_Give.mono _ _ _ _ _)
   | (with_reducible exact pools_Take.mono _ _ _ _ _)
   | (with_reducible exact LeO.refl _)
   | (with_reducible exact LeO.none _)
   | (with_reducible refine LeO.ite ?_ ?_)
   | (with_reducible refine LeO.bind ?_ (fun _ => ?_))
   | exact ih0 _ _ _ _ _ _
   | exact ih1 _ _ _ _ _ _ _ _ _ _
   | exact ih2 _ _ _ _ _ _ _ _ _ _ _
   | exact ih3 _ _ _ _ _ _ _ _ _ _ _ _
   | exact bailiwicklaw04_awake.mono _
   | exact bailiwicklaw04_short.mono _ _
   | exact bailiwickref04_Same.mono _ _ _
   | exact pools_At.mono _ _ _
   | exact pools_Give.mono _ _ _ _ _
   | exact pools_Take.mono _ _ _ _ _
   | exact LeO.none _
   | refine LeO.ite ?_ ?_
   | refine LeO.bind ?_ (fun _ => ?_)
  ·intro y0 y1 y2 y3 y4 y5 y6 y7 y8 y9
   unfold bailiwicklaw04_PoolsBack.l0
   repeat' first
   | (with_reducible exact ih0 _ _ _ _ _ _)
   | (with_reducible exact ih1 _ _ _ _ _ _ _ _ _ _)
   | (with_reducible exact ih2 _ _ _ _ _ _ _ _ _ _ _)
   | (with_reducible exact ih3 _ _ _ _ _ _ _ _ _ _ _ _)
   | (with_reducible exact bailiwicklaw04_awake.mono _)
   | (with_reducible exact bailiwicklaw04_short.mono _ _)
   | (with_reducible exact bailiwickref04_Same.mono _ _ _)
   | (with_reducible exact pools_At.mono _ _ _)
   | (with_reducible exact pools_Give.mono _ _ _ _ _)
   | (with_reducible exact pools_Take.mono _ _ _ _ _)
   | (with_reducible exact LeO.refl _)
   | (with_reducible exact LeO.none _)
   | (with_reducible refine LeO.ite ?_ ?_)
   | (with_reducible refine LeO.bind ?_ (fun _ => ?_))
   | exact ih0 _ _ _ _ _ _
   | exact ih1 _ _ _ _ _ _ _ _ _ _
   | exact ih2 _ _ _ _ _ _ _ _ _ _ _
   | exact ih3 _ _ _ _ _ _ _ _ _ _ _ _
   | exact bailiwicklaw04_awake.mono _
   | exact bailiwicklaw04_short.mono _ _
   | exact bailiwickref04_Same.mono _ _ _
   | exact pools_At.mono _ _ _
   | exact pools_Give.mono _ _ _ _ _
   | exact pools_Take.mono _ _ _ _ _
   | exact LeO.none _
   | refine LeO.ite ?_ ?_
   | refine LeO.bind ?_ (fun _ => ?_)
  ·intro y0 y1 y2 y3 y4 y5 y6 y7 y8 y9 y10
   unfold bailiwicklaw04_PoolsBack.j2
   repeat' first
   | (with_reducible exact ih0 _ _ _ _ _ _)
   | (with_reducible exact ih1 _ _ _ _ _ _ _ _ _ _)
   | (with_reducible exact ih2 _ _ _ _ _ _ _ _ _ _ _)
   | (with_reducible exact ih3 _ _ _ _ _ _ _ _ _ _ _ _)
   | (with_reducible exact bailiwicklaw04_awake.mono _)
   | (with_reducible exact bailiwicklaw04_short.mono _ _)
   | (with_reducible exact bailiwickref04_Same.mono _ _ _)
   | (with_reducible exact pools_At.mono _ _ _)
   | (with_reducible exact pools_Give.mono _ _ _ _ _)
   | (with_reducible exact pools_Take.mono _ _ _ _ _)
   | (with_reducible exact LeO.refl _)
   | (with_reducible exact LeO.none _)
   | (with_reducible refine LeO.ite ?_ ?_)
   | (with_reducible refine LeO.bind ?_ (fun _ => ?_))
   | exact ih0 _ _ _ _ _ _
   | exact ih1 _ _ _ _ _ _ _ _ _ _
   | exact ih2 _ _ _ _ _ _ _ _ _ _ _
   | exact ih3 _ _ _ _ _ _ _ _ _ _ _ _
   | exact bailiwicklaw04_awake.mono _
   | exact bailiwicklaw04_short.mono _ _
   | exact bailiwickref04_Same.mono _ _ _
   | exact pools_At.mono _ _ _
   | exact pools_Give.mono _ _ _ _ _
   | exact pools_Take.mono _ _ _ _ _
   | exact LeO.none _
   | refine LeO.ite ?_ ?_
   | refine LeO.bind ?_ (fun _ => ?_)
  ·intro y0 y1 y2 y3 y4 y5 y6 y7 y8 y9 y10 y11
   unfold bailiwicklaw04_PoolsBack.j3
   repeat' first
   | (with_reducible exact ih0 _ _ _ _ _ _)
   | (with_reducible exact ih1 _ _ _ _ _ _ _ _ _ _)
   | (with_reducible exact ih2 _ _ _ _ _ _ _ _ _ _ _)
   | (with_reducible exact ih3 _ _ _ _ _ _ _ _ _ _ _ _)
   | (with_reducible exact bailiwicklaw04_awake.mono _)
   | (with_reducible exact bailiwicklaw04_short.mono _ _)
   | (with_reducible exact bailiwickref04_Same.mono _ _ _)
   | (with_reducible exact pools_At.mono _ _ _)
   | (with_reducible exact pools_Give.mono _ _ _ _ _)
   | (with_reducible exact pools_Take.mono _ _ _ _ _)
   | (with_reducible exact LeO.refl _)
   | (with_reducible exact LeO.none _)
   | (with_reducible refine LeO.ite ?_ ?_)
   | (with_reducible refine LeO.bind ?_ (fun _ => ?_))
   | exact ih0 _ _ _ _ _ _
   | exact ih1 _ _ _ _ _ _ _ _ _ _
   | exact ih2 _ _ _ _ _ _ _ _ _ _ _
   | exact ih3 _ _ _ _ _ _ _ _ _ _ _ _
   | exact bailiwicklaw04_awake.mono _
   | exact bailiwicklaw04_short.mono _ _
   | exact bailiwickref04_Same.mono _ _ _
   | exact pools_At.mono _ _ _
   | exact pools_Give.mono _ _ _ _ _
   | exact pools_Take.mono _ _ _ _ _
   | exact LeO.none _
   | refine LeO.ite ?_ ?_
   | refine LeO.bind ?_ (fun _ => ?_)
theorem bailiwicklaw04_PoolsBack.mono : ∀ a0 a1 a2 a3 a4 k, LeO (bailiwicklaw04_PoolsBack.f k a0 a1 a2 a3 a4) (bailiwicklaw04_PoolsBack.f (k + 1) a0 a1 a2 a3 a4) := by
 intro a0 a1 a2 a3 a4 k
 obtain ⟨ih0, ih1, ih2, ih3⟩ := bailiwicklaw04_PoolsBack.mono_l k
 unfold bailiwicklaw04_PoolsBack.f
 repeat' first
   | (with_reducible exact ih0 _ _ _ _ _ _)
   | (with_reducible exact ih1 _ _ _ _ _ _ _ _ _ _)
   | (with_reducible exact ih2 _ _ _ _ _ _ _ _ _ _ _)
   | (with_reducible exact ih3 _ _ _ _ _ _ _ _ _ _ _ _)
   | (with_reducible exact bailiwicklaw04_awake.mono _)
   | (with_reducible exact bailiwicklaw04_short.mono _ _)
   | (with_reducible exact bailiwickref04_Same.mono _ _ _)
   | (with_reducible exact pools_At.mono _ _ _)
   | (with_reducible exact pools_Give.mono _ _ _ _ _)
   | (with_reducible exact pools_Take.mono _ _ _ _ _)
   | (with_reducible exact LeO.refl _)
   | (with_reducible exact LeO.none _)
   | (with_reducible refine LeO.ite ?_ ?_)
   | (with_reducible refine LeO.bind ?_ (fun _ => ?_))
   | exact ih0 _ _ _ _ _ _
   | exact ih1 _ _ _ _ _ _ _ _ _ _
   | exact ih2 _ _ _ _ _ _ _ _ _ _ _
   | exact ih3 _ _ _ _ _ _ _ _ _ _ _ _
   | exact bailiwicklaw04_awake.mono _
   | exact bailiwicklaw04_short.mono _ _
   | exact bailiwickref04_Same.mono _ _ _
   | exact pools_At.mono _ _ _
   | exact pools_Give.mono _ _ _ _ _
   | exact pools_Take.mono _ _ _ _ _
   | exact LeO.none _
   | refine LeO.ite ?_ ?_
   | refine LeO.bind ?_ (fun _ => ?_)
set_option maxHeartbeats 8000000 in
set_option maxRecDepth 100000 in
theorem bailiwicklaw04_PoolsBack.calls (k : Nat) (A0 : Option Addr) (c0 : Nat) (l0 : List (List (S45))) (a1 : Int) (a2 : Int) (A3 : Option Addr) (c3 : Nat) (l3 : List Int) (a4 : Int) (r : Bool) (w : World) (hr0 : Kd.C (Kd.slice 45 k45) w A0 l0.length l0) (hc0 : l0.length ≤ c0) (hr3 : Kd.C (Kd.int .i64) w A3 l3.length l3) (hc3 : l3.length ≤ c3) (h : bailiwicklaw04_PoolsBack.f k l0 a1 a2 l3 a4 = some r) :
  Calls Try.prog 13 #[.slice A0 l0.length c0, .int .i64 a1, .int .i64 a2, .slice A3 l3.length c3, .int .i64 a4] w fun e w' => e = .returned (.bool r) ∧ Below w.heap.size w w' := by
 have HR0 := Aside0.mk hr0
 have HC0 := Aside0.mk hc0
 clear hr0 hc0
 have HR3 := Aside0.mk hr3
 have HC3 := Aside0.mk hc3
 clear hr3 hc3
 have HB := Aside0.mk (Below.refl w.heap.size w)
 have H : ((bailiwicklaw04_awake.f k).bind fun t453 => (if t453 = true then ((bailiwicklaw04_short.f k l0).bind fun t454 => (if t454 = true then (bailiwicklaw04_PoolsBack.j0 k l0 a1 a2 l3 a4 (decide ((l3.length : Int) > 10))) else (bailiwicklaw04_PoolsBack.j0 k l0 a1 a2 l3 a4 true))) else (some false))) = some r := h
 clear h
 replace H := Option.bind_eq_some_iff.mp H
 obtain ⟨t453, A60, H⟩ := H
 replace H : (if t453 = true then ((bailiwicklaw04_short.f k l0).bind fun t454 => (if t454 = true then (bailiwicklaw04_PoolsBack.j0 k l0 a1 a2 l3 a4 (decide ((l3.length : Int) > 10))) else (bailiwicklaw04_PoolsBack.j0 k l0 a1 a2 l3 a4 true))) else (some false)) = some r := H
 have A6 := Aside0.mk A60
 clear A60
 by_cases c7 : t453 = true
 ·subst c7
  have H1 : ((bailiwicklaw04_short.f k l0).bind fun t454 => (if t454 = true then (bailiwicklaw04_PoolsBack.j0 k l0 a1 a2 l3 a4 (decide ((l3.length : Int) > 10))) else (bailiwicklaw04_PoolsBack.j0 k l0 a1 a2 l3 a4 true))) = some r := by rw [if_pos rfl] at H; exact H
  clear H
  have H := H1
  clear H1
  have HC8 := Aside0.mk H
  clear H
  go_enter Try.func13, Try.ntmps13
  go_upto_region 3 with (first | ((with_reducible refine gate_callee (f := 34) rfl ?_); refine goesL_ (some 19) rfl rfl Try.func34 (by kernel_rfl) rfl #[] rfl (by (try simp only [List.map_toArray, List.map_cons, List.map_nil]); first | done | rfl | (simp only [List.length_drop, List.length_take]; rfl)) ?_; (with_reducible refine (bailiwicklaw04_awake.calls k  true _ A6.out).mono ?_); rintro e w9 ⟨rfl, hb⟩; refine ⟨_, rfl, ?_⟩; have n0_ := Aside0.mk (below_step (by repeat (first | (with_reducible first | exact HB.out | apply below_alloc | apply pw_below_drewN | apply below_drew1) | exact HB.out)) hb); clear HB; have HB := n0_; clear n0_; (try clear hb); (try clear hb2); (try clear hk); (try clear hi)))
  (try simp only [Act.put, List.setIfInBounds_toArray, List.set_cons_zero, List.set_cons_succ])
  go_cut [28] (fun v28 wc => ∃ (kq : Nat) (x28_7 : Bool), v28 = .bool x28_7 ∧ Aside0 (bailiwicklaw04_PoolsBack.j0 kq l0 a1 a2 l3 a4 x28_7 = some r) ∧ Aside0 (kq ≤ k) ∧ Aside0 (Below w.heap.size w wc))
  case first =>
   have H := HC8.out
   clear HC8
   replace H := Option.bind_eq_some_iff.mp H
   obtain ⟨t454, A100, H⟩ := H
   replace H : (if t454 = true then (bailiwicklaw04_PoolsBack.j0 k l0 a1 a2 l3 a4 (decide ((l3.length : Int) > 10))) else (bailiwicklaw04_PoolsBack.j0 k l0 a1 a2 l3 a4 true)) = some r := H
   have A10 := Aside0.mk A100
   clear A100
   by_cases c11 : t454 = true
   ·subst c11
    have H1 : (bailiwicklaw04_PoolsBack.j0 k l0 a1 a2 l3 a4 (decide ((l3.length : Int) > 10))) = some r := by rw [if_pos rfl] at H; exact H
    clear H
    have H := H1
    clear H1
    have H' := Aside0.mk H
    clear H
    go_wp2_with (first | ((with_reducible refine gate_callee (f := 39) rfl ?_); refine goesL_ (some 22) rfl rfl Try.func39 (by kernel_rfl) rfl #[.slice A0 l0.length c0] rfl (by (try simp only [List.map_toArray, List.map_cons, List.map_nil]); first | done | rfl | (simp only [List.length_drop, List.length_take]; rfl)) ?_; (with_reducible refine (bailiwicklaw04_short.calls k _ _ l0 true _ ?side1 ?side2 A10.out).mono ?_); (case side1 => repeat (first | exact (Kd.C_below HR0.out HB.out) | (with_reducible refine Kd.C_alloc ?_ _) | (with_reducible refine Kd.C_drewN ?_ _) | (with_reducible refine Kd.C_drew ?_))); (case side2 => exact HC0.out); rintro e w' ⟨rfl, ⟨nd, rfl⟩⟩; refine ⟨_, rfl, ?_⟩))
    go_meet
    case rel => exact ⟨_, (decide ((l3.length : Int) > 10)), (by first | rfl | (simp; done) | (simp [*]; done)), H', ⟨by first | omega | exact Nat.le_refl _⟩, ⟨by repeat (first | (with_reducible first | exact HB.out | apply below_alloc | apply pw_below_drewN | apply below_drew1) | exact HB.out)⟩⟩
   ·replace c11 := Bool.eq_false_iff.mpr c11
    subst c11
    have H1 : (bailiwicklaw04_PoolsBack.j0 k l0 a1 a2 l3 a4 true) = some r := by rw [if_neg (show ¬ (false = true) by decide)] at H; exact H
    clear H
    have H := H1
    clear H1
    have H' := Aside0.mk H
    clear H
    go_wp2_with (first | ((with_reducible refine gate_callee (f := 39) rfl ?_); refine goesL_ (some 22) rfl rfl Try.func39 (by kernel_rfl) rfl #[.slice A0 l0.length c0] rfl (by (try simp only [List.map_toArray, List.map_cons, List.map_nil]); first | done | rfl | (simp only [List.length_drop, List.length_take]; rfl)) ?_; (with_reducible refine (bailiwicklaw04_short.calls k _ _ l0 false _ ?side1 ?side2 A10.out).mono ?_); (case side1 => repeat (first | exact (Kd.C_below HR0.out HB.out) | (with_reducible refine Kd.C_alloc ?_ _) | (with_reducible refine Kd.C_drewN ?_ _) | (with_reducible refine Kd.C_drew ?_))); (case side2 => exact HC0.out); rintro e w' ⟨rfl, ⟨nd, rfl⟩⟩; refine ⟨_, rfl, ?_⟩))
    go_meet
    case rel => exact ⟨_, (true), (by first | rfl | (simp; done) | (simp [*]; done)), H', ⟨by first | omega | exact Nat.le_refl _⟩, ⟨by repeat (first | (with_reducible first | exact HB.out | apply below_alloc | apply pw_below_drewN | apply below_drew1) | exact HB.out)⟩⟩
  case rest =>
   clear HC8
   try clear c1
   try clear p2
   try clear c3
   try clear c7
   try clear c11
   obtain ⟨kq, x28_7, rfl, HA, HJ7, HB⟩ := hcut
   cases kq with
   | zero => exact absurd HA.out (by simp [bailiwicklaw04_PoolsBack.j0])
   | succ kj7 =>
    have H := HA.out
    clear HA
    simp only [bailiwicklaw04_PoolsBack.j0] at H
    by_cases c12 : x28_7 = true
    ·subst c12
     have H1 : (some true) = some r := by rw [if_pos rfl] at H; exact H
     clear H
     have H := H1
     clear H1
     obtain rfl := Option.some.inj H
     go_wp2
     go_ret
     exact ⟨by first | rfl | (simp [errW_none, errW_some] <;> rfl) | (simp [*, errW_none, errW_some] <;> rfl), by repeat (first | (with_reducible first | exact HB.out | apply below_alloc | apply pw_below_drewN | apply below_drew1) | exact HB.out)⟩
    ·replace c12 := Bool.eq_false_iff.mpr c12
     subst c12
     have H1 : ((pools_Take.f kj7 l0 a1 a2 l3).bind fun bt455 => (if bt455.2 = 0 then ((pools_Give.f kj7 bt455.1 a1 a2 l3).bind fun bt460 => ((pools_At.f kj7 l0 a4).bind fun t464 => ((pools_At.f kj7 bt455.1 a4).bind fun t467 => (bailiwicklaw04_PoolsBack.l0 kj7 l0 a1 a2 l3 a4 bt460.1 bt460.2 t464 t467 0)))) else ((bailiwickref04_Same.f kj7 bt455.1 l0).bind fun t459 => (some t459)))) = some r := by rw [if_neg (show ¬ (false = true) by decide)] at H; exact H
     clear H
     have H := H1
     clear H1
     replace H := Option.bind_eq_some_iff.mp H
     obtain ⟨⟨t455, t456⟩, A130, H⟩ := H
     replace H : (if t456 = 0 then ((pools_Give.f kj7 t455 a1 a2 l3).bind fun bt460 => ((pools_At.f kj7 l0 a4).bind fun t464 => ((pools_At.f kj7 t455 a4).bind fun t467 => (bailiwicklaw04_PoolsBack.l0 kj7 l0 a1 a2 l3 a4 bt460.1 bt460.2 t464 t467 0)))) else ((bailiwickref04_Same.f kj7 t455 l0).bind fun t459 => (some t459))) = some r := H
     have A13 := Aside0.mk A130
     clear A130
     by_cases c14 : t456 = 0
     ·rw [if_pos c14] at H
      have c14b0 : (t456 == 0) = true := beq_iff_eq.mpr c14
      have c14b1 : (t456 != 0) = false := bne_eq_false_iff_eq.mpr c14
      clear c14
      replace H := Option.bind_eq_some_iff.mp H
      obtain ⟨⟨t460, t461⟩, A150, H⟩ := H
      replace H : ((pools_At.f kj7 l0 a4).bind fun t464 => ((pools_At.f kj7 t455 a4).bind fun t467 => (bailiwicklaw04_PoolsBack.l0 kj7 l0 a1 a2 l3 a4 t460 t461 t464 t467 0))) = some r := H
      have A15 := Aside0.mk A150
      clear A150
      replace H := Option.bind_eq_some_iff.mp H
      obtain ⟨t464, A160, H⟩ := H
      replace H : ((pools_At.f kj7 t455 a4).bind fun t467 => (bailiwicklaw04_PoolsBack.l0 kj7 l0 a1 a2 l3 a4 t460 t461 t464 t467 0)) = some r := H
      have A16 := Aside0.mk A160
      clear A160
      replace H := Option.bind_eq_some_iff.mp H
      obtain ⟨t467, A170, H⟩ := H
      replace H : (bailiwicklaw04_PoolsBack.l0 kj7 l0 a1 a2 l3 a4 t460 t461 t464 t467 0) = some r := H
      have A17 := Aside0.mk A170
      clear A170
      have H' := Aside0.mk H
      clear H
      go_wp2_with (first | ((with_reducible refine gate_callee (f := 42) rfl ?_); refine goesL_ (some 34) rfl rfl Try.func42 (by kernel_rfl) rfl #[.slice A0 l0.length c0, .int .i64 a1, .int .i64 a2, .slice A3 l3.length c3] rfl (by (try simp only [List.map_toArray, List.map_cons, List.map_nil]); first | done | rfl | (simp only [List.length_drop, List.length_take]; rfl)) ?_; (with_reducible refine (pools_Take.calls kj7 _ _ l0 a1 a2 _ _ l3 t455 t456 _ ?side1 ?side2 ?side3 ?side4 A13.out).mono ?_); (case side1 => repeat (first | exact (Kd.C_below HR0.out HB.out) | (with_reducible refine Kd.C_alloc ?_ _) | (with_reducible refine Kd.C_drewN ?_ _) | (with_reducible refine Kd.C_drew ?_))); (case side2 => exact HC0.out); (case side3 => repeat (first | exact (Kd.C_below HR3.out HB.out) | (with_reducible refine Kd.C_alloc ?_ _) | (with_reducible refine Kd.C_drewN ?_ _) | (with_reducible refine Kd.C_drew ?_))); (case side4 => exact HC3.out); rintro e w18 ⟨v457, rfl, ho0, hb⟩; refine ⟨_, rfl, ?_⟩; have n0_ := Aside0.mk (Kd.S_lower ho0 (below_size (by repeat (first | (with_reducible first | exact HB.out | apply below_alloc | apply pw_below_drewN | apply below_drew1) | exact HB.out)))); have n1_ := Aside0.mk (below_step (by repeat (first | (with_reducible first | exact HB.out | apply below_alloc | apply pw_below_drewN | apply below_drew1) | exact HB.out)) hb); clear HB; have HO458 := n0_; have HB := n1_; clear n0_ n1_; (try clear hb); (try clear hb2); (try clear hk); (try clear hi); (try clear ho0); obtain ⟨Ao19, co19, eo19⟩ := Kd.S_slice HO458.out; subst eo19) | ((with_reducible refine gate_callee (f := 44) rfl ?_); refine goesL_ (some 47) rfl rfl Try.func44 (by kernel_rfl) rfl #[.slice Ao19 t455.length co19, .int .i64 a1, .int .i64 a2, .slice A3 l3.length c3] rfl (by (try simp only [List.map_toArray, List.map_cons, List.map_nil]); first | done | rfl | (simp only [List.length_drop, List.length_take]; rfl)) ?_; (with_reducible refine (pools_Give.calls kj7 _ _ t455 a1 a2 _ _ l3 t460 t461 _ ?side1 ?side2 ?side3 ?side4 A15.out).mono ?_); (case side1 => repeat (first | exact (Kd.S_reads' HO458.out).2.2 | (with_reducible refine Kd.C_alloc ?_ _) | (with_reducible refine Kd.C_drewN ?_ _) | (with_reducible refine Kd.C_drew ?_))); (case side2 => exact (Kd.S_reads' HO458.out).2.1); (case side3 => repeat (first | exact (Kd.C_below HR3.out HB.out) | (with_reducible refine Kd.C_alloc ?_ _) | (with_reducible refine Kd.C_drewN ?_ _) | (with_reducible refine Kd.C_drew ?_))); (case side4 => exact HC3.out); rintro e w20 ⟨v462, rfl, ho0, hb⟩; refine ⟨_, rfl, ?_⟩; have n0_ := Aside0.mk (Kd.S_elder' (by (with_reducible repeat (first | apply Kd.S_alloc | apply Kd.S_drewN | apply Kd.S_drew)); exact HO458.out) (Kd.S_base ho0) hb); have n1_ := Aside0.mk (Kd.S_lower (Kd.S_new' ho0 (Kd.S_lt (by (with_reducible repeat (first | apply Kd.S_alloc | apply Kd.S_drewN | apply Kd.S_drew)); exact HO458.out))) (below_size (by repeat (first | (with_reducible first | exact HB.out | apply below_alloc | apply pw_below_drewN | apply below_drew1) | exact HB.out)))); have n2_ := Aside0.mk (below_step (by repeat (first | (with_reducible first | exact HB.out | apply below_alloc | apply pw_below_drewN | apply below_drew1) | exact HB.out)) hb); clear HO458; clear HB; have HO458 := n0_; have HO463 := n1_; have HB := n2_; clear n0_ n1_ n2_; (try clear hb); (try clear hb2); (try clear hk); (try clear hi); (try clear ho0)) | ((with_reducible refine gate_callee (f := 38) rfl ?_); refine goesL_ (some 52) rfl rfl Try.func38 (by kernel_rfl) rfl #[.slice A0 l0.length c0, .int .i64 a4] rfl (by (try simp only [List.map_toArray, List.map_cons, List.map_nil]); first | done | rfl | (simp only [List.length_drop, List.length_take]; rfl)) ?_; (with_reducible refine (pools_At.calls kj7 _ _ l0 a4 t464 _ ?side1 ?side2 A16.out).mono ?_); (case side1 => repeat (first | exact (Kd.C_below HR0.out HB.out) | (with_reducible refine Kd.C_alloc ?_ _) | (with_reducible refine Kd.C_drewN ?_ _) | (with_reducible refine Kd.C_drew ?_))); (case side2 => exact HC0.out); rintro e w21 ⟨v465, rfl, ho0, hb⟩; refine ⟨_, rfl, ?_⟩; have n0_ := Aside0.mk (Kd.S_below (by (with_reducible repeat (first | apply Kd.S_alloc | apply Kd.S_drewN | apply Kd.S_drew)); exact HO458.out) hb); have n1_ := Aside0.mk (Kd.S_below (by (with_reducible repeat (first | apply Kd.S_alloc | apply Kd.S_drewN | apply Kd.S_drew)); exact HO463.out) hb); have n2_ := Aside0.mk (Kd.R_lower ho0 (below_size (by repeat (first | (with_reducible first | exact HB.out | apply below_alloc | apply pw_below_drewN | apply below_drew1) | exact HB.out)))); have n3_ := Aside0.mk (below_step (by repeat (first | (with_reducible first | exact HB.out | apply below_alloc | apply pw_below_drewN | apply below_drew1) | exact HB.out)) hb); clear HO458; clear HO463; clear HB; have HO458 := n0_; have HO463 := n1_; have HO466 := n2_; have HB := n3_; clear n0_ n1_ n2_ n3_; (try clear hb); (try clear hb2); (try clear hk); (try clear hi); (try clear ho0)) | ((with_reducible refine gate_callee (f := 38) rfl ?_); refine goesL_ (some 55) rfl rfl Try.func38 (by kernel_rfl) rfl #[.slice Ao19 t455.length co19, .int .i64 a4] rfl (by (try simp only [List.map_toArray, List.map_cons, List.map_nil]); first | done | rfl | (simp only [List.length_drop, List.length_take]; rfl)) ?_; (with_reducible refine (pools_At.calls kj7 _ _ t455 a4 t467 _ ?side1 ?side2 A17.out).mono ?_); (case side1 => repeat (first | exact (Kd.S_reads' HO458.out).2.2 | (with_reducible refine Kd.C_alloc ?_ _) | (with_reducible refine Kd.C_drewN ?_ _) | (with_reducible refine Kd.C_drew ?_))); (case side2 => exact (Kd.S_reads' HO458.out).2.1); rintro e w22 ⟨v468, rfl, ho0, hb⟩; refine ⟨_, rfl, ?_⟩; have n0_ := Aside0.mk (Kd.S_below (by (with_reducible repeat (first | apply Kd.S_alloc | apply Kd.S_drewN | apply Kd.S_drew)); exact HO458.out) hb); have n1_ := Aside0.mk (Kd.S_below (by (with_reducible repeat (first | apply Kd.S_alloc | apply Kd.S_drewN | apply Kd.S_drew)); exact HO463.out) hb); have n2_ := Aside0.mk (Kd.R_elder' (by (with_reducible repeat (first | apply Kd.R_alloc | apply Kd.R_drewN | apply Kd.R_drew)); exact HO466.out) (Kd.R_base ho0) hb); have n3_ := Aside0.mk (Kd.R_lower (Kd.R_new' ho0 (Kd.R_lt (by (with_reducible repeat (first | apply Kd.R_alloc | apply Kd.R_drewN | apply Kd.R_drew)); exact HO466.out))) (below_size (by repeat (first | (with_reducible first | exact HB.out | apply below_alloc | apply pw_below_drewN | apply below_drew1) | exact HB.out)))); have n4_ := Aside0.mk (below_step (by repeat (first | (with_reducible first | exact HB.out | apply below_alloc | apply pw_below_drewN | apply below_drew1) | exact HB.out)) hb); clear HO458; clear HO463; clear HO466; clear HB; have HO458 := n0_; have HO463 := n1_; have HO466 := n2_; have HO469 := n3_; have HB := n4_; clear n0_ n1_ n2_ n3_ n4_; (try clear hb); (try clear hb2); (try clear hk); (try clear hi); (try clear ho0)))
      go_loopg [17] kj7 (fun kq v17 w' => ∃ (x17_2 : Int), v17 = .int .i64 x17_2 ∧ Aside0 (bailiwicklaw04_PoolsBack.l0 kq l0 a1 a2 l3 a4 t460 t461 t464 t467 x17_2 = some r) ∧ Aside0 (kq ≤ kj7) ∧ Aside0 (Kd.S (Kd.slice 45 k45) 22 w' w.heap.size (fun _ => True) v462 t460) ∧ Aside0 (Kd.R (Kd.int .i64) 3 w' w.heap.size (fun k_ => some k_ ≠ (v468 : Value).ownBlock) v465 t464) ∧ Aside0 (Kd.R (Kd.int .i64) 3 w' w.heap.size (fun k_ => some k_ ≠ (v465 : Value).ownBlock) v468 t467) ∧ Aside0 (Below w.heap.size w w'))
      case atStart => exact ⟨(0), (by first | rfl | (simp; done) | (simp [*]; done)), H', ⟨Nat.le_refl _⟩, ⟨by (with_reducible repeat (first | apply Kd.S_alloc | apply Kd.S_drewN | apply Kd.S_drew)); exact Kd.S_mono HO463.out (fun _ hk => trivial)⟩, ⟨by (with_reducible repeat (first | apply Kd.R_alloc | apply Kd.R_drewN | apply Kd.R_drew)); exact Kd.R_mono HO466.out (fun _ hk => hk.2)⟩, ⟨by (with_reducible repeat (first | apply Kd.R_alloc | apply Kd.R_drewN | apply Kd.R_drew)); exact Kd.R_mono HO469.out (fun _ hk => hk.2)⟩, ⟨by repeat (first | (with_reducible first | exact HB.out | apply below_alloc | apply pw_below_drewN | apply below_drew1) | exact HB.out)⟩⟩
      case round =>
       clear H'
       try clear c1
       try clear p2
       try clear c3
       try clear c4
       try clear c7
       try clear c11
       try clear c12
       try clear c13
       try clear c14
       try clear c14b0
       try clear c14b1
       try clear p2
       obtain ⟨x17_2, rfl, HA, HK2, HO_13, HO_15, HO_16, HB⟩ := hrel
       cases gk with
       | zero => exact absurd HA.out (by simp [bailiwicklaw04_PoolsBack.l0])
       | succ k2 =>
        have H := HA.out
        clear HA
        simp only [bailiwicklaw04_PoolsBack.l0] at H
        have HC23 := Aside0.mk H
        clear H
        go_upto_region 11 with (fail)
        go_cut [63] (fun v63 wc => ∃ (kq : Nat) (x63_22 : Bool), v63 = .bool x63_22 ∧ Aside0 (bailiwicklaw04_PoolsBack.j2 kq l0 a1 a2 l3 a4 t460 t461 t464 t467 x17_2 x63_22 = some r) ∧ Aside0 (kq ≤ k2) ∧ Aside0 (Kd.S (Kd.slice 45 k45) 22 wc w.heap.size (fun _ => True) v462 t460) ∧ Aside0 (Kd.R (Kd.int .i64) 3 wc w.heap.size (fun k_ => some k_ ≠ (v468 : Value).ownBlock) v465 t464) ∧ Aside0 (Kd.R (Kd.int .i64) 3 wc w.heap.size (fun k_ => some k_ ≠ (v465 : Value).ownBlock) v468 t467) ∧ Aside0 (Below w.heap.size w wc))
        case first =>
         have H := HC23.out
         clear HC23
         by_cases c24 : x17_2 < (t464.length : Int)
         ·rw [if_pos c24] at H
          have c24b0 : decide (x17_2 < (t464.length : Int)) = true := decide_eq_true c24
          clear c24
          (first | rw [c24b0] | (simp only [i64_w, i32_w]; rw [c24b0]) | skip)
          replace H := Option.bind_eq_some_iff.mp H
          obtain ⟨t470, A250, H⟩ := H
          replace H : (bailiwicklaw04_PoolsBack.j2 k2 l0 a1 a2 l3 a4 t460 t461 t464 t467 x17_2 t470) = some r := H
          have A25 := Aside0.mk A250
          clear A250
          have H' := Aside0.mk H
          clear H
          obtain ⟨Ao26, co26, eo26⟩ := Kd.R_slice HO_15.out
          subst eo26
          go_wp2_with (first | (go_at_call 18; (with_reducible refine (when_Right.calls a4 t470 _ A25.out).mono ?_); rintro e w' ⟨rfl, ⟨nd, rfl⟩⟩))
          go_meet
          case rel => exact ⟨_, (t470), (by first | rfl | (simp; done) | (simp [*]; done)), H', ⟨by have := HJ7.out; have := HK2.out; first | omega | exact Nat.le_refl _⟩, ⟨by (with_reducible repeat (first | apply Kd.S_alloc | apply Kd.S_drewN | apply Kd.S_drew)); exact HO_13.out⟩, ⟨by (with_reducible repeat (first | apply Kd.R_alloc | apply Kd.R_drewN | apply Kd.R_drew)); exact HO_15.out⟩, ⟨by (with_reducible repeat (first | apply Kd.R_alloc | apply Kd.R_drewN | apply Kd.R_drew)); exact HO_16.out⟩, ⟨by repeat (first | (with_reducible first | exact HB.out | apply below_alloc | apply pw_below_drewN | apply below_drew1) | exact HB.out)⟩⟩
         ·rw [if_neg c24] at H
          have c24b0 : decide (x17_2 < (t464.length : Int)) = false := decide_eq_false c24
          clear c24
          (first | rw [c24b0] | (simp only [i64_w, i32_w]; rw [c24b0]) | skip)
          have H' := Aside0.mk H
          clear H
          obtain ⟨Ao27, co27, eo27⟩ := Kd.R_slice HO_15.out
          subst eo27
          go_wp2
          go_meet
          case rel => exact ⟨_, (false), (by first | rfl | (simp; done) | (simp [*]; done)), H', ⟨by have := HJ7.out; have := HK2.out; first | omega | exact Nat.le_refl _⟩, ⟨by (with_reducible repeat (first | apply Kd.S_alloc | apply Kd.S_drewN | apply Kd.S_drew)); exact HO_13.out⟩, ⟨by (with_reducible repeat (first | apply Kd.R_alloc | apply Kd.R_drewN | apply Kd.R_drew)); exact HO_15.out⟩, ⟨by (with_reducible repeat (first | apply Kd.R_alloc | apply Kd.R_drewN | apply Kd.R_drew)); exact HO_16.out⟩, ⟨by repeat (first | (with_reducible first | exact HB.out | apply below_alloc | apply pw_below_drewN | apply below_drew1) | exact HB.out)⟩⟩
        case rest =>
         clear HC23
         try clear c1
         try clear c2
         try clear p2
         try clear c3
         try clear c4
         try clear c7
         try clear c11
         try clear c12
         try clear c13
         try clear c14
         try clear c14b0
         try clear c14b1
         try clear c24
         try clear c24b0
         try clear p2
         obtain ⟨kq, x63_22, rfl, HA, HJ22, HO_13, HO_15, HO_16, HB⟩ := hcut
         cases kq with
         | zero => exact absurd HA.out (by simp [bailiwicklaw04_PoolsBack.j2])
         | succ kj22 =>
          have H := HA.out
          clear HA
          simp only [bailiwicklaw04_PoolsBack.j2] at H
          by_cases c28 : x63_22 = true
          ·subst c28
           have H1 : (if 0 ≤ x17_2 then (if x17_2 < (t464.length : Int) then (if a4 ≥ a1 then (bailiwicklaw04_PoolsBack.j3 kj22 l0 a1 a2 l3 a4 t460 t461 t464 t467 x17_2 (rd t464 x17_2) (decide (a4 < a2))) else (bailiwicklaw04_PoolsBack.j3 kj22 l0 a1 a2 l3 a4 t460 t461 t464 t467 x17_2 (rd t464 x17_2) false)) else (none)) else (none)) = some r := by rw [if_pos rfl] at H; exact H
           clear H
           have H := H1
           clear H1
           by_cases c29 : 0 ≤ x17_2
           ·rw [if_pos c29] at H
            have c29b0 : decide (0 ≤ x17_2) = true := decide_eq_true c29
            clear c29
            by_cases c30 : x17_2 < (t464.length : Int)
            ·rw [if_pos c30] at H
             have c30b0 : decide (x17_2 < (t464.length : Int)) = true := decide_eq_true c30
             clear c30
             have HC31 := Aside0.mk H
             clear H
             obtain ⟨Ao32, co32, eo32⟩ := Kd.R_slice HO_15.out
             subst eo32
             have p472 : 0 ≤ (x17_2 : Int) := of_decide_eq_true (by first | (with_reducible assumption) | assumption)
             have q472 : x17_2 < (t464.length : Int) := of_decide_eq_true (by first | (with_reducible assumption) | assumption)
             obtain ⟨ad472, e472, hx472_0⟩ := Kd.at_int (Kd.R_reads' HO_15.out).2.2 x17_2 p472 q472
             cases e472
             replace p472 := eq_true p472
             replace q472 := eq_true q472
             go_upto_region 14 with (fail)
             go_cut [77] (fun v77 wc => ∃ (kq : Nat) (x77_30 : Bool), v77 = .bool x77_30 ∧ Aside0 (bailiwicklaw04_PoolsBack.j3 kq l0 a1 a2 l3 a4 t460 t461 t464 t467 x17_2 (rd t464 x17_2) x77_30 = some r) ∧ Aside0 (kq ≤ kj22) ∧ Aside0 (Kd.S (Kd.slice 45 k45) 22 wc w.heap.size (fun _ => True) v462 t460) ∧ Aside0 (Kd.R (Kd.int .i64) 3 wc w.heap.size (fun k_ => some k_ ≠ (v468 : Value).ownBlock) (.slice (some ad472) t464.length co32) t464) ∧ Aside0 (Kd.R (Kd.int .i64) 3 wc w.heap.size (fun k_ => some k_ ≠ ((.slice (some ad472) t464.length co32) : Value).ownBlock) v468 t467) ∧ Aside0 (Below w.heap.size w wc))
             case first =>
              have H := HC31.out
              clear HC31
              by_cases c33 : a4 ≥ a1
              ·rw [if_pos c33] at H
               have c33b0 : decide (a1 ≤ a4) = true := decide_eq_true c33
               clear c33
               (first | rw [c33b0] | (simp only [i64_w, i32_w]; rw [c33b0]) | skip)
               have H' := Aside0.mk H
               clear H
               go_wp2
               go_meet
               case rel => exact ⟨_, (decide (a4 < a2)), (by first | rfl | (simp; done) | (simp [*]; done)), H', ⟨by have := HJ7.out; have := HK2.out; have := HJ22.out; first | omega | exact Nat.le_refl _⟩, ⟨by (with_reducible repeat (first | apply Kd.S_alloc | apply Kd.S_drewN | apply Kd.S_drew)); exact HO_13.out⟩, ⟨by (with_reducible repeat (first | apply Kd.R_alloc | apply Kd.R_drewN | apply Kd.R_drew)); exact HO_15.out⟩, ⟨by (with_reducible repeat (first | apply Kd.R_alloc | apply Kd.R_drewN | apply Kd.R_drew)); exact HO_16.out⟩, ⟨by repeat (first | (with_reducible first | exact HB.out | apply below_alloc | apply pw_below_drewN | apply below_drew1) | exact HB.out)⟩⟩
              ·rw [if_neg c33] at H
               have c33b0 : decide (a1 ≤ a4) = false := decide_eq_false c33
               clear c33
               (first | rw [c33b0] | (simp only [i64_w, i32_w]; rw [c33b0]) | skip)
               have H' := Aside0.mk H
               clear H
               go_wp2
               go_meet
               case rel => exact ⟨_, (false), (by first | rfl | (simp; done) | (simp [*]; done)), H', ⟨by have := HJ7.out; have := HK2.out; have := HJ22.out; first | omega | exact Nat.le_refl _⟩, ⟨by (with_reducible repeat (first | apply Kd.S_alloc | apply Kd.S_drewN | apply Kd.S_drew)); exact HO_13.out⟩, ⟨by (with_reducible repeat (first | apply Kd.R_alloc | apply Kd.R_drewN | apply Kd.R_drew)); exact HO_15.out⟩, ⟨by (with_reducible repeat (first | apply Kd.R_alloc | apply Kd.R_drewN | apply Kd.R_drew)); exact HO_16.out⟩, ⟨by repeat (first | (with_reducible first | exact HB.out | apply below_alloc | apply pw_below_drewN | apply below_drew1) | exact HB.out)⟩⟩
             case rest =>
              clear HC31
              try clear c1
              try clear c2
              try clear p2
              try clear c3
              try clear c4
              try clear p4
              try clear q4
              try clear hx4
              try clear c7
              try clear c11
              try clear c12
              try clear c13
              try clear c14
              try clear c14b0
              try clear c14b1
              try clear c24
              try clear c24b0
              try clear c28
              try clear c29
              try clear c29b0
              try clear c30
              try clear c30b0
              try clear c33
              try clear c33b0
              try clear hx472_0
              try clear p2
              try clear p472
              try clear q472
              obtain ⟨kq, x77_30, rfl, HA, HJ30, HO_13, HO_15, HO_16, HB⟩ := hcut
              cases kq with
              | zero => exact absurd HA.out (by simp [bailiwicklaw04_PoolsBack.j3])
              | succ kj30 =>
               have H := HA.out
               clear HA
               simp only [bailiwicklaw04_PoolsBack.j3] at H
               by_cases c34 : x77_30 = true
               ·subst c34
                have H1 : (if 0 ≤ x17_2 then (if x17_2 < (l3.length : Int) then (if x17_2 < (t467.length : Int) then (if (rd t467 x17_2) = (wrap64 ((rd t464 x17_2) - (rd l3 x17_2))) then (bailiwicklaw04_PoolsBack.l0 kj30 l0 a1 a2 l3 a4 t460 t461 t464 t467 (wrap64 (x17_2 + 1))) else (some false)) else (none)) else (none)) else (none)) = some r := by rw [if_pos rfl] at H; exact H
                clear H
                have H := H1
                clear H1
                by_cases c35 : 0 ≤ x17_2
                ·rw [if_pos c35] at H
                 have c35b0 : decide (0 ≤ x17_2) = true := decide_eq_true c35
                 clear c35
                 by_cases c36 : x17_2 < (l3.length : Int)
                 ·rw [if_pos c36] at H
                  have c36b0 : decide (x17_2 < (l3.length : Int)) = true := decide_eq_true c36
                  clear c36
                  by_cases c37 : x17_2 < (t467.length : Int)
                  ·rw [if_pos c37] at H
                   have c37b0 : decide (x17_2 < (t467.length : Int)) = true := decide_eq_true c37
                   clear c37
                   by_cases c38 : (rd t467 x17_2) = (wrap64 ((rd t464 x17_2) - (rd l3 x17_2)))
                   ·rw [if_pos c38] at H
                    have c38b0 : ((rd t467 x17_2) == (wrap64 ((rd t464 x17_2) - (rd l3 x17_2)))) = true := beq_iff_eq.mpr c38
                    have c38b1 : ((rd t467 x17_2) != (wrap64 ((rd t464 x17_2) - (rd l3 x17_2)))) = false := bne_eq_false_iff_eq.mpr c38
                    clear c38
                    have H' := Aside0.mk H
                    clear H
                    have p473 : 0 ≤ (x17_2 : Int) := of_decide_eq_true (by first | (with_reducible assumption) | assumption)
                    have q473 : x17_2 < (l3.length : Int) := of_decide_eq_true (by first | (with_reducible assumption) | assumption)
                    obtain ⟨ad473, e473, hx473_0⟩ := Kd.at_int HR3.out x17_2 p473 q473
                    cases e473
                    replace hx473_0 := (HB.out.cell (World.block_lt_of_cell? w _ hx473_0)).trans hx473_0
                    replace p473 := eq_true p473
                    replace q473 := eq_true q473
                    obtain ⟨Ao39, co39, eo39⟩ := Kd.R_slice HO_16.out
                    subst eo39
                    have p474 : 0 ≤ (x17_2 : Int) := of_decide_eq_true (by first | (with_reducible assumption) | assumption)
                    have q474 : x17_2 < (t467.length : Int) := of_decide_eq_true (by first | (with_reducible assumption) | assumption)
                    obtain ⟨ad474, e474, hx474_0⟩ := Kd.at_int (Kd.R_reads' HO_16.out).2.2 x17_2 p474 q474
                    cases e474
                    replace p474 := eq_true p474
                    replace q474 := eq_true q474
                    go_wp2
                    go_roundg kj30
                    case measure => have := HJ7.out; have := HK2.out; have := HJ22.out; have := HJ30.out; omega
                    case rel => exact ⟨(wrap64 (x17_2 + 1)), (by first | rfl | (simp; done) | (simp [*]; done)), H', ⟨by have := HJ7.out; have := HK2.out; have := HJ22.out; have := HJ30.out; omega⟩, ⟨by (with_reducible repeat (first | apply Kd.S_alloc | apply Kd.S_drewN | apply Kd.S_drew)); exact HO_13.out⟩, ⟨by (with_reducible repeat (first | apply Kd.R_alloc | apply Kd.R_drewN | apply Kd.R_drew)); exact HO_15.out⟩, ⟨by (with_reducible repeat (first | apply Kd.R_alloc | apply Kd.R_drewN | apply Kd.R_drew)); exact HO_16.out⟩, ⟨by repeat (first | (with_reducible first | exact HB.out | apply below_alloc | apply pw_below_drewN | apply below_drew1) | exact HB.out)⟩⟩
                   ·rw [if_neg c38] at H
                    have c38b0 : ((rd t467 x17_2) == (wrap64 ((rd t464 x17_2) - (rd l3 x17_2)))) = false := beq_eq_false_iff_ne.mpr c38
                    have c38b1 : ((rd t467 x17_2) != (wrap64 ((rd t464 x17_2) - (rd l3 x17_2)))) = true := bne_iff_ne.mpr c38
                    obtain rfl := Option.some.inj H
                    have p473 : 0 ≤ (x17_2 : Int) := of_decide_eq_true (by first | (with_reducible assumption) | assumption)
                    have q473 : x17_2 < (l3.length : Int) := of_decide_eq_true (by first | (with_reducible assumption) | assumption)
                    obtain ⟨ad473, e473, hx473_0⟩ := Kd.at_int HR3.out x17_2 p473 q473
                    cases e473
                    replace hx473_0 := (HB.out.cell (World.block_lt_of_cell? w _ hx473_0)).trans hx473_0
                    replace p473 := eq_true p473
                    replace q473 := eq_true q473
                    obtain ⟨Ao40, co40, eo40⟩ := Kd.R_slice HO_16.out
                    subst eo40
                    have p474 : 0 ≤ (x17_2 : Int) := of_decide_eq_true (by first | (with_reducible assumption) | assumption)
                    have q474 : x17_2 < (t467.length : Int) := of_decide_eq_true (by first | (with_reducible assumption) | assumption)
                    obtain ⟨ad474, e474, hx474_0⟩ := Kd.at_int (Kd.R_reads' HO_16.out).2.2 x17_2 p474 q474
                    cases e474
                    replace p474 := eq_true p474
                    replace q474 := eq_true q474
                    go_wp2
                    go_ret
                    exact ⟨by first | rfl | (simp [errW_none, errW_some] <;> rfl) | (simp [*, errW_none, errW_some] <;> rfl), by repeat (first | (with_reducible first | exact HB.out | apply below_alloc | apply pw_below_drewN | apply below_drew1) | exact HB.out)⟩
                  ·rw [if_neg c37] at H
                   exact absurd H (by simp)
                 ·rw [if_neg c36] at H
                  exact absurd H (by simp)
                ·rw [if_neg c35] at H
                 exact absurd H (by simp)
               ·replace c34 := Bool.eq_false_iff.mpr c34
                subst c34
                have H1 : (if 0 ≤ x17_2 then (if x17_2 < (t467.length : Int) then (if (rd t467 x17_2) = (rd t464 x17_2) then (bailiwicklaw04_PoolsBack.l0 kj30 l0 a1 a2 l3 a4 t460 t461 t464 t467 (wrap64 (x17_2 + 1))) else (some false)) else (none)) else (none)) = some r := by rw [if_neg (show ¬ (false = true) by decide)] at H; exact H
                clear H
                have H := H1
                clear H1
                by_cases c41 : 0 ≤ x17_2
                ·rw [if_pos c41] at H
                 have c41b0 : decide (0 ≤ x17_2) = true := decide_eq_true c41
                 clear c41
                 by_cases c42 : x17_2 < (t467.length : Int)
                 ·rw [if_pos c42] at H
                  have c42b0 : decide (x17_2 < (t467.length : Int)) = true := decide_eq_true c42
                  clear c42
                  by_cases c43 : (rd t467 x17_2) = (rd t464 x17_2)
                  ·rw [if_pos c43] at H
                   have c43b0 : ((rd t467 x17_2) == (rd t464 x17_2)) = true := beq_iff_eq.mpr c43
                   have c43b1 : ((rd t467 x17_2) != (rd t464 x17_2)) = false := bne_eq_false_iff_eq.mpr c43
                   clear c43
                   have H' := Aside0.mk H
                   clear H
                   obtain ⟨Ao44, co44, eo44⟩ := Kd.R_slice HO_16.out
                   subst eo44
                   have p475 : 0 ≤ (x17_2 : Int) := of_decide_eq_true (by first | (with_reducible assumption) | assumption)
                   have q475 : x17_2 < (t467.length : Int) := of_decide_eq_true (by first | (with_reducible assumption) | assumption)
                   obtain ⟨ad475, e475, hx475_0⟩ := Kd.at_int (Kd.R_reads' HO_16.out).2.2 x17_2 p475 q475
                   cases e475
                   replace p475 := eq_true p475
                   replace q475 := eq_true q475
                   go_wp2
                   go_roundg kj30
                   case measure => have := HJ7.out; have := HK2.out; have := HJ22.out; have := HJ30.out; omega
                   case rel => exact ⟨(wrap64 (x17_2 + 1)), (by first | rfl | (simp; done) | (simp [*]; done)), H', ⟨by have := HJ7.out; have := HK2.out; have := HJ22.out; have := HJ30.out; omega⟩, ⟨by (with_reducible repeat (first | apply Kd.S_alloc | apply Kd.S_drewN | apply Kd.S_drew)); exact HO_13.out⟩, ⟨by (with_reducible repeat (first | apply Kd.R_alloc | apply Kd.R_drewN | apply Kd.R_drew)); exact HO_15.out⟩, ⟨by (with_reducible repeat (first | apply Kd.R_alloc | apply Kd.R_drewN | apply Kd.R_drew)); exact HO_16.out⟩, ⟨by repeat (first | (with_reducible first | exact HB.out | apply below_alloc | apply pw_below_drewN | apply below_drew1) | exact HB.out)⟩⟩
                  ·rw [if_neg c43] at H
                   have c43b0 : ((rd t467 x17_2) == (rd t464 x17_2)) = false := beq_eq_false_iff_ne.mpr c43
                   have c43b1 : ((rd t467 x17_2) != (rd t464 x17_2)) = true := bne_iff_ne.mpr c43
                   obtain rfl := Option.some.inj H
                   obtain ⟨Ao45, co45, eo45⟩ := Kd.R_slice HO_16.out
                   subst eo45
                   have p475 : 0 ≤ (x17_2 : Int) := of_decide_eq_true (by first | (with_reducible assumption) | assumption)
                   have q475 : x17_2 < (t467.length : Int) := of_decide_eq_true (by first | (with_reducible assumption) | assumption)
                   obtain ⟨ad475, e475, hx475_0⟩ := Kd.at_int (Kd.R_reads' HO_16.out).2.2 x17_2 p475 q475
                   cases e475
                   replace p475 := eq_true p475
                   replace q475 := eq_true q475
                   go_wp2
                   go_ret
                   exact ⟨by first | rfl | (simp [errW_none, errW_some] <;> rfl) | (simp [*, errW_none, errW_some] <;> rfl), by repeat (first | (with_reducible first | exact HB.out | apply below_alloc | apply pw_below_drewN | apply below_drew1) | exact HB.out)⟩
                 ·rw [if_neg c42] at H
                  exact absurd H (by simp)
                ·rw [if_neg c41] at H
                 exact absurd H (by simp)
            ·rw [if_neg c30] at H
             exact absurd H (by simp)
           ·rw [if_neg c29] at H
            exact absurd H (by simp)
          ·replace c28 := Bool.eq_false_iff.mpr c28
           subst c28
           have H1 : (if t461 = 0 then ((bailiwickref04_Same.f kj22 t460 l0).bind fun t471 => (if t471 = true then (if (t464.length : Int) = (l0.length : Int) then (some ((t467.length : Int) == (l0.length : Int))) else (some false)) else (some false))) else (some false)) = some r := by rw [if_neg (show ¬ (false = true) by decide)] at H; exact H
           clear H
           have H := H1
           clear H1
           by_cases c46 : t461 = 0
           ·rw [if_pos c46] at H
            have c46b0 : (t461 == 0) = true := beq_iff_eq.mpr c46
            have c46b1 : (t461 != 0) = false := bne_eq_false_iff_eq.mpr c46
            clear c46
            replace H := Option.bind_eq_some_iff.mp H
            obtain ⟨t471, A470, H⟩ := H
            replace H : (if t471 = true then (if (t464.length : Int) = (l0.length : Int) then (some ((t467.length : Int) == (l0.length : Int))) else (some false)) else (some false)) = some r := H
            have A47 := Aside0.mk A470
            clear A470
            by_cases c48 : t471 = true
            ·subst c48
             have H1 : (if (t464.length : Int) = (l0.length : Int) then (some ((t467.length : Int) == (l0.length : Int))) else (some false)) = some r := by rw [if_pos rfl] at H; exact H
             clear H
             have H := H1
             clear H1
             by_cases c49 : (t464.length : Int) = (l0.length : Int)
             ·rw [if_pos c49] at H
              have c49b0 : ((t464.length : Int) == (l0.length : Int)) = true := beq_iff_eq.mpr c49
              have c49b1 : ((t464.length : Int) != (l0.length : Int)) = false := bne_eq_false_iff_eq.mpr c49
              have c49b2 : (t464.length == l0.length) = true := by first | simpa using c49 | (simp at c49 ⊢; omega)
              clear c49
              obtain rfl := Option.some.inj H
              obtain ⟨Ao50, co50, eo50⟩ := Kd.S_slice HO_13.out
              subst eo50
              go_wp2_with (first | (go_at_call 46; (with_reducible refine (bailiwickref04_Same.calls kj22 _ _ t460 _ _ l0 true _ ?side1 ?side2 ?side3 ?side4 A47.out).mono ?_); (case side1 => repeat (first | exact (Kd.S_reads' HO_13.out).2.2 | (with_reducible refine Kd.C_alloc ?_ _) | (with_reducible refine Kd.C_drewN ?_ _) | (with_reducible refine Kd.C_drew ?_))); (case side2 => exact (Kd.S_reads' HO_13.out).2.1); (case side3 => repeat (first | exact (Kd.C_below HR0.out HB.out) | (with_reducible refine Kd.C_alloc ?_ _) | (with_reducible refine Kd.C_drewN ?_ _) | (with_reducible refine Kd.C_drew ?_))); (case side4 => exact HC0.out); rintro e w' ⟨rfl, ⟨nd, rfl⟩⟩; obtain ⟨Ao51, co51, eo51⟩ := Kd.R_slice HO_15.out; subst eo51; obtain ⟨Ao52, co52, eo52⟩ := Kd.R_slice HO_16.out; subst eo52))
              go_ret
              exact ⟨by first | rfl | (simp [errW_none, errW_some] <;> rfl) | (simp [*, errW_none, errW_some] <;> rfl), by repeat (first | (with_reducible first | exact HB.out | apply below_alloc | apply pw_below_drewN | apply below_drew1) | exact HB.out)⟩
             ·rw [if_neg c49] at H
              have c49b0 : ((t464.length : Int) == (l0.length : Int)) = false := beq_eq_false_iff_ne.mpr c49
              have c49b1 : ((t464.length : Int) != (l0.length : Int)) = true := bne_iff_ne.mpr c49
              have c49b2 : (t464.length == l0.length) = false := by first | simpa using c49 | (simp at c49 ⊢; omega)
              obtain rfl := Option.some.inj H
              obtain ⟨Ao53, co53, eo53⟩ := Kd.S_slice HO_13.out
              subst eo53
              go_wp2_with (first | (go_at_call 46; (with_reducible refine (bailiwickref04_Same.calls kj22 _ _ t460 _ _ l0 true _ ?side1 ?side2 ?side3 ?side4 A47.out).mono ?_); (case side1 => repeat (first | exact (Kd.S_reads' HO_13.out).2.2 | (with_reducible refine Kd.C_alloc ?_ _) | (with_reducible refine Kd.C_drewN ?_ _) | (with_reducible refine Kd.C_drew ?_))); (case side2 => exact (Kd.S_reads' HO_13.out).2.1); (case side3 => repeat (first | exact (Kd.C_below HR0.out HB.out) | (with_reducible refine Kd.C_alloc ?_ _) | (with_reducible refine Kd.C_drewN ?_ _) | (with_reducible refine Kd.C_drew ?_))); (case side4 => exact HC0.out); rintro e w' ⟨rfl, ⟨nd, rfl⟩⟩; obtain ⟨Ao54, co54, eo54⟩ := Kd.R_slice HO_15.out; subst eo54))
              go_ret
              exact ⟨by first | rfl | (simp [errW_none, errW_some] <;> rfl) | (simp [*, errW_none, errW_some] <;> rfl), by repeat (first | (with_reducible first | exact HB.out | apply below_alloc | apply pw_below_drewN | apply below_drew1) | exact HB.out)⟩
            ·replace c48 := Bool.eq_false_iff.mpr c48
             subst c48
             have H1 : (some false) = some r := by rw [if_neg (show ¬ (false = true) by decide)] at H; exact H
             clear H
             have H := H1
             clear H1
             obtain rfl := Option.some.inj H
             obtain ⟨Ao55, co55, eo55⟩ := Kd.S_slice HO_13.out
             subst eo55
             go_wp2_with (first | (go_at_call 46; (with_reducible refine (bailiwickref04_Same.calls kj22 _ _ t460 _ _ l0 false _ ?side1 ?side2 ?side3 ?side4 A47.out).mono ?_); (case side1 => repeat (first | exact (Kd.S_reads' HO_13.out).2.2 | (with_reducible refine Kd.C_alloc ?_ _) | (with_reducible refine Kd.C_drewN ?_ _) | (with_reducible refine Kd.C_drew ?_))); (case side2 => exact (Kd.S_reads' HO_13.out).2.1); (case side3 => repeat (first | exact (Kd.C_below HR0.out HB.out) | (with_reducible refine Kd.C_alloc ?_ _) | (with_reducible refine Kd.C_drewN ?_ _) | (with_reducible refine Kd.C_drew ?_))); (case side4 => exact HC0.out); rintro e w' ⟨rfl, ⟨nd, rfl⟩⟩))
             go_ret
             exact ⟨by first | rfl | (simp [errW_none, errW_some] <;> rfl) | (simp [*, errW_none, errW_some] <;> rfl), by repeat (first | (with_reducible first | exact HB.out | apply below_alloc | apply pw_below_drewN | apply below_drew1) | exact HB.out)⟩
           ·rw [if_neg c46] at H
            have c46b0 : (t461 == 0) = false := beq_eq_false_iff_ne.mpr c46
            have c46b1 : (t461 != 0) = true := bne_iff_ne.mpr c46
            obtain rfl := Option.some.inj H
            go_wp2
            go_ret
            exact ⟨by first | rfl | (simp [errW_none, errW_some] <;> rfl) | (simp [*, errW_none, errW_some] <;> rfl), by repeat (first | (with_reducible first | exact HB.out | apply below_alloc | apply pw_below_drewN | apply below_drew1) | exact HB.out)⟩
     ·rw [if_neg c14] at H
      have c14b0 : (t456 == 0) = false := beq_eq_false_iff_ne.mpr c14
      have c14b1 : (t456 != 0) = true := bne_iff_ne.mpr c14
      replace H := Option.bind_eq_some_iff.mp H
      obtain ⟨t459, A560, H⟩ := H
      replace H : (some t459) = some r := H
      have A56 := Aside0.mk A560
      clear A560
      obtain rfl := Option.some.inj H
      go_wp2_with (first | ((with_reducible refine gate_callee (f := 42) rfl ?_); refine goesL_ (some 34) rfl rfl Try.func42 (by kernel_rfl) rfl #[.slice A0 l0.length c0, .int .i64 a1, .int .i64 a2, .slice A3 l3.length c3] rfl (by (try simp only [List.map_toArray, List.map_cons, List.map_nil]); first | done | rfl | (simp only [List.length_drop, List.length_take]; rfl)) ?_; (with_reducible refine (pools_Take.calls kj7 _ _ l0 a1 a2 _ _ l3 t455 t456 _ ?side1 ?side2 ?side3 ?side4 A13.out).mono ?_); (case side1 => repeat (first | exact (Kd.C_below HR0.out HB.out) | (with_reducible refine Kd.C_alloc ?_ _) | (with_reducible refine Kd.C_drewN ?_ _) | (with_reducible refine Kd.C_drew ?_))); (case side2 => exact HC0.out); (case side3 => repeat (first | exact (Kd.C_below HR3.out HB.out) | (with_reducible refine Kd.C_alloc ?_ _) | (with_reducible refine Kd.C_drewN ?_ _) | (with_reducible refine Kd.C_drew ?_))); (case side4 => exact HC3.out); rintro e w57 ⟨v457, rfl, ho0, hb⟩; refine ⟨_, rfl, ?_⟩; have n0_ := Aside0.mk (Kd.S_lower ho0 (below_size (by repeat (first | (with_reducible first | exact HB.out | apply below_alloc | apply pw_below_drewN | apply below_drew1) | exact HB.out)))); have n1_ := Aside0.mk (below_step (by repeat (first | (with_reducible first | exact HB.out | apply below_alloc | apply pw_below_drewN | apply below_drew1) | exact HB.out)) hb); clear HB; have HO458 := n0_; have HB := n1_; clear n0_ n1_; (try clear hb); (try clear hb2); (try clear hk); (try clear hi); (try clear ho0); obtain ⟨Ao58, co58, eo58⟩ := Kd.S_slice HO458.out; subst eo58) | ((with_reducible refine gate_callee (f := 46) rfl ?_); refine goesL_ (some 41) rfl rfl Try.func46 (by kernel_rfl) rfl #[.slice Ao58 t455.length co58, .slice A0 l0.length c0] rfl (by (try simp only [List.map_toArray, List.map_cons, List.map_nil]); first | done | rfl | (simp only [List.length_drop, List.length_take]; rfl)) ?_; (with_reducible refine (bailiwickref04_Same.calls kj7 _ _ t455 _ _ l0 t459 _ ?side1 ?side2 ?side3 ?side4 A56.out).mono ?_); (case side1 => repeat (first | exact (Kd.S_reads' HO458.out).2.2 | (with_reducible refine Kd.C_alloc ?_ _) | (with_reducible refine Kd.C_drewN ?_ _) | (with_reducible refine Kd.C_drew ?_))); (case side2 => exact (Kd.S_reads' HO458.out).2.1); (case side3 => repeat (first | exact (Kd.C_below HR0.out HB.out) | (with_reducible refine Kd.C_alloc ?_ _) | (with_reducible refine Kd.C_drewN ?_ _) | (with_reducible refine Kd.C_drew ?_))); (case side4 => exact HC0.out); rintro e w' ⟨rfl, ⟨nd, rfl⟩⟩; refine ⟨_, rfl, ?_⟩))
      go_ret
      exact ⟨by first | rfl | (simp [errW_none, errW_some] <;> rfl) | (simp [*, errW_none, errW_some] <;> rfl), by repeat (first | (with_reducible first | exact HB.out | apply below_alloc | apply pw_below_drewN | apply below_drew1) | exact HB.out)⟩
 ·replace c7 := Bool.eq_false_iff.mpr c7
  subst c7
  have H1 : (some false) = some r := by rw [if_neg (show ¬ (false = true) by decide)] at H; exact H
  clear H
  have H := H1
  clear H1
  obtain rfl := Option.some.inj H
  go_enter Try.func13, Try.ntmps13
  go_wp2_with (first | ((with_reducible refine gate_callee (f := 34) rfl ?_); refine goesL_ (some 19) rfl rfl Try.func34 (by kernel_rfl) rfl #[] rfl (by (try simp only [List.map_toArray, List.map_cons, List.map_nil]); first | done | rfl | (simp only [List.length_drop, List.length_take]; rfl)) ?_; (with_reducible refine (bailiwicklaw04_awake.calls k  false _ A6.out).mono ?_); rintro e w59 ⟨rfl, hb⟩; refine ⟨_, rfl, ?_⟩; have n0_ := Aside0.mk (below_step (by repeat (first | (with_reducible first | exact HB.out | apply below_alloc | apply pw_below_drewN | apply below_drew1) | exact HB.out)) hb); clear HB; have HB := n0_; clear n0_; (try clear hb); (try clear hb2); (try clear hk); (try clear hi)))
  go_ret
  exact ⟨by first | rfl | (simp [errW_none, errW_some] <;> rfl) | (simp [*, errW_none, errW_some] <;> rfl), by repeat (first | (with_reducible first | exact HB.out | apply below_alloc | apply pw_below_drewN | apply below_drew1) | exact HB.out)⟩

/-- THE ONE PURE STATEMENT of bailiwicklaw04_PoolsBack. -/
def bailiwicklaw04_PoolsBack.Pure : Prop := ∀ (l0 : List (List (S45))) (a1 : Int) (a2 : Int) (l3 : List Int) (a4 : Int), (l0.length * 24 ≤ 140737488351232 ∧ l0.length ≤ maxLen ∧ ∀ x0_ ∈ l0, (x0_.length * 16 ≤ 140737488351232 ∧ x0_.length ≤ maxLen ∧ ∀ x1_ ∈ x0_, (((Lit.int .i64 x1_.f0).wf = true) ∧ ((Lit.int .i64 x1_.f1).wf = true)))) → (Lit.int .i64 a1).wf = true → (Lit.int .i64 a2).wf = true → (l3.length * 8 ≤ 140737488351232 ∧ l3.length ≤ maxLen ∧ ∀ x0_ ∈ l3, (Lit.int .i64 x0_).wf = true) → (Lit.int .i64 a4).wf = true → ∃ k, bailiwicklaw04_PoolsBack.f k l0 a1 a2 l3 a4 = some true


end Go.Proofs.Ytimllhflecippaa.F
