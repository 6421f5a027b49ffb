-- Written by gprint.py (this repo's own driver over the kit's printer); Lean checks it.
import Derived.Test.YtimllhflecippaaF0
import Derived.Test.YtimllhflecippaaF2
import Derived.Test.YtimllhflecippaaF4
import Derived.Test.YtimllhflecippaaF6
import Derived.Test.YtimllhflecippaaF7
namespace Go.Proofs.Ytimllhflecippaa.F
open Go.RowKit Go.Proofs.YtimllhflecippaaW.PrintWords Go.Proofs.YtimllhflecippaaW.PrintLast Go.Proofs.YtimllhflecippaaW.PrintMore
attribute [local go_sem] max2_int min2_int max_two min_two max_three min_three max_four min_four   -- for this text's walks alone
set_option linter.unusedVariables false
set_option linter.unusedSimpArgs false

/-! ### step_Give: function 25 -/
mutual
def step_Give.j0 : Nat → List (S45) → Int → Int → Int → Bool → Option ((List (S45)) × Int)
 | 0, _, _, _, _, _ => none
 | k + 1, x0, x1, x2, x3, x20 => if x20 = true then ((slices_Clone_api_Step_api_Step.f x0).bind fun t309 => (some (t309, 1))) else ((step_place.f k x0 x1).bind fun t312 => (step_Give.l0 k x0 x1 x2 x3 t312))
def step_Give.l0 : Nat → List (S45) → Int → Int → Int → Int → Option ((List (S45)) × Int)
 | 0, _, _, _, _, _ => none
 | k + 1, x0, x1, x2, x3, x10 => if x10 < (x0.length : Int) then (if 0 ≤ x10 then (step_Give.j2 k x0 x1 x2 x3 x10 (decide (((rd_T45 x0 x10).f0) < x2))) else (none)) else (step_Give.j2 k x0 x1 x2 x3 x10 false)
def step_Give.j2 : Nat → List (S45) → Int → Int → Int → Int → Bool → Option ((List (S45)) × Int)
 | 0, _, _, _, _, _, _ => none
 | k + 1, x0, x1, x2, x3, x10, x38 => if x38 = true then (if 0 ≤ x10 then (if x10 < (x0.length : Int) then (if (wrap64 (((rd_T45 x0 x10).f1) + x3)) > 1048576 then ((slices_Clone_api_Step_api_Step.f x0).bind fun t315 => (some (t315, 9))) else (step_Give.l0 k x0 x1 x2 x3 (wrap64 (x10 + 1)))) else (none)) else (none)) else ((step_change.f x0 x1 x2 x3).bind fun bt318 => (some (bt318.1, bt318.2)))
end
def step_Give.f (k : Nat) (l0 : List (S45)) (a1 : Int) (a2 : Int) (a3 : Int) : Option ((List (S45)) × Int) := (step_may.f k l0 a1 a2).bind fun t307 => (if t307 = true then ((step_amount.f a3).bind fun t308 => (step_Give.j0 k l0 a1 a2 a3 (!t308))) else (step_Give.j0 k l0 a1 a2 a3 true))
theorem step_Give.mono_l : ∀ k, (∀ y0 y1 y2 y3 y4, LeO (step_Give.j0 k y0 y1 y2 y3 y4) (step_Give.j0 (k + 1) y0 y1 y2 y3 y4)) ∧ (∀ y0 y1 y2 y3 y4, LeO (step_Give.l0 k y0 y1 y2 y3 y4) (step_Give.l0 (k + 1) y0 y1 y2 y3 y4)) ∧ (∀ y0 y1 y2 y3 y4 y5, LeO (step_Give.j2 k y0 y1 y2 y3 y4 y5) (step_Give.j2 (k + 1) y0 y1 y2 y3 y4 y5))
 | 0 => ⟨fun _ _ _ _ _ r h => by simp [step_Give.j0] at h, fun _ _ _ _ _ r h => by simp [step_Give.l0] at h, fun _ _ _ _ _ _ r h => by simp [step_Give.j2] at h⟩
 | k + 1 => by
  obtain ⟨ih0, ih1, ih2⟩ := step_Give.mono_l k
  refine ⟨?_, ?_, ?_⟩
  ·intro y0 y1 y2 y3 y4
   unfold step_Give.j0
   repeat' first
   | (with_reducible exact ih0 _ _ _ _ _)
   | (with_reducible exact ih1 _ _ _ _ _)
   | (with_reducible exact ih2 _ _ _ _ _ _)
   | (with_reducible exact step_may.mono _ _ _ _)
   | (with_reducible exact step_place.mono _ _ _)
   | (with_reducible exact LeO.refl _)
   | (with_reducible exact LeO.none _)
   | (with_reducible refine LeO.ite ?_ ?_)
   | (with_reducible refine LeO.bind ?_ (fun _ => ?_))
   | exact ih0 _ _ _ _ _
   | exact ih1 _ _ _ _ _
   | exact ih2 _ _ _ _ _ _
   | exact step_may.mono _ _ _ _
   | exact step_place.mono _ _ _
   | exact LeO.none _
   | refine LeO.ite ?_ ?_
   | refine LeO.bind ?_ (fun _ => ?_)
  ·intro y0 y1 y2 y3 y4
   unfold step_Give.l0
   repeat' first
   | (with_reducible exact ih0 _ _ _ _ _)
   | (with_reducible exact ih1 _ _ _ _ _)
   | (with_reducible exact ih2 _ _ _ _ _ _)
   | (with_reducible exact step_may.mono _ _ _ _)
   | (with_reducible exact step_place.mono _ _ _)
   | (with_reducible exact LeO.refl _)
   | (with_reducible exact LeO.none _)
   | (with_reducible refine LeO.ite ?_ ?_)
   | (with_reducible refine LeO.bind ?_ (fun _ => ?_))
   | exact ih0 _ _ _ _ _
   | exact ih1 _ _ _ _ _
   | exact ih2 _ _ _ _ _ _
   | exact step_may.mono _ _ _ _
   | exact step_place.mono _ _ _
   | exact LeO.none _
   | refine LeO.ite ?_ ?_
   | refine LeO.bind ?_ (fun _ => ?_)
  ·intro y0 y1 y2 y3 y4 y5
   unfold step_Give.j2
   repeat' first
   | (with_reducible exact ih0 _ _ _ _ _)
   | (with_reducible exact ih1 _ _ _ _ _)
   | (with_reducible exact ih2 _ _ _ _ _ _)
   | (with_reducible exact step_may.mono _ _ _ _)
   | (with_reducible exact step_place.mono _ _ _)
   | (with_reducible exact LeO.refl _)
   | (with_reducible exact LeO.none _)
   | (with_reducible refine LeO.ite ?_ ?_)
   | (with_reducible refine LeO.bind ?_ (fun _ => ?_))
   | exact ih0 _ _ _ _ _
   | exact ih1 _ _ _ _ _
   | exact ih2 _ _ _ _ _ _
   | exact step_may.mono _ _ _ _
   | exact step_place.mono _ _ _
   | exact LeO.none _
   | refine LeO.ite ?_ ?_
   | refine LeO.bind ?_ (fun _ => ?_)
theorem step_Give.mono : ∀ a0 a1 a2 a3 k, LeO (step_Give.f k a0 a1 a2 a3) (step_Give.f (k + 1) a0 a1 a2 a3) := by
 intro a0 a1 a2 a3 k
 obtain ⟨ih0, ih1, ih2⟩ := step_Give.mono_l k
 unfold step_Give.f
 repeat' first
   | (with_reducible exact ih0 _ _ _ _ _)
   | (with_reducible exact ih1 _ _ _ _ _)
   | (with_reducible exact ih2 _ _ _ _ _ _)
   | (with_reducible exact step_may.mono _ _ _ _)
   | (with_reducible exact step_place.mono _ _ _)
   | (with_reducible exact LeO.refl _)
   | (with_reducible exact LeO.none _)
   | (with_reducible refine LeO.ite ?_ ?_)
   | (with_reducible refine LeO.bind ?_ (fun _ => ?_))
   | exact ih0 _ _ _ _ _
   | exact ih1 _ _ _ _ _
   | exact ih2 _ _ _ _ _ _
   | exact step_may.mono _ _ _ _
   | exact step_place.mono _ _ _
   | exact LeO.none _
   | refine LeO.ite ?_ ?_
   | refine LeO.bind ?_ (fun _ => ?_)
set_option maxHeartbeats 8000000 in
set_option maxRecDepth 100000 in
theorem step_Give.calls (k : Nat) (A0 : Option Addr) (c0 : Nat) (l0 : List (S45)) (a1 : Int) (a2 : Int) (a3 : Int) (r1 : List (S45)) (r2 : Int) (w : World) (hr0 : Kd.C k45 w A0 l0.length l0) (hc0 : l0.length ≤ c0) (h : step_Give.f k l0 a1 a2 a3 = some (r1, r2)) :
  Calls Try.prog 25 #[.slice A0 l0.length c0, .int .i64 a1, .int .i64 a2, .int .i64 a3] w fun e w' => ∃ v0_ : Value, e = .returned (.tuple #[v0_, .int .i64 r2]) ∧ Kd.R k45 45 w' w.heap.size (fun _ => True) v0_ r1 ∧ Below w.heap.size w w' := by
 have HR0 := Aside0.mk hr0
 have HC0 := Aside0.mk hc0
 clear hr0 hc0
 have HB := Aside0.mk (Below.refl w.heap.size w)
 have H : ((step_may.f k l0 a1 a2).bind fun t307 => (if t307 = true then ((step_amount.f a3).bind fun t308 => (step_Give.j0 k l0 a1 a2 a3 (!t308))) else (step_Give.j0 k l0 a1 a2 a3 true))) = some (r1, r2) := h
 clear h
 have HC5 := Aside0.mk H
 clear H
 go_enter Try.func25, Try.ntmps25
 go_upto_region 1 with (fail)
 go_cut [20] (fun v20 wc => ∃ (kq : Nat) (x20_4 : Bool), v20 = .bool x20_4 ∧ Aside0 (step_Give.j0 kq l0 a1 a2 a3 x20_4 = some (r1, r2)) ∧ Aside0 (kq ≤ k) ∧ Aside0 (Below w.heap.size w wc))
 case first =>
  have H := HC5.out
  clear HC5
  replace H := Option.bind_eq_some_iff.mp H
  obtain ⟨t307, A60, H⟩ := H
  replace H : (if t307 = true then ((step_amount.f a3).bind fun t308 => (step_Give.j0 k l0 a1 a2 a3 (!t308))) else (step_Give.j0 k l0 a1 a2 a3 true)) = some (r1, r2) := H
  have A6 := Aside0.mk A60
  clear A60
  by_cases c7 : t307 = true
  ·subst c7
   have H1 : ((step_amount.f a3).bind fun t308 => (step_Give.j0 k l0 a1 a2 a3 (!t308))) = some (r1, r2) := by rw [if_pos rfl] at H; exact H
   clear H
   have H := H1
   clear H1
   replace H := Option.bind_eq_some_iff.mp H
   obtain ⟨t308, A80, H⟩ := H
   replace H : (step_Give.j0 k l0 a1 a2 a3 (!t308)) = some (r1, r2) := H
   have A8 := Aside0.mk A80
   clear A80
   have H' := Aside0.mk H
   clear H
   go_wp2_with (first | ((with_reducible refine gate_callee (f := 50) rfl ?_); refine goesL_ (some 14) rfl rfl Try.func50 (by kernel_rfl) rfl #[.slice A0 l0.length c0, .int .i64 a1, .int .i64 a2] rfl (by (try simp only [List.map_toArray, List.map_cons, List.map_nil]); first | done | rfl | (simp only [List.length_drop, List.length_take]; rfl)) ?_; (with_reducible refine (step_may.calls k _ _ l0 a1 a2 true _ ?side1 ?side2 A6.out).mono ?_); (case side1 => repeat (first | exact (Kd.C_below HR0.out HB.out) | (with_reducible refine Kd.C_alloc ?_ _) | (with_reducible refine Kd.C_drewN ?_ _) | (with_reducible refine Kd.C_drew ?_))); (case side2 => exact HC0.out); rintro e w9 ⟨rfl, hb⟩; refine ⟨_, rfl, ?_⟩; have n0_ := Aside0.mk (below_step (by repeat (first | (with_reducible first | exact HB.out | apply below_alloc | apply pw_below_drewN | apply below_drew1) | exact HB.out)) hb); clear HB; have HB := n0_; clear n0_; (try clear hb); (try clear hb2); (try clear hk); (try clear hi)) | (go_at_call 47; (with_reducible refine (step_amount.calls a3 t308 _ A8.out).mono ?_); rintro e w' ⟨rfl, ⟨nd, rfl⟩⟩))
   go_meet
   case rel => exact ⟨_, (!t308), (by first | rfl | (simp; done) | (simp [*]; done)), H', ⟨by first | omega | exact Nat.le_refl _⟩, ⟨by repeat (first | (with_reducible first | exact HB.out | apply below_alloc | apply pw_below_drewN | apply below_drew1) | exact HB.out)⟩⟩
  ·replace c7 := Bool.eq_false_iff.mpr c7
   subst c7
   have H1 : (step_Give.j0 k l0 a1 a2 a3 true) = some (r1, r2) := by rw [if_neg (show ¬ (false = true) by decide)] at H; exact H
   clear H
   have H := H1
   clear H1
   have H' := Aside0.mk H
   clear H
   go_wp2_with (first | ((with_reducible refine gate_callee (f := 50) rfl ?_); refine goesL_ (some 14) rfl rfl Try.func50 (by kernel_rfl) rfl #[.slice A0 l0.length c0, .int .i64 a1, .int .i64 a2] rfl (by (try simp only [List.map_toArray, List.map_cons, List.map_nil]); first | done | rfl | (simp only [List.length_drop, List.length_take]; rfl)) ?_; (with_reducible refine (step_may.calls k _ _ l0 a1 a2 false _ ?side1 ?side2 A6.out).mono ?_); (case side1 => repeat (first | exact (Kd.C_below HR0.out HB.out) | (with_reducible refine Kd.C_alloc ?_ _) | (with_reducible refine Kd.C_drewN ?_ _) | (with_reducible refine Kd.C_drew ?_))); (case side2 => exact HC0.out); rintro e w10 ⟨rfl, hb⟩; refine ⟨_, rfl, ?_⟩; have n0_ := Aside0.mk (below_step (by repeat (first | (with_reducible first | exact HB.out | apply below_alloc | apply pw_below_drewN | apply below_drew1) | exact HB.out)) hb); clear HB; have HB := n0_; clear n0_; (try clear hb); (try clear hb2); (try clear hk); (try clear hi)))
   go_meet
   case rel => exact ⟨_, (true), (by first | rfl | (simp; done) | (simp [*]; done)), H', ⟨by first | omega | exact Nat.le_refl _⟩, ⟨by repeat (first | (with_reducible first | exact HB.out | apply below_alloc | apply pw_below_drewN | apply below_drew1) | exact HB.out)⟩⟩
 case rest =>
  clear HC5
  try clear c2
  try clear p2
  try clear c5
  try clear c7
  obtain ⟨kq, x20_4, rfl, HA, HJ4, HB⟩ := hcut
  cases kq with
  | zero => exact absurd HA.out (by simp [step_Give.j0])
  | succ kj4 =>
   have H := HA.out
   clear HA
   simp only [step_Give.j0] at H
   by_cases c11 : x20_4 = true
   ·subst c11
    have H1 : ((slices_Clone_api_Step_api_Step.f l0).bind fun t309 => (some (t309, 1))) = some (r1, r2) := by rw [if_pos rfl] at H; exact H
    clear H
    have H := H1
    clear H1
    replace H := Option.bind_eq_some_iff.mp H
    obtain ⟨t309, A120, H⟩ := H
    replace H : (some (t309, 1)) = some (r1, r2) := H
    have A12 := Aside0.mk A120
    clear A120
    simp only [Option.some.injEq, Prod.mk.injEq] at H
    obtain ⟨rfl, rfl⟩ := H
    go_wp2_with (first | ((with_reducible refine gate_callee (f := 53) rfl ?_); refine goesL_ (some 22) rfl rfl Try.func53 (by kernel_rfl) rfl #[.slice A0 l0.length c0] rfl (by (try simp only [List.map_toArray, List.map_cons, List.map_nil]); first | done | rfl | (simp only [List.length_drop, List.length_take]; rfl)) ?_; (with_reducible refine (slices_Clone_api_Step_api_Step.calls _ _ l0 t309 _ ?side1 ?side2 A12.out).mono ?_); (case side1 => repeat (first | exact (Kd.C_below HR0.out HB.out) | (with_reducible refine Kd.C_alloc ?_ _) | (with_reducible refine Kd.C_drewN ?_ _) | (with_reducible refine Kd.C_drew ?_))); (case side2 => exact HC0.out); rintro e w13 ⟨v310, rfl, ho0, hb⟩; refine ⟨_, rfl, ?_⟩; have n0_ := Aside0.mk (Kd.R_lower ho0 (below_size (by repeat (first | (with_reducible first | exact HB.out | apply below_alloc | apply pw_below_drewN | apply below_drew1) | exact HB.out)))); have n1_ := Aside0.mk (below_step (by repeat (first | (with_reducible first | exact HB.out | apply below_alloc | apply pw_below_drewN | apply below_drew1) | exact HB.out)) hb); clear HB; have HO311 := n0_; have HB := n1_; clear n0_ n1_; (try clear hb); (try clear hb2); (try clear hk); (try clear hi); (try clear ho0)))
    go_ret2
    exact ⟨_, by first | rfl | (simp [errW_none, errW_some] <;> rfl) | (simp [*, errW_none, errW_some] <;> rfl), by (with_reducible repeat (first | apply Kd.R_alloc | apply Kd.R_drewN | apply Kd.R_drew)); exact HO311.out, by repeat (first | (with_reducible first | exact HB.out | apply below_alloc | apply pw_below_drewN | apply below_drew1) | exact HB.out)⟩
   ·replace c11 := Bool.eq_false_iff.mpr c11
    subst c11
    have H1 : ((step_place.f kj4 l0 a1).bind fun t312 => (step_Give.l0 kj4 l0 a1 a2 a3 t312)) = some (r1, r2) := by rw [if_neg (show ¬ (false = true) by decide)] at H; exact H
    clear H
    have H := H1
    clear H1
    replace H := Option.bind_eq_some_iff.mp H
    obtain ⟨t312, A140, H⟩ := H
    replace H : (step_Give.l0 kj4 l0 a1 a2 a3 t312) = some (r1, r2) := H
    have A14 := Aside0.mk A140
    clear A140
    have H' := Aside0.mk H
    clear H
    go_wp2_with (first | ((with_reducible refine gate_callee (f := 48) rfl ?_); refine goesL_ (some 25) rfl rfl Try.func48 (by kernel_rfl) rfl #[.slice A0 l0.length c0, .int .i64 a1] rfl (by (try simp only [List.map_toArray, List.map_cons, List.map_nil]); first | done | rfl | (simp only [List.length_drop, List.length_take]; rfl)) ?_; (with_reducible refine (step_place.calls kj4 _ _ l0 a1 t312 _ ?side1 ?side2 A14.out).mono ?_); (case side1 => repeat (first | exact (Kd.C_below HR0.out HB.out) | (with_reducible refine Kd.C_alloc ?_ _) | (with_reducible refine Kd.C_drewN ?_ _) | (with_reducible refine Kd.C_drew ?_))); (case side2 => exact HC0.out); rintro e w15 ⟨rfl, hb⟩; refine ⟨_, rfl, ?_⟩; have n0_ := Aside0.mk (below_step (by repeat (first | (with_reducible first | exact HB.out | apply below_alloc | apply pw_below_drewN | apply below_drew1) | exact HB.out)) hb); clear HB; have HB := n0_; clear n0_; (try clear hb); (try clear hb2); (try clear hk); (try clear hi)))
    go_loopg [10] kj4 (fun kq v10 w' => ∃ (x10_2 : Int), v10 = .int .i64 x10_2 ∧ Aside0 (step_Give.l0 kq l0 a1 a2 a3 x10_2 = some (r1, r2)) ∧ Aside0 (kq ≤ kj4) ∧ Aside0 (Below w.heap.size w w'))
    case atStart => exact ⟨(t312), (by first | rfl | (simp; done) | (simp [*]; done)), H', ⟨Nat.le_refl _⟩, ⟨by repeat (first | (with_reducible first | exact HB.out | apply below_alloc | apply pw_below_drewN | apply below_drew1) | exact HB.out)⟩⟩
    case round =>
     clear H'
     try clear c1
     try clear c2
     try clear p2
     try clear c4
     try clear c5
     try clear c7
     try clear c11
     try clear p2
     obtain ⟨x10_2, rfl, HA, HK2, HB⟩ := hrel
     cases gk with
     | zero => exact absurd HA.out (by simp [step_Give.l0])
     | succ k2 =>
      have H := HA.out
      clear HA
      simp only [step_Give.l0] at H
      have HC16 := Aside0.mk H
      clear H
      go_upto_region 4 with (fail)
      go_cut [38] (fun v38 wc => ∃ (kq : Nat) (x38_15 : Bool), v38 = .bool x38_15 ∧ Aside0 (step_Give.j2 kq l0 a1 a2 a3 x10_2 x38_15 = some (r1, r2)) ∧ Aside0 (kq ≤ k2) ∧ Aside0 (Below w.heap.size w wc))
      case first =>
       have H := HC16.out
       clear HC16
       by_cases c17 : x10_2 < (l0.length : Int)
       ·rw [if_pos c17] at H
        have c17b0 : decide (x10_2 < (l0.length : Int)) = true := decide_eq_true c17
        clear c17
        (first | rw [c17b0] | (simp only [i64_w, i32_w]; rw [c17b0]) | skip)
        by_cases c18 : 0 ≤ x10_2
        ·rw [if_pos c18] at H
         have c18b0 : decide (0 ≤ x10_2) = true := decide_eq_true c18
         clear c18
         have H' := Aside0.mk H
         clear H
         have p313 : 0 ≤ (x10_2 : Int) := of_decide_eq_true (by first | (with_reducible assumption) | assumption)
         have q313 : x10_2 < (l0.length : Int) := of_decide_eq_true (by first | (with_reducible assumption) | assumption)
         obtain ⟨ad313, e313, hx313_0, hx313_1⟩ := at_T45 HR0.out x10_2 p313 q313
         cases e313
         replace hx313_0 := (HB.out.cell (World.block_lt_of_cell? w _ hx313_0)).trans hx313_0
         replace hx313_1 := (HB.out.cell (World.block_lt_of_cell? w _ hx313_1)).trans hx313_1
         replace p313 := eq_true p313
         replace q313 := eq_true q313
         go_wp2
         go_meet
         case rel => exact ⟨_, (decide (((rd_T45 l0 x10_2).f0) < a2)), (by first | rfl | (simp; done) | (simp [*]; done)), H', ⟨by have := HJ4.out; have := HK2.out; first | omega | exact Nat.le_refl _⟩, ⟨by repeat (first | (with_reducible first | exact HB.out | apply below_alloc | apply pw_below_drewN | apply below_drew1) | exact HB.out)⟩⟩
        ·rw [if_neg c18] at H
         exact absurd H (by simp)
       ·rw [if_neg c17] at H
        have c17b0 : decide (x10_2 < (l0.length : Int)) = false := decide_eq_false c17
        clear c17
        (first | rw [c17b0] | (simp only [i64_w, i32_w]; rw [c17b0]) | skip)
        have H' := Aside0.mk H
        clear H
        go_wp2
        go_meet
        case rel => exact ⟨_, (false), (by first | rfl | (simp; done) | (simp [*]; done)), H', ⟨by have := HJ4.out; have := HK2.out; first | omega | exact Nat.le_refl _⟩, ⟨by repeat (first | (with_reducible first | exact HB.out | apply below_alloc | apply pw_below_drewN | apply below_drew1) | exact HB.out)⟩⟩
      case rest =>
       clear HC16
       try clear c1
       try clear c2
       try clear p2
       try clear p3
       try clear q3
       try clear hx3
       try clear c4
       try clear c5
       try clear c7
       try clear c11
       try clear c17
       try clear c17b0
       try clear c18
       try clear c18b0
       try clear hx313_0
       try clear hx313_1
       try clear p2
       try clear p313
       try clear q313
       obtain ⟨kq, x38_15, rfl, HA, HJ15, HB⟩ := hcut
       cases kq with
       | zero => exact absurd HA.out (by simp [step_Give.j2])
       | succ kj15 =>
        have H := HA.out
        clear HA
        simp only [step_Give.j2] at H
        by_cases c19 : x38_15 = true
        ·subst c19
         have H1 : (if 0 ≤ x10_2 then (if x10_2 < (l0.length : Int) then (if (wrap64 (((rd_T45 l0 x10_2).f1) + a3)) > 1048576 then ((slices_Clone_api_Step_api_Step.f l0).bind fun t315 => (some (t315, 9))) else (step_Give.l0 kj15 l0 a1 a2 a3 (wrap64 (x10_2 + 1)))) else (none)) else (none)) = some (r1, r2) := by rw [if_pos rfl] at H; exact H
         clear H
         have H := H1
         clear H1
         by_cases c20 : 0 ≤ x10_2
         ·rw [if_pos c20] at H
          have c20b0 : decide (0 ≤ x10_2) = true := decide_eq_true c20
          clear c20
          by_cases c21 : x10_2 < (l0.length : Int)
          ·rw [if_pos c21] at H
           have c21b0 : decide (x10_2 < (l0.length : Int)) = true := decide_eq_true c21
           clear c21
           by_cases c22 : (wrap64 (((rd_T45 l0 x10_2).f1) + a3)) > 1048576
           ·rw [if_pos c22] at H
            have c22b0 : decide (1048576 < (wrap64 (((rd_T45 l0 x10_2).f1) + a3))) = true := decide_eq_true c22
            clear c22
            replace H := Option.bind_eq_some_iff.mp H
            obtain ⟨t315, A230, H⟩ := H
            replace H : (some (t315, 9)) = some (r1, r2) := H
            have A23 := Aside0.mk A230
            clear A230
            simp only [Option.some.injEq, Prod.mk.injEq] at H
            obtain ⟨rfl, rfl⟩ := H
            have p314 : 0 ≤ (x10_2 : Int) := of_decide_eq_true (by first | (with_reducible assumption) | assumption)
            have q314 : x10_2 < (l0.length : Int) := of_decide_eq_true (by first | (with_reducible assumption) | assumption)
            obtain ⟨ad314, e314, hx314_0, hx314_1⟩ := at_T45 HR0.out x10_2 p314 q314
            cases e314
            replace hx314_0 := (HB.out.cell (World.block_lt_of_cell? w _ hx314_0)).trans hx314_0
            replace hx314_1 := (HB.out.cell (World.block_lt_of_cell? w _ hx314_1)).trans hx314_1
            replace p314 := eq_true p314
            replace q314 := eq_true q314
            go_wp2_with (first | ((with_reducible refine gate_callee (f := 53) rfl ?_); refine goesL_ (some 50) rfl rfl Try.func53 (by kernel_rfl) rfl #[.slice (some ad314) l0.length c0] rfl (by (try simp only [List.map_toArray, List.map_cons, List.map_nil]); first | done | rfl | (simp only [List.length_drop, List.length_take]; rfl)) ?_; (with_reducible refine (slices_Clone_api_Step_api_Step.calls _ _ l0 t315 _ ?side1 ?side2 A23.out).mono ?_); (case side1 => repeat (first | exact (Kd.C_below HR0.out HB.out) | (with_reducible refine Kd.C_alloc ?_ _) | (with_reducible refine Kd.C_drewN ?_ _) | (with_reducible refine Kd.C_drew ?_))); (case side2 => exact HC0.out); rintro e w24 ⟨v316, rfl, ho0, hb⟩; refine ⟨_, rfl, ?_⟩; have n0_ := Aside0.mk (Kd.R_lower ho0 (below_size (by repeat (first | (with_reducible first | exact HB.out | apply below_alloc | apply pw_below_drewN | apply below_drew1) | exact HB.out)))); have n1_ := Aside0.mk (below_step (by repeat (first | (with_reducible first | exact HB.out | apply below_alloc | apply pw_below_drewN | apply below_drew1) | exact HB.out)) hb); clear HB; have HO317 := n0_; have HB := n1_; clear n0_ n1_; (try clear hb); (try clear hb2); (try clear hk); (try clear hi); (try clear ho0)))
            go_ret2
            exact ⟨_, by first | rfl | (simp [errW_none, errW_some] <;> rfl) | (simp [*, errW_none, errW_some] <;> rfl), by (with_reducible repeat (first | apply Kd.R_alloc | apply Kd.R_drewN | apply Kd.R_drew)); exact HO317.out, by repeat (first | (with_reducible first | exact HB.out | apply below_alloc | apply pw_below_drewN | apply below_drew1) | exact HB.out)⟩
           ·rw [if_neg c22] at H
            have c22b0 : decide (1048576 < (wrap64 (((rd_T45 l0 x10_2).f1) + a3))) = false := decide_eq_false c22
            clear c22
            have H' := Aside0.mk H
            clear H
            have p314 : 0 ≤ (x10_2 : Int) := of_decide_eq_true (by first | (with_reducible assumption) | assumption)
            have q314 : x10_2 < (l0.length : Int) := of_decide_eq_true (by first | (with_reducible assumption) | assumption)
            obtain ⟨ad314, e314, hx314_0, hx314_1⟩ := at_T45 HR0.out x10_2 p314 q314
            cases e314
            replace hx314_0 := (HB.out.cell (World.block_lt_of_cell? w _ hx314_0)).trans hx314_0
            replace hx314_1 := (HB.out.cell (World.block_lt_of_cell? w _ hx314_1)).trans hx314_1
            replace p314 := eq_true p314
            replace q314 := eq_true q314
            go_wp2
            go_roundg kj15
            case measure => have := HJ4.out; have := HK2.out; have := HJ15.out; omega
            case rel => exact ⟨(wrap64 (x10_2 + 1)), (by first | rfl | (simp; done) | (simp [*]; done)), H', ⟨by have := HJ4.out; have := HK2.out; have := HJ15.out; omega⟩, ⟨by repeat (first | (with_reducible first | exact HB.out | apply below_alloc | apply pw_below_drewN | apply below_drew1) | exact HB.out)⟩⟩
          ·rw [if_neg c21] at H
           exact absurd H (by simp)
         ·rw [if_neg c20] at H
          exact absurd H (by simp)
        ·replace c19 := Bool.eq_false_iff.mpr c19
         subst c19
         have H1 : ((step_change.f l0 a1 a2 a3).bind fun bt318 => (some (bt318.1, bt318.2))) = some (r1, r2) := by rw [if_neg (show ¬ (false = true) by decide)] at H; exact H
         clear H
         have H := H1
         clear H1
         replace H := Option.bind_eq_some_iff.mp H
         obtain ⟨⟨t318, t319⟩, A250, H⟩ := H
         replace H : (some (t318, t319)) = some (r1, r2) := H
         have A25 := Aside0.mk A250
         clear A250
         simp only [Option.some.injEq, Prod.mk.injEq] at H
         obtain ⟨rfl, rfl⟩ := H
         go_wp2_with (first | ((with_reducible refine gate_callee (f := 54) rfl ?_); refine goesL_ (some 55) rfl rfl Try.func54 (by kernel_rfl) rfl #[.slice A0 l0.length c0, .int .i64 a1, .int .i64 a2, .int .i64 a3] rfl (by (try simp only [List.map_toArray, List.map_cons, List.map_nil]); first | done | rfl | (simp only [List.length_drop, List.length_take]; rfl)) ?_; (with_reducible refine (step_change.calls _ _ l0 a1 a2 a3 t318 t319 _ ?side1 ?side2 A25.out).mono ?_); (case side1 => repeat (first | exact (Kd.C_below HR0.out HB.out) | (with_reducible refine Kd.C_alloc ?_ _) | (with_reducible refine Kd.C_drewN ?_ _) | (with_reducible refine Kd.C_drew ?_))); (case side2 => exact HC0.out); rintro e w26 ⟨v320, rfl, ho0, hb⟩; refine ⟨_, rfl, ?_⟩; have n0_ := Aside0.mk (Kd.R_lower ho0 (below_size (by repeat (first | (with_reducible first | exact HB.out | apply below_alloc | apply pw_below_drewN | apply below_drew1) | exact HB.out)))); have n1_ := Aside0.mk (below_step (by repeat (first | (with_reducible first | exact HB.out | apply below_alloc | apply pw_below_drewN | apply below_drew1) | exact HB.out)) hb); clear HB; have HO321 := n0_; have HB := n1_; clear n0_ n1_; (try clear hb); (try clear hb2); (try clear hk); (try clear hi); (try clear ho0)))
         go_ret2
         exact ⟨_, by first | rfl | (simp [errW_none, errW_some] <;> rfl) | (simp [*, errW_none, errW_some] <;> rfl), by (with_reducible repeat (first | apply Kd.R_alloc | apply Kd.R_drewN | apply Kd.R_drew)); exact HO321.out, by repeat (first | (with_reducible first | exact HB.out | apply below_alloc | apply pw_below_drewN | apply below_drew1) | exact HB.out)⟩

end Go.Proofs.Ytimllhflecippaa.F
