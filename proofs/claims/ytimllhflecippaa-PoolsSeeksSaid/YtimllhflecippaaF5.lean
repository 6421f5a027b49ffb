-- Written by gprint.py (this repo's own driver over the kit's printer); Lean checks it.
import Derived.Test.YtimllhflecippaaF0
import Derived.Test.YtimllhflecippaaF3
namespace Go.Proofs.Ytimllhflecippaa.F
open Go.RowKit Go.Proofs.YtimllhflecippaaW.PrintWords Go.Proofs.YtimllhflecippaaW.PrintLast Go.Proofs.YtimllhflecippaaW.PrintMore
attribute [local go_sem] max2_int min2_int max_two min_two max_three min_three max_four min_four   -- for this text's walks alone
set_option linter.unusedVariables false
set_option linter.unusedSimpArgs false

/-! ### pools_Right_1: function 59 -/
def pools_Right_1.f (k : Nat) (l0 : List (S45)) : Option (Bool) := (step_Right.f k l0).bind fun t133 => (some (!t133))
theorem pools_Right_1.mono : ∀ a0 k, LeO (pools_Right_1.f k a0) (pools_Right_1.f (k + 1) a0) := by
 intro a0 k
 unfold pools_Right_1.f
 repeat' first
   | (with_reducible exact step_Right.mono _ _)
   | (with_reducible exact LeO.refl _)
   | (with_reducible exact LeO.none _)
   | (with_reducible refine LeO.ite ?_ ?_)
   | (with_reducible refine LeO.bind ?_ (fun _ => ?_))
   | exact step_Right.mono _ _
   | exact LeO.none _
   | refine LeO.ite ?_ ?_
   | refine LeO.bind ?_ (fun _ => ?_)
set_option maxHeartbeats 8000000 in
set_option maxRecDepth 100000 in
theorem pools_Right_1.calls (k : Nat) (A0 : Option Addr) (c0 : Nat) (l0 : List (S45)) (r : Bool) (w : World) (hr0 : Kd.C k45 w A0 l0.length l0) (hc0 : l0.length ≤ c0) (h : pools_Right_1.f k l0 = some r) :
  Calls Try.prog 59 #[.slice A0 l0.length c0] w fun e w' => e = .returned (.bool r) ∧ Below w.heap.size w w' := by
 have HR0 := Aside0.mk hr0
 have HC0 := Aside0.mk hc0
 clear hr0 hc0
 have HB := Aside0.mk (Below.refl w.heap.size w)
 have H : ((step_Right.f k l0).bind fun t133 => (some (!t133))) = some r := h
 clear h
 replace H := Option.bind_eq_some_iff.mp H
 obtain ⟨t133, A20, H⟩ := H
 replace H : (some (!t133)) = some r := H
 have A2 := Aside0.mk A20
 clear A20
 obtain rfl := Option.some.inj H
 go_enter Try.func59, Try.ntmps59
 go_wp2_with (first | ((with_reducible refine gate_callee (f := 17) rfl ?_); refine goesL_ (some 4) rfl rfl Try.func17 (by kernel_rfl) rfl #[.slice A0 l0.length c0] rfl (by (try simp only [List.map_toArray, List.map_cons, List.map_nil]); first | done | rfl | (simp only [List.length_drop, List.length_take]; rfl)) ?_; (with_reducible refine (step_Right.calls k _ _ l0 t133 _ ?side1 ?side2 A2.out).mono ?_); (case side1 => repeat (first | exact HR0.out | (with_reducible refine Kd.C_alloc ?_ _) | (with_reducible refine Kd.C_drewN ?_ _) | (with_reducible refine Kd.C_drew ?_))); (case side2 => exact HC0.out); rintro e w3 ⟨rfl, hb⟩; refine ⟨_, rfl, ?_⟩; have n0_ := Aside0.mk (below_step (by repeat (first | (with_reducible first | exact HB.out | apply below_alloc | apply pw_below_drewN | apply below_drew1) | exact HB.out)) hb); clear HB; have HB := n0_; clear n0_; (try clear hb); (try clear hb2); (try clear hk); (try clear hi)))
 go_ret
 exact ⟨by first | rfl | (simp [errW_none, errW_some] <;> rfl) | (simp [*, errW_none, errW_some] <;> rfl), by repeat (first | (with_reducible first | exact HB.out | apply below_alloc | apply pw_below_drewN | apply below_drew1) | exact HB.out)⟩

/-! ### slices_IndexFunc_api_Step_api_Step__at_pools_Right_1: function 67 -/
def slices_IndexFunc_api_Step_api_Step__at_pools_Right_1.l0 : Nat → List (List (S45)) → Int → Int → Option (Int)
 | 0, _, _, _ => none
 | k + 1, x0, x7, x8 => if x8 < x7 then (if 0 ≤ x8 then (if x8 < (x0.length : Int) then ((pools_Right_1.f k (rd_L2 x0 x8)).bind fun t135 => (if t135 = true then (some x8) else (slices_IndexFunc_api_Step_api_Step__at_pools_Right_1.l0 k x0 x7 (wrap64 (x8 + 1))))) else (none)) else (none)) else (some (-1))
def slices_IndexFunc_api_Step_api_Step__at_pools_Right_1.f (k : Nat) (l0 : List (List (S45)))  : Option (Int) := slices_IndexFunc_api_Step_api_Step__at_pools_Right_1.l0 k l0 (l0.length : Int) 0
theorem slices_IndexFunc_api_Step_api_Step__at_pools_Right_1.mono_l : ∀ k, (∀ y0 y1 y2, LeO (slices_IndexFunc_api_Step_api_Step__at_pools_Right_1.l0 k y0 y1 y2) (slices_IndexFunc_api_Step_api_Step__at_pools_Right_1.l0 (k + 1) y0 y1 y2))
 | 0 => fun _ _ _ r h => by simp [slices_IndexFunc_api_Step_api_Step__at_pools_Right_1.l0] at h
 | k + 1 => by
  have ih0 := slices_IndexFunc_api_Step_api_Step__at_pools_Right_1.mono_l k
  ·intro y0 y1 y2
   unfold slices_IndexFunc_api_Step_api_Step__at_pools_Right_1.l0
   repeat' first
   | (with_reducible exact ih0 _ _ _)
   | (with_reducible exact pools_Right_1.mono _ _)
   | (with_reducible exact LeO.refl _)
   | (with_reducible exact LeO.none _)
   | (with_reducible refine LeO.ite ?_ ?_)
   | (with_reducible refine LeO.bind ?_ (fun _ => ?_))
   | exact ih0 _ _ _
   | exact pools_Right_1.mono _ _
   | exact LeO.none _
   | refine LeO.ite ?_ ?_
   | refine LeO.bind ?_ (fun _ => ?_)
theorem slices_IndexFunc_api_Step_api_Step__at_pools_Right_1.mono : ∀ a0 k, LeO (slices_IndexFunc_api_Step_api_Step__at_pools_Right_1.f k a0) (slices_IndexFunc_api_Step_api_Step__at_pools_Right_1.f (k + 1) a0) := by
 intro a0 k
 have ih0 := slices_IndexFunc_api_Step_api_Step__at_pools_Right_1.mono_l k
 unfold slices_IndexFunc_api_Step_api_Step__at_pools_Right_1.f
 repeat' first
   | (with_reducible exact ih0 _ _ _)
   | (with_reducible exact pools_Right_1.mono _ _)
   | (with_reducible exact LeO.refl _)
   | (with_reducible exact LeO.none _)
   | (with_reducible refine LeO.ite ?_ ?_)
   | (with_reducible refine LeO.bind ?_ (fun _ => ?_))
   | exact ih0 _ _ _
   | exact pools_Right_1.mono _ _
   | exact LeO.none _
   | refine LeO.ite ?_ ?_
   | refine LeO.bind ?_ (fun _ => ?_)
set_option maxHeartbeats 8000000 in
set_option maxRecDepth 100000 in
theorem slices_IndexFunc_api_Step_api_Step__at_pools_Right_1.calls (k : Nat) (A0 : Option Addr) (c0 : Nat) (l0 : List (List (S45)))  (r : Int) (w : World) (hr0 : Kd.C (Kd.slice 45 k45) w A0 l0.length l0) (hc0 : l0.length ≤ c0) (h : slices_IndexFunc_api_Step_api_Step__at_pools_Right_1.f k l0 = some r) :
  Calls Try.prog 67 #[.slice A0 l0.length c0, .func (.func 59) #[] #[]] w fun e w' => e = .returned (.int .i64 r) ∧ Below w.heap.size w w' := by
 have HR0 := Aside0.mk hr0
 have HC0 := Aside0.mk hc0
 clear hr0 hc0
 have HB := Aside0.mk (Below.refl w.heap.size w)
 have H : (slices_IndexFunc_api_Step_api_Step__at_pools_Right_1.l0 k l0 (l0.length : Int) 0) = some r := h
 clear h
 have H' := Aside0.mk H
 clear H
 go_enter Try.func67, Try.ntmps67
 go_wp2
 go_loopg [8] k (fun kq v8 w' => ∃ (x8_1 : Int), v8 = .int .i64 x8_1 ∧ Aside0 (slices_IndexFunc_api_Step_api_Step__at_pools_Right_1.l0 kq l0 (l0.length : Int) x8_1 = some r) ∧ Aside0 (kq ≤ k) ∧ Aside0 (Below w.heap.size w w'))
 case atStart => exact ⟨(0), (by first | rfl | (simp; done) | (simp [*]; done)), H', ⟨Nat.le_refl _⟩, ⟨by repeat (first | (with_reducible first | exact HB.out | apply below_alloc | apply pw_below_drewN | apply below_drew1) | exact HB.out)⟩⟩
 case round =>
  clear H'
  try clear p2
  obtain ⟨x8_1, rfl, HA, HK1, HB⟩ := hrel
  cases gk with
  | zero => exact absurd HA.out (by simp [slices_IndexFunc_api_Step_api_Step__at_pools_Right_1.l0])
  | succ k1 =>
   have H := HA.out
   clear HA
   simp only [slices_IndexFunc_api_Step_api_Step__at_pools_Right_1.l0] at H
   by_cases c3 : x8_1 < (l0.length : Int)
   ·rw [if_pos c3] at H
    have c3b0 : decide (x8_1 < (l0.length : Int)) = true := decide_eq_true c3
    clear c3
    by_cases c4 : 0 ≤ x8_1
    ·rw [if_pos c4] at H
     have c4b0 : decide (0 ≤ x8_1) = true := decide_eq_true c4
     clear c4
     by_cases c5 : x8_1 < (l0.length : Int)
     ·rw [if_pos c5] at H
      have c5b0 : decide (x8_1 < (l0.length : Int)) = true := decide_eq_true c5
      clear c5
      replace H := Option.bind_eq_some_iff.mp H
      obtain ⟨t135, A60, H⟩ := H
      replace H : (if t135 = true then (some x8_1) else (slices_IndexFunc_api_Step_api_Step__at_pools_Right_1.l0 k1 l0 (l0.length : Int) (wrap64 (x8_1 + 1)))) = some r := H
      have A6 := Aside0.mk A60
      clear A60
      by_cases c7 : t135 = true
      ·subst c7
       have H1 : (some x8_1) = some r := by rw [if_pos rfl] at H; exact H
       clear H
       have H := H1
       clear H1
       obtain rfl := Option.some.inj H
       have p134 : 0 ≤ (x8_1 : Int) := of_decide_eq_true (by first | (with_reducible assumption) | assumption)
       have q134 : x8_1 < (l0.length : Int) := of_decide_eq_true (by first | (with_reducible assumption) | assumption)
       obtain ⟨ad134, A134_0, c134_0, e134, hx134_0, hl134_0, hi134_0⟩ := at_L2 HR0.out x8_1 p134 q134
       cases e134
       replace hx134_0 := (HB.out.cell (World.block_lt_of_cell? w _ hx134_0)).trans hx134_0
       have HR134_0 := Aside0.mk hi134_0
       have HC134_0 := Aside0.mk hl134_0
       clear hi134_0 hl134_0
       replace p134 := eq_true p134
       replace q134 := eq_true q134
       go_wp2_with (first | (go_at_call 59; (with_reducible refine (pools_Right_1.calls k1 _ _ (rd_L2 l0 x8_1) true _ ?side1 ?side2 A6.out).mono ?_); (case side1 => repeat (first | exact (Kd.C_below HR134_0.out HB.out) | (with_reducible refine Kd.C_alloc ?_ _) | (with_reducible refine Kd.C_drewN ?_ _) | (with_reducible refine Kd.C_drew ?_))); (case side2 => exact HC134_0.out); rintro e w8 ⟨rfl, hb⟩; have n0_ := Aside0.mk (below_step (by repeat (first | (with_reducible first | exact HB.out | apply below_alloc | apply pw_below_drewN | apply below_drew1) | exact HB.out)) hb); clear HB; have HB := n0_; clear n0_; (try clear hb); (try clear hb2); (try clear hk); (try clear hi)))
       go_ret
       exact ⟨by first | rfl | (simp [errW_none, errW_some] <;> rfl) | (simp [*, errW_none, errW_some] <;> rfl), by repeat (first | (with_reducible first | exact HB.out | apply below_alloc | apply pw_below_drewN | apply below_drew1) | exact HB.out)⟩
      ·replace c7 := Bool.eq_false_iff.mpr c7
       subst c7
       have H1 : (slices_IndexFunc_api_Step_api_Step__at_pools_Right_1.l0 k1 l0 (l0.length : Int) (wrap64 (x8_1 + 1))) = some r := by rw [if_neg (show ¬ (false = true) by decide)] at H; exact H
       clear H
       have H := H1
       clear H1
       have H' := Aside0.mk H
       clear H
       have p134 : 0 ≤ (x8_1 : Int) := of_decide_eq_true (by first | (with_reducible assumption) | assumption)
       have q134 : x8_1 < (l0.length : Int) := of_decide_eq_true (by first | (with_reducible assumption) | assumption)
       obtain ⟨ad134, A134_0, c134_0, e134, hx134_0, hl134_0, hi134_0⟩ := at_L2 HR0.out x8_1 p134 q134
       cases e134
       replace hx134_0 := (HB.out.cell (World.block_lt_of_cell? w _ hx134_0)).trans hx134_0
       have HR134_0 := Aside0.mk hi134_0
       have HC134_0 := Aside0.mk hl134_0
       clear hi134_0 hl134_0
       replace p134 := eq_true p134
       replace q134 := eq_true q134
       go_wp2_with (first | (go_at_call 59; (with_reducible refine (pools_Right_1.calls k1 _ _ (rd_L2 l0 x8_1) false _ ?side1 ?side2 A6.out).mono ?_); (case side1 => repeat (first | exact (Kd.C_below HR134_0.out HB.out) | (with_reducible refine Kd.C_alloc ?_ _) | (with_reducible refine Kd.C_drewN ?_ _) | (with_reducible refine Kd.C_drew ?_))); (case side2 => exact HC134_0.out); rintro e w9 ⟨rfl, hb⟩; have n0_ := Aside0.mk (below_step (by repeat (first | (with_reducible first | exact HB.out | apply below_alloc | apply pw_below_drewN | apply below_drew1) | exact HB.out)) hb); clear HB; have HB := n0_; clear n0_; (try clear hb); (try clear hb2); (try clear hk); (try clear hi)))
       go_roundg k1
       case measure => have := HK1.out; omega
       case rel => exact ⟨(wrap64 (x8_1 + 1)), (by first | rfl | (simp; done) | (simp [*]; done)), H', ⟨by have := HK1.out; omega⟩, ⟨by repeat (first | (with_reducible first | exact HB.out | apply below_alloc | apply pw_below_drewN | apply below_drew1) | exact HB.out)⟩⟩
     ·rw [if_neg c5] at H
      exact absurd H (by simp)
    ·rw [if_neg c4] at H
     exact absurd H (by simp)
   ·rw [if_neg c3] at H
    have c3b0 : decide (x8_1 < (l0.length : Int)) = false := decide_eq_false c3
    clear c3
    obtain rfl := Option.some.inj H
    go_wp2
    go_ret
    exact ⟨by first | rfl | (simp [errW_none, errW_some] <;> rfl) | (simp [*, errW_none, errW_some] <;> rfl), by repeat (first | (with_reducible first | exact HB.out | apply below_alloc | apply pw_below_drewN | apply below_drew1) | exact HB.out)⟩

/-! ### slices_ContainsFunc_api_Step_api_Step__at_pools_Right_1: function 58 -/
def slices_ContainsFunc_api_Step_api_Step__at_pools_Right_1.f (k : Nat) (l0 : List (List (S45)))  : Option (Bool) := (slices_IndexFunc_api_Step_api_Step__at_pools_Right_1.f k l0).bind fun t136 => (some (decide (t136 ≥ 0)))
theorem slices_ContainsFunc_api_Step_api_Step__at_pools_Right_1.mono : ∀ a0 k, LeO (slices_ContainsFunc_api_Step_api_Step__at_pools_Right_1.f k a0) (slices_ContainsFunc_api_Step_api_Step__at_pools_Right_1.f (k + 1) a0) := by
 intro a0 k
 unfold slices_ContainsFunc_api_Step_api_Step__at_pools_Right_1.f
 repeat' first
   | (with_reducible exact slices_IndexFunc_api_Step_api_Step__at_pools_Right_1.mono _ _)
   | (with_reducible exact LeO.refl _)
   | (with_reducible exact LeO.none _)
   | (with_reducible refine LeO.ite ?_ ?_)
   | (with_reducible refine LeO.bind ?_ (fun _ => ?_))
   | exact slices_IndexFunc_api_Step_api_Step__at_pools_Right_1.mono _ _
   | exact LeO.none _
   | refine LeO.ite ?_ ?_
   | refine LeO.bind ?_ (fun _ => ?_)
set_option maxHeartbeats 8000000 in
set_option maxRecDepth 100000 in
theorem slices_ContainsFunc_api_Step_api_Step__at_pools_Right_1.calls (k : Nat) (A0 : Option Addr) (c0 : Nat) (l0 : List (List (S45)))  (r : Bool) (w : World) (hr0 : Kd.C (Kd.slice 45 k45) w A0 l0.length l0) (hc0 : l0.length ≤ c0) (h : slices_ContainsFunc_api_Step_api_Step__at_pools_Right_1.f k l0 = some r) :
  Calls Try.prog 58 #[.slice A0 l0.length c0, .func (.func 59) #[] #[]] w fun e w' => e = .returned (.bool r) ∧ Below w.heap.size w w' := by
 have HR0 := Aside0.mk hr0
 have HC0 := Aside0.mk hc0
 clear hr0 hc0
 have HB := Aside0.mk (Below.refl w.heap.size w)
 have H : ((slices_IndexFunc_api_Step_api_Step__at_pools_Right_1.f k l0).bind fun t136 => (some (decide (t136 ≥ 0)))) = some r := h
 clear h
 replace H := Option.bind_eq_some_iff.mp H
 obtain ⟨t136, A30, H⟩ := H
 replace H : (some (decide (t136 ≥ 0))) = some r := H
 have A3 := Aside0.mk A30
 clear A30
 obtain rfl := Option.some.inj H
 go_enter Try.func58, Try.ntmps58
 go_wp2_with (first | ((with_reducible refine gate_callee (f := 67) rfl ?_); refine goesL_ (some 7) rfl rfl Try.func67 (by kernel_rfl) rfl #[.slice A0 l0.length c0, .func (.func 59) #[] #[]] rfl (by (try simp only [List.map_toArray, List.map_cons, List.map_nil]); first | done | rfl | (simp only [List.length_drop, List.length_take]; rfl)) ?_; (with_reducible refine (slices_IndexFunc_api_Step_api_Step__at_pools_Right_1.calls k _ _ l0  t136 _ ?side1 ?side2 A3.out).mono ?_); (case side1 => repeat (first | exact HR0.out | (with_reducible refine Kd.C_alloc ?_ _) | (with_reducible refine Kd.C_drewN ?_ _) | (with_reducible refine Kd.C_drew ?_))); (case side2 => exact HC0.out); rintro e w4 ⟨rfl, hb⟩; refine ⟨_, rfl, ?_⟩; have n0_ := Aside0.mk (below_step (by repeat (first | (with_reducible first | exact HB.out | apply below_alloc | apply pw_below_drewN | apply below_drew1) | exact HB.out)) hb); clear HB; have HB := n0_; clear n0_; (try clear hb); (try clear hb2); (try clear hk); (try clear hi)))
 go_ret
 exact ⟨by first | rfl | (simp [errW_none, errW_some] <;> rfl) | (simp [*, errW_none, errW_some] <;> rfl), by repeat (first | (with_reducible first | exact HB.out | apply below_alloc | apply pw_below_drewN | apply below_drew1) | exact HB.out)⟩

/-! ### pools_Right: function 36 -/
def pools_Right.f (k : Nat) (l0 : List (List (S45))) : Option (Bool) := if (l0.length : Int) ≥ 1 then (if (l0.length : Int) ≤ 4 then ((slices_ContainsFunc_api_Step_api_Step__at_pools_Right_1.f k l0).bind fun t137 => (some (!t137))) else (some false)) else (some false)
theorem pools_Right.mono : ∀ a0 k, LeO (pools_Right.f k a0) (pools_Right.f (k + 1) a0) := by
 intro a0 k
 unfold pools_Right.f
 repeat' first
   | (with_reducible exact slices_ContainsFunc_api_Step_api_Step__at_pools_Right_1.mono _ _)
   | (with_reducible exact LeO.refl _)
   | (with_reducible exact LeO.none _)
   | (with_reducible refine LeO.ite ?_ ?_)
   | (with_reducible refine LeO.bind ?_ (fun _ => ?_))
   | exact slices_ContainsFunc_api_Step_api_Step__at_pools_Right_1.mono _ _
   | exact LeO.none _
   | refine LeO.ite ?_ ?_
   | refine LeO.bind ?_ (fun _ => ?_)
set_option maxHeartbeats 8000000 in
set_option maxRecDepth 100000 in
theorem pools_Right.calls (k : Nat) (A0 : Option Addr) (c0 : Nat) (l0 : List (List (S45))) (r : Bool) (w : World) (hr0 : Kd.C (Kd.slice 45 k45) w A0 l0.length l0) (hc0 : l0.length ≤ c0) (h : pools_Right.f k l0 = some r) :
  Calls Try.prog 36 #[.slice A0 l0.length c0] w fun e w' => e = .returned (.bool r) ∧ Below w.heap.size w w' := by
 have HR0 := Aside0.mk hr0
 have HC0 := Aside0.mk hc0
 clear hr0 hc0
 have HB := Aside0.mk (Below.refl w.heap.size w)
 have H : (if (l0.length : Int) ≥ 1 then (if (l0.length : Int) ≤ 4 then ((slices_ContainsFunc_api_Step_api_Step__at_pools_Right_1.f k l0).bind fun t137 => (some (!t137))) else (some false)) else (some false)) = some r := h
 clear h
 by_cases c2 : (l0.length : Int) ≥ 1
 ·rw [if_pos c2] at H
  have c2b0 : decide (1 ≤ (l0.length : Int)) = true := decide_eq_true c2
  have c2b1 : decide (1 ≤ l0.length) = true := decide_eq_true (by omega)
  clear c2
  by_cases c3 : (l0.length : Int) ≤ 4
  ·rw [if_pos c3] at H
   have c3b0 : decide ((l0.length : Int) ≤ 4) = true := decide_eq_true c3
   have c3b1 : decide (l0.length ≤ 4) = true := decide_eq_true (by omega)
   clear c3
   replace H := Option.bind_eq_some_iff.mp H
   obtain ⟨t137, A40, H⟩ := H
   replace H : (some (!t137)) = some r := H
   have A4 := Aside0.mk A40
   clear A40
   obtain rfl := Option.some.inj H
   go_enter Try.func36, Try.ntmps36
   go_wp2_with (first | (go_at_call 58; (with_reducible refine (slices_ContainsFunc_api_Step_api_Step__at_pools_Right_1.calls k _ _ l0  t137 _ ?side1 ?side2 A4.out).mono ?_); (case side1 => repeat (first | exact HR0.out | (with_reducible refine Kd.C_alloc ?_ _) | (with_reducible refine Kd.C_drewN ?_ _) | (with_reducible refine Kd.C_drew ?_))); (case side2 => exact HC0.out); rintro e w5 ⟨rfl, hb⟩; have n0_ := Aside0.mk (below_step (by repeat (first | (with_reducible first | exact HB.out | apply below_alloc | apply pw_below_drewN | apply below_drew1) | exact HB.out)) hb); clear HB; have HB := n0_; clear n0_; (try clear hb); (try clear hb2); (try clear hk); (try clear hi)))
   go_ret
   exact ⟨by first | rfl | (simp [errW_none, errW_some] <;> rfl) | (simp [*, errW_none, errW_some] <;> rfl), by repeat (first | (with_reducible first | exact HB.out | apply below_alloc | apply pw_below_drewN | apply below_drew1) | exact HB.out)⟩
  ·rw [if_neg c3] at H
   have c3b0 : decide ((l0.length : Int) ≤ 4) = false := decide_eq_false c3
   have c3b1 : decide (l0.length ≤ 4) = false := decide_eq_false (by omega)
   clear c3
   obtain rfl := Option.some.inj H
   go_enter Try.func36, Try.ntmps36
   go_wp2
   go_ret
   exact ⟨by first | rfl | (simp [errW_none, errW_some] <;> rfl) | (simp [*, errW_none, errW_some] <;> rfl), by repeat (first | (with_reducible first | exact HB.out | apply below_alloc | apply pw_below_drewN | apply below_drew1) | exact HB.out)⟩
 ·rw [if_neg c2] at H
  have c2b0 : decide (1 ≤ (l0.length : Int)) = false := decide_eq_false c2
  have c2b1 : decide (1 ≤ l0.length) = false := decide_eq_false (by omega)
  clear c2
  obtain rfl := Option.some.inj H
  go_enter Try.func36, Try.ntmps36
  go_wp2
  go_ret
  exact ⟨by first | rfl | (simp [errW_none, errW_some] <;> rfl) | (simp [*, errW_none, errW_some] <;> rfl), by repeat (first | (with_reducible first | exact HB.out | apply below_alloc | apply pw_below_drewN | apply below_drew1) | exact HB.out)⟩

end Go.Proofs.Ytimllhflecippaa.F
