-- Written by gprint.py (this repo's own driver over the kit's printer); Lean checks it.
import Derived.Test.YtimllhflecippaaF0
namespace Go.Proofs.Ytimllhflecippaa.F
open Go.RowKit Go.Proofs.YtimllhflecippaaW.PrintWords Go.Proofs.YtimllhflecippaaW.PrintLast Go.Proofs.YtimllhflecippaaW.PrintMore
attribute [local go_sem] max2_int min2_int max_two min_two max_three min_three max_four min_four   -- for this text's walks alone
set_option linter.unusedVariables false
set_option linter.unusedSimpArgs false

/-! ### bailiwickref03_Right: function 30 -/
mutual
def bailiwickref03_Right.j0 : Nat → List (S45) → Bool → Option (Bool)
 | 0, _, _ => none
 | k + 1, x0, x18 => if x18 = true then (some false) else (bailiwickref03_Right.l0 k x0 0)
def bailiwickref03_Right.l0 : Nat → List (S45) → Int → Option (Bool)
 | 0, _, _ => none
 | k + 1, x0, x3 => if x3 < (x0.length : Int) then (if 0 ≤ x3 then (if ((rd_T45 x0 x3).f1) < 0 then (bailiwickref03_Right.j2 k x0 x3 true) else (if ((rd_T45 x0 x3).f1) > 1048576 then (bailiwickref03_Right.j2 k x0 x3 true) else (if ((rd_T45 x0 x3).f0) < 0 then (bailiwickref03_Right.j2 k x0 x3 true) else (bailiwickref03_Right.j2 k x0 x3 (decide (((rd_T45 x0 x3).f0) > 4611686018427387904)))))) else (none)) else (some true)
def bailiwickref03_Right.j2 : Nat → List (S45) → Int → Bool → Option (Bool)
 | 0, _, _, _ => none
 | k + 1, x0, x3, x54 => if x54 = true then (some false) else (if x3 > 0 then (if 0 ≤ x3 then (if x3 < (x0.length : Int) then (if 0 ≤ (wrap64 (x3 - 1)) then (if (wrap64 (x3 - 1)) < (x0.length : Int) then (if ((rd_T45 x0 x3).f0) ≤ ((rd_T45 x0 (wrap64 (x3 - 1))).f0) then (some false) else (if ((rd_T45 x0 x3).f1) = ((rd_T45 x0 (wrap64 (x3 - 1))).f1) then (some false) else (bailiwickref03_Right.l0 k x0 (wrap64 (x3 + 1))))) else (none)) else (none)) else (none)) else (none)) else (bailiwickref03_Right.l0 k x0 (wrap64 (x3 + 1))))
end
def bailiwickref03_Right.f (k : Nat) (l0 : List (S45)) : Option (Bool) := if (l0.length : Int) = 0 then (bailiwickref03_Right.j0 k l0 true) else (if (l0.length : Int) > 1024 then (bailiwickref03_Right.j0 k l0 true) else (if 0 < (l0.length : Int) then (bailiwickref03_Right.j0 k l0 (((rd_T45 l0 0).f0) != 0)) else (none)))
theorem bailiwickref03_Right.mono_l : ∀ k, (∀ y0 y1, LeO (bailiwickref03_Right.j0 k y0 y1) (bailiwickref03_Right.j0 (k + 1) y0 y1)) ∧ (∀ y0 y1, LeO (bailiwickref03_Right.l0 k y0 y1) (bailiwickref03_Right.l0 (k + 1) y0 y1)) ∧ (∀ y0 y1 y2, LeO (bailiwickref03_Right.j2 k y0 y1 y2) (bailiwickref03_Right.j2 (k + 1) y0 y1 y2))
 | 0 => ⟨fun _ _ r h => by simp [bailiwickref03_Right.j0] at h, fun _ _ r h => by simp [bailiwickref03_Right.l0] at h, fun _ _ _ r h => by simp [bailiwickref03_Right.j2] at h⟩
 | k + 1 => by
  obtain ⟨ih0, ih1, ih2⟩ := bailiwickref03_Right.mono_l k
  refine ⟨?_, ?_, ?_⟩
  ·intro y0 y1
   unfold bailiwickref03_Right.j0
   repeat' first
   | (with_reducible exact ih0 _ _)
   | (with_reducible exact ih1 _ _)
   | (with_reducible exact ih2 _ _ _)
   | (with_reducible exact LeO.refl _)
   | (with_reducible exact LeO.none _)
   | (with_reducible refine LeO.ite ?_ ?_)
   | (with_reducible refine LeO.bind ?_ (fun _ => ?_))
   | exact ih0 _ _
   | exact ih1 _ _
   | exact ih2 _ _ _
   | exact LeO.none _
   | refine LeO.ite ?_ ?_
   | refine LeO.bind ?_ (fun _ => ?_)
  ·intro y0 y1
   unfold bailiwickref03_Right.l0
   repeat' first
   | (with_reducible exact ih0 _ _)
   | (with_reducible exact ih1 _ _)
   | (with_reducible exact ih2 _ _ _)
   | (with_reducible exact LeO.refl _)
   | (with_reducible exact LeO.none _)
   | (with_reducible refine LeO.ite ?_ ?_)
   | (with_reducible refine LeO.bind ?_ (fun _ => ?_))
   | exact ih0 _ _
   | exact ih1 _ _
   | exact ih2 _ _ _
   | exact LeO.none _
   | refine LeO.ite ?_ ?_
   | refine LeO.bind ?_ (fun _ => ?_)
  ·intro y0 y1 y2
   unfold bailiwickref03_Right.j2
   repeat' first
   | (with_reducible exact ih0 _ _)
   | (with_reducible exact ih1 _ _)
   | (with_reducible exact ih2 _ _ _)
   | (with_reducible exact LeO.refl _)
   | (with_reducible exact LeO.none _)
   | (with_reducible refine LeO.ite ?_ ?_)
   | (with_reducible refine LeO.bind ?_ (fun _ => ?_))
   | exact ih0 _ _
   | exact ih1 _ _
   | exact ih2 _ _ _
   | exact LeO.none _
   | refine LeO.ite ?_ ?_
   | refine LeO.bind ?_ (fun _ => ?_)
theorem bailiwickref03_Right.mono : ∀ a0 k, LeO (bailiwickref03_Right.f k a0) (bailiwickref03_Right.f (k + 1) a0) := by
 intro a0 k
 obtain ⟨ih0, ih1, ih2⟩ := bailiwickref03_Right.mono_l k
 unfold bailiwickref03_Right.f
 repeat' first
   | (with_reducible exact ih0 _ _)
   | (with_reducible exact ih1 _ _)
   | (with_reducible exact ih2 _ _ _)
   | (with_reducible exact LeO.refl _)
   | (with_reducible exact LeO.none _)
   | (with_reducible refine LeO.ite ?_ ?_)
   | (with_reducible refine LeO.bind ?_ (fun _ => ?_))
   | exact ih0 _ _
   | exact ih1 _ _
   | exact ih2 _ _ _
   | exact LeO.none _
   | refine LeO.ite ?_ ?_
   | refine LeO.bind ?_ (fun _ => ?_)
set_option maxHeartbeats 8000000 in
set_option maxRecDepth 100000 in
theorem bailiwickref03_Right.calls (k : Nat) (A0 : Option Addr) (c0 : Nat) (l0 : List (S45)) (r : Bool) (w : World) (hr0 : Kd.C k45 w A0 l0.length l0) (hc0 : l0.length ≤ c0) (h : bailiwickref03_Right.f k l0 = some r) :
  Calls Try.prog 30 #[.slice A0 l0.length c0] w fun e w' => e = .returned (.bool r) ∧ Drawn0 w w' := by
 have HR0 := Aside0.mk hr0
 have HC0 := Aside0.mk hc0
 clear hr0 hc0
 have H : (if (l0.length : Int) = 0 then (bailiwickref03_Right.j0 k l0 true) else (if (l0.length : Int) > 1024 then (bailiwickref03_Right.j0 k l0 true) else (if 0 < (l0.length : Int) then (bailiwickref03_Right.j0 k l0 (((rd_T45 l0 0).f0) != 0)) else (none)))) = some r := h
 clear h
 have HC2 := Aside0.mk H
 clear H
 go_enter Try.func30, Try.ntmps30
 go_upto_region 1 with (fail)
 repeat (go_quiet (fail); go_upto_region 1 with (fail))
 go_cut [18] (fun v18 wc => ∃ (kq : Nat) (x18_1 : Bool), v18 = .bool x18_1 ∧ Aside0 (bailiwickref03_Right.j0 kq l0 x18_1 = some r) ∧ Aside0 (kq ≤ k) ∧ Drawn0 w wc)
 case first =>
  have H := HC2.out
  clear HC2
  by_cases c3 : (l0.length : Int) = 0
  ·rw [if_pos c3] at H
   have c3b0 : ((l0.length : Int) == 0) = true := beq_iff_eq.mpr c3
   have c3b1 : ((l0.length : Int) != 0) = false := bne_eq_false_iff_eq.mpr c3
   clear c3
   (first | rw [c3b0] | (simp only [i64_w, i32_w]; rw [c3b0]) | skip)
   have H' := Aside0.mk H
   clear H
   go_wp2
   repeat (go_quiet (fail); try go_wp2)
   go_meet
   case rel => exact ⟨_, (true), (by first | rfl | (simp; done) | (simp [*]; done)), H', ⟨by first | omega | exact Nat.le_refl _⟩, by repeat (first | exact Drawn0.refl _ | apply Drawn0.step)⟩
  ·rw [if_neg c3] at H
   have c3b0 : ((l0.length : Int) == 0) = false := beq_eq_false_iff_ne.mpr c3
   have c3b1 : ((l0.length : Int) != 0) = true := bne_iff_ne.mpr c3
   have c3b2 : ¬ (l0 = []) := fun h_ => c3 (by rw [h_]; rfl)
   (first | rw [c3b0] | (simp only [i64_w, i32_w]; rw [c3b0]) | skip)
   by_cases c4 : (l0.length : Int) > 1024
   ·rw [if_pos c4] at H
    have c4b0 : decide (1024 < (l0.length : Int)) = true := decide_eq_true c4
    have c4b1 : decide (1024 < l0.length) = true := decide_eq_true (by omega)
    clear c4
    have H' := Aside0.mk H
    clear H
    go_wp2
    repeat (go_quiet (fail); try go_wp2)
    go_meet
    case rel => exact ⟨_, (true), (by first | rfl | (simp; done) | (simp [*]; done)), H', ⟨by first | omega | exact Nat.le_refl _⟩, by repeat (first | exact Drawn0.refl _ | apply Drawn0.step)⟩
   ·rw [if_neg c4] at H
    have c4b0 : decide (1024 < (l0.length : Int)) = false := decide_eq_false c4
    have c4b1 : decide (1024 < l0.length) = false := decide_eq_false (by omega)
    clear c4
    by_cases c5 : 0 < (l0.length : Int)
    ·rw [if_pos c5] at H
     have c5b0 : decide (0 < (l0.length : Int)) = true := decide_eq_true c5
     have c5b1 : decide (0 < l0.length) = true := decide_eq_true (by omega)
     clear c5
     have H' := Aside0.mk H
     clear H
     have p252 : 0 ≤ (0 : Int) := (by omega)
     have q252 : 0 < (l0.length : Int) := of_decide_eq_true (by first | (with_reducible assumption) | assumption)
     obtain ⟨ad252, e252, hx252_0, hx252_1⟩ := at_T45 HR0.out 0 p252 q252
     cases e252
     have qi252 : (0 < l0.length) = True := eq_true (by omega)
     (try rw [show ((0 : Int)).toNat = 0 from rfl] at hx252_0)
     (try rw [show 0 * 2 = 0 from rfl] at hx252_0)
     (try rw [Addr.add_zero'] at hx252_0)
     (try rw [show ((0 : Int)).toNat = 0 from rfl] at hx252_1)
     (try rw [show 0 * 2 = 0 from rfl] at hx252_1)
     (try rw [Addr.add_zero'] at hx252_1)
     replace p252 := eq_true p252
     replace q252 := eq_true q252
     go_wp2
     repeat (go_quiet (fail); try go_wp2)
     go_meet
     case rel => exact ⟨_, ((((rd_T45 l0 0).f0) != 0)), (by first | rfl | (simp; done) | (simp [*]; done)), H', ⟨by first | omega | exact Nat.le_refl _⟩, by repeat (first | exact Drawn0.refl _ | apply Drawn0.step)⟩
    ·rw [if_neg c5] at H
     exact absurd H (by simp)
 case rest =>
  clear HC2
  try clear p2
  try clear q2
  try clear hx2
  try clear qi2
  try clear c3
  try clear c3b0
  try clear c3b1
  try clear c3b2
  try clear c4
  try clear c4b0
  try clear c4b1
  try clear c5
  try clear c5b0
  try clear c5b1
  try clear hx252_0
  try clear hx252_1
  try clear p252
  try clear q252
  obtain ⟨kq, x18_1, rfl, HA, HJ1, ⟨mc1, rfl⟩⟩ := hcut
  cases kq with
  | zero => exact absurd HA.out (by simp [bailiwickref03_Right.j0])
  | succ kj1 =>
   have H := HA.out
   clear HA
   simp only [bailiwickref03_Right.j0] at H
   by_cases c6 : x18_1 = true
   ·subst c6
    have H1 : (some false) = some r := by rw [if_pos rfl] at H; exact H
    clear H
    have H := H1
    clear H1
    obtain rfl := Option.some.inj H
    go_wp2
    repeat (go_quiet (fail); try go_wp2)
    go_ret
    exact ⟨by first | rfl | (simp; done) | (simp [*]; done), by repeat (first | exact Drawn0.refl _ | apply Drawn0.step)⟩
   ·replace c6 := Bool.eq_false_iff.mpr c6
    subst c6
    have H1 : (bailiwickref03_Right.l0 kj1 l0 0) = some r := by rw [if_neg (show ¬ (false = true) by decide)] at H; exact H
    clear H
    have H := H1
    clear H1
    have H' := Aside0.mk H
    clear H
    go_wp2
    repeat (go_quiet (fail); try go_wp2)
    go_loopg [3] kj1 (fun kq v3 w' => ∃ (x3_2 : Int), v3 = .int .i64 x3_2 ∧ Aside0 (bailiwickref03_Right.l0 kq l0 x3_2 = some r) ∧ Aside0 (kq ≤ kj1) ∧ Drawn0 w w')
    case atStart => exact ⟨(0), (by first | rfl | (simp; done) | (simp [*]; done)), H', ⟨Nat.le_refl _⟩, by repeat (first | exact Drawn0.refl _ | apply Drawn0.step)⟩
    case round =>
     clear H'
     try clear c1
     try clear p2
     try clear q2
     try clear hx2
     try clear qi2
     try clear c3
     try clear c3b0
     try clear c3b1
     try clear c3b2
     try clear c4
     try clear c4b0
     try clear c4b1
     try clear c5
     try clear c5b0
     try clear c5b1
     try clear c6
     try clear hx252_0
     try clear hx252_1
     try clear p2
     try clear p252
     try clear q2
     try clear q252
     obtain ⟨x3_2, rfl, HA, HK2, ⟨m2, rfl⟩⟩ := hrel
     cases gk with
     | zero => exact absurd HA.out (by simp [bailiwickref03_Right.l0])
     | succ k2 =>
      have H := HA.out
      clear HA
      simp only [bailiwickref03_Right.l0] at H
      by_cases c7 : x3_2 < (l0.length : Int)
      ·rw [if_pos c7] at H
       have c7b0 : decide (x3_2 < (l0.length : Int)) = true := decide_eq_true c7
       clear c7
       have HC8 := Aside0.mk H
       clear H
       go_upto_region 6 with (fail)
       repeat (go_quiet (fail); go_upto_region 6 with (fail))
       go_cut [54] (fun v54 wc => ∃ (kq : Nat) (x54_7 : Bool), v54 = .bool x54_7 ∧ Aside0 (bailiwickref03_Right.j2 kq l0 x3_2 x54_7 = some r) ∧ Aside0 (kq ≤ k2) ∧ Drawn0 w wc)
       case first =>
        have H := HC8.out
        clear HC8
        by_cases c9 : 0 ≤ x3_2
        ·rw [if_pos c9] at H
         have c9b0 : decide (0 ≤ x3_2) = true := decide_eq_true c9
         clear c9
         (first | rw [c9b0] | (simp only [i64_w, i32_w]; rw [c9b0]) | skip)
         by_cases c10 : ((rd_T45 l0 x3_2).f1) < 0
         ·rw [if_pos c10] at H
          have c10b0 : decide (((rd_T45 l0 x3_2).f1) < 0) = true := decide_eq_true c10
          clear c10
          have H' := Aside0.mk H
          clear H
          have p253 : 0 ≤ (x3_2 : Int) := of_decide_eq_true (by first | (with_reducible assumption) | assumption)
          have q253 : x3_2 < (l0.length : Int) := of_decide_eq_true (by first | (with_reducible assumption) | assumption)
          obtain ⟨ad253, e253, hx253_0, hx253_1⟩ := at_T45 HR0.out x3_2 p253 q253
          cases e253
          replace p253 := eq_true p253
          replace q253 := eq_true q253
          go_wp2
          repeat (go_quiet (fail); try go_wp2)
          go_meet
          case rel => exact ⟨_, (true), (by first | rfl | (simp; done) | (simp [*]; done)), H', ⟨by have := HJ1.out; have := HK2.out; first | omega | exact Nat.le_refl _⟩, by repeat (first | exact Drawn0.refl _ | apply Drawn0.step)⟩
         ·rw [if_neg c10] at H
          have c10b0 : decide (((rd_T45 l0 x3_2).f1) < 0) = false := decide_eq_false c10
          clear c10
          by_cases c11 : ((rd_T45 l0 x3_2).f1) > 1048576
          ·rw [if_pos c11] at H
           have c11b0 : decide (1048576 < ((rd_T45 l0 x3_2).f1)) = true := decide_eq_true c11
           clear c11
           have H' := Aside0.mk H
           clear H
           have p253 : 0 ≤ (x3_2 : Int) := of_decide_eq_true (by first | (with_reducible assumption) | assumption)
           have q253 : x3_2 < (l0.length : Int) := of_decide_eq_true (by first | (with_reducible assumption) | assumption)
           obtain ⟨ad253, e253, hx253_0, hx253_1⟩ := at_T45 HR0.out x3_2 p253 q253
           cases e253
           replace p253 := eq_true p253
           replace q253 := eq_true q253
           have p254 : 0 ≤ (x3_2 : Int) := of_decide_eq_true (by first | (with_reducible assumption) | assumption)
           have q254 : x3_2 < (l0.length : Int) := of_decide_eq_true (by first | (with_reducible assumption) | assumption)
           obtain ⟨ad254, e254, hx254_0, hx254_1⟩ := at_T45 HR0.out x3_2 p254 q254
           obtain rfl : ad253 = ad254 := (by injection e254)
           replace p254 := eq_true p254
           replace q254 := eq_true q254
           go_wp2
           repeat (go_quiet (fail); try go_wp2)
           go_meet
           case rel => exact ⟨_, (true), (by first | rfl | (simp; done) | (simp [*]; done)), H', ⟨by have := HJ1.out; have := HK2.out; first | omega | exact Nat.le_refl _⟩, by repeat (first | exact Drawn0.refl _ | apply Drawn0.step)⟩
          ·rw [if_neg c11] at H
           have c11b0 : decide (1048576 < ((rd_T45 l0 x3_2).f1)) = false := decide_eq_false c11
           clear c11
           by_cases c12 : ((rd_T45 l0 x3_2).f0) < 0
           ·rw [if_pos c12] at H
            have c12b0 : decide (((rd_T45 l0 x3_2).f0) < 0) = true := decide_eq_true c12
            clear c12
            have H' := Aside0.mk H
            clear H
            have p253 : 0 ≤ (x3_2 : Int) := of_decide_eq_true (by first | (with_reducible assumption) | assumption)
            have q253 : x3_2 < (l0.length : Int) := of_decide_eq_true (by first | (with_reducible assumption) | assumption)
            obtain ⟨ad253, e253, hx253_0, hx253_1⟩ := at_T45 HR0.out x3_2 p253 q253
            cases e253
            replace p253 := eq_true p253
            replace q253 := eq_true q253
            have p254 : 0 ≤ (x3_2 : Int) := of_decide_eq_true (by first | (with_reducible assumption) | assumption)
            have q254 : x3_2 < (l0.length : Int) := of_decide_eq_true (by first | (with_reducible assumption) | assumption)
            obtain ⟨ad254, e254, hx254_0, hx254_1⟩ := at_T45 HR0.out x3_2 p254 q254
            obtain rfl : ad253 = ad254 := (by injection e254)
            replace p254 := eq_true p254
            replace q254 := eq_true q254
            have p255 : 0 ≤ (x3_2 : Int) := of_decide_eq_true (by first | (with_reducible assumption) | assumption)
            have q255 : x3_2 < (l0.length : Int) := of_decide_eq_true (by first | (with_reducible assumption) | assumption)
            obtain ⟨ad255, e255, hx255_0, hx255_1⟩ := at_T45 HR0.out x3_2 p255 q255
            obtain rfl : ad253 = ad255 := (by injection e255)
            replace p255 := eq_true p255
            replace q255 := eq_true q255
            go_wp2
            repeat (go_quiet (fail); try go_wp2)
            go_meet
            case rel => exact ⟨_, (true), (by first | rfl | (simp; done) | (simp [*]; done)), H', ⟨by have := HJ1.out; have := HK2.out; first | omega | exact Nat.le_refl _⟩, by repeat (first | exact Drawn0.refl _ | apply Drawn0.step)⟩
           ·rw [if_neg c12] at H
            have c12b0 : decide (((rd_T45 l0 x3_2).f0) < 0) = false := decide_eq_false c12
            clear c12
            have H' := Aside0.mk H
            clear H
            have p253 : 0 ≤ (x3_2 : Int) := of_decide_eq_true (by first | (with_reducible assumption) | assumption)
            have q253 : x3_2 < (l0.length : Int) := of_decide_eq_true (by first | (with_reducible assumption) | assumption)
            obtain ⟨ad253, e253, hx253_0, hx253_1⟩ := at_T45 HR0.out x3_2 p253 q253
            cases e253
            replace p253 := eq_true p253
            replace q253 := eq_true q253
            have p254 : 0 ≤ (x3_2 : Int) := of_decide_eq_true (by first | (with_reducible assumption) | assumption)
            have q254 : x3_2 < (l0.length : Int) := of_decide_eq_true (by first | (with_reducible assumption) | assumption)
            obtain ⟨ad254, e254, hx254_0, hx254_1⟩ := at_T45 HR0.out x3_2 p254 q254
            obtain rfl : ad253 = ad254 := (by injection e254)
            replace p254 := eq_true p254
            replace q254 := eq_true q254
            have p255 : 0 ≤ (x3_2 : Int) := of_decide_eq_true (by first | (with_reducible assumption) | assumption)
            have q255 : x3_2 < (l0.length : Int) := of_decide_eq_true (by first | (with_reducible assumption) | assumption)
            obtain ⟨ad255, e255, hx255_0, hx255_1⟩ := at_T45 HR0.out x3_2 p255 q255
            obtain rfl : ad253 = ad255 := (by injection e255)
            replace p255 := eq_true p255
            replace q255 := eq_true q255
            have p256 : 0 ≤ (x3_2 : Int) := of_decide_eq_true (by first | (with_reducible assumption) | assumption)
            have q256 : x3_2 < (l0.length : Int) := of_decide_eq_true (by first | (with_reducible assumption) | assumption)
            obtain ⟨ad256, e256, hx256_0, hx256_1⟩ := at_T45 HR0.out x3_2 p256 q256
            obtain rfl : ad253 = ad256 := (by injection e256)
            replace p256 := eq_true p256
            replace q256 := eq_true q256
            go_wp2
            repeat (go_quiet (fail); try go_wp2)
            go_meet
            case rel => exact ⟨_, (decide (((rd_T45 l0 x3_2).f0) > 4611686018427387904)), (by first | rfl | (simp; done) | (simp [*]; done)), H', ⟨by have := HJ1.out; have := HK2.out; first | omega | exact Nat.le_refl _⟩, by repeat (first | exact Drawn0.refl _ | apply Drawn0.step)⟩
        ·rw [if_neg c9] at H
         exact absurd H (by simp)
       case rest =>
        clear HC8
        try clear c1
        try clear p2
        try clear q2
        try clear hx2
        try clear qi2
        try clear c3
        try clear c3b0
        try clear c3b1
        try clear c3b2
        try clear c4
        try clear c4b0
        try clear c4b1
        try clear c5
        try clear c5b0
        try clear c5b1
        try clear c6
        try clear c7
        try clear c7b0
        try clear c9
        try clear c9b0
        try clear c10
        try clear c10b0
        try clear c11
        try clear c11b0
        try clear c12
        try clear c12b0
        try clear hx252_0
        try clear hx252_1
        try clear hx253_0
        try clear hx253_1
        try clear hx254_0
        try clear hx254_1
        try clear hx255_0
        try clear hx255_1
        try clear hx256_0
        try clear hx256_1
        try clear p2
        try clear p252
        try clear p253
        try clear p254
        try clear p255
        try clear p256
        try clear q2
        try clear q252
        try clear q253
        try clear q254
        try clear q255
        try clear q256
        obtain ⟨kq, x54_7, rfl, HA, HJ7, ⟨mc7, rfl⟩⟩ := hcut
        cases kq with
        | zero => exact absurd HA.out (by simp [bailiwickref03_Right.j2])
        | succ kj7 =>
         have H := HA.out
         clear HA
         simp only [bailiwickref03_Right.j2] at H
         by_cases c13 : x54_7 = true
         ·subst c13
          have H1 : (some false) = some r := by rw [if_pos rfl] at H; exact H
          clear H
          have H := H1
          clear H1
          obtain rfl := Option.some.inj H
          go_wp2
          repeat (go_quiet (fail); try go_wp2)
          go_ret
          exact ⟨by first | rfl | (simp; done) | (simp [*]; done), by repeat (first | exact Drawn0.refl _ | apply Drawn0.step)⟩
         ·replace c13 := Bool.eq_false_iff.mpr c13
          subst c13
          have H1 : (if x3_2 > 0 then (if 0 ≤ x3_2 then (if x3_2 < (l0.length : Int) then (if 0 ≤ (wrap64 (x3_2 - 1)) then (if (wrap64 (x3_2 - 1)) < (l0.length : Int) then (if ((rd_T45 l0 x3_2).f0) ≤ ((rd_T45 l0 (wrap64 (x3_2 - 1))).f0) then (some false) else (if ((rd_T45 l0 x3_2).f1) = ((rd_T45 l0 (wrap64 (x3_2 - 1))).f1) then (some false) else (bailiwickref03_Right.l0 kj7 l0 (wrap64 (x3_2 + 1))))) else (none)) else (none)) else (none)) else (none)) else (bailiwickref03_Right.l0 kj7 l0 (wrap64 (x3_2 + 1)))) = some r := by rw [if_neg (show ¬ (false = true) by decide)] at H; exact H
          clear H
          have H := H1
          clear H1
          by_cases c14 : x3_2 > 0
          ·rw [if_pos c14] at H
           have c14b0 : decide (0 < x3_2) = true := decide_eq_true c14
           clear c14
           by_cases c15 : 0 ≤ x3_2
           ·rw [if_pos c15] at H
            have c15b0 : decide (0 ≤ x3_2) = true := decide_eq_true c15
            clear c15
            by_cases c16 : x3_2 < (l0.length : Int)
            ·rw [if_pos c16] at H
             have c16b0 : decide (x3_2 < (l0.length : Int)) = true := decide_eq_true c16
             clear c16
             obtain ⟨ji17, hji17⟩ : ∃ j_ : Int, (wrap64 (x3_2 - 1)) = j_ := ⟨_, rfl⟩
             replace H : (if 0 ≤ (ji17) then (if (ji17) < (l0.length : Int) then (if ((rd_T45 l0 x3_2).f0) ≤ ((rd_T45 l0 (ji17)).f0) then (some false) else (if ((rd_T45 l0 x3_2).f1) = ((rd_T45 l0 (ji17)).f1) then (some false) else (bailiwickref03_Right.l0 kj7 l0 (wrap64 (x3_2 + 1))))) else (none)) else (none)) = some r := by first | (rw [hji17] at H; exact H) | (simp only [hji17] at H ⊢; exact H)
             have hji17w : (IntKind.i64.wrap (x3_2 - 1)) = ji17 := (i64_w _).trans hji17
             by_cases c18 : 0 ≤ (ji17)
             ·rw [if_pos c18] at H
              have c18b0 : decide (0 ≤ (ji17)) = true := decide_eq_true c18
              clear c18
              by_cases c19 : (ji17) < (l0.length : Int)
              ·rw [if_pos c19] at H
               have c19b0 : decide ((ji17) < (l0.length : Int)) = true := decide_eq_true c19
               clear c19
               by_cases c20 : ((rd_T45 l0 x3_2).f0) ≤ ((rd_T45 l0 (ji17)).f0)
               ·rw [if_pos c20] at H
                have c20b0 : decide (((rd_T45 l0 x3_2).f0) ≤ ((rd_T45 l0 (ji17)).f0)) = true := decide_eq_true c20
                clear c20
                obtain rfl := Option.some.inj H
                have p257 : 0 ≤ (x3_2 : Int) := of_decide_eq_true (by first | (with_reducible assumption) | assumption)
                have q257 : x3_2 < (l0.length : Int) := of_decide_eq_true (by first | (with_reducible assumption) | assumption)
                obtain ⟨ad257, e257, hx257_0, hx257_1⟩ := at_T45 HR0.out x3_2 p257 q257
                cases e257
                replace p257 := eq_true p257
                replace q257 := eq_true q257
                have p258 : 0 ≤ ((ji17) : Int) := of_decide_eq_true (by first | (with_reducible assumption) | assumption)
                have q258 : (ji17) < (l0.length : Int) := of_decide_eq_true (by first | (with_reducible assumption) | assumption)
                obtain ⟨ad258, e258, hx258_0, hx258_1⟩ := at_T45 HR0.out (ji17) p258 q258
                obtain rfl : ad257 = ad258 := (by injection e258)
                replace p258 := eq_true p258
                replace q258 := eq_true q258
                go_wp2
                repeat (go_quiet (fail); try go_wp2)
                go_ret
                exact ⟨by first | rfl | (simp; done) | (simp only [← hji17] <;> (first | rfl | simp)) | (simp [*]; done), by repeat (first | exact Drawn0.refl _ | apply Drawn0.step)⟩
               ·rw [if_neg c20] at H
                have c20b0 : decide (((rd_T45 l0 x3_2).f0) ≤ ((rd_T45 l0 (ji17)).f0)) = false := decide_eq_false c20
                clear c20
                by_cases c21 : ((rd_T45 l0 x3_2).f1) = ((rd_T45 l0 (ji17)).f1)
                ·rw [if_pos c21] at H
                 have c21b0 : (((rd_T45 l0 x3_2).f1) == ((rd_T45 l0 (ji17)).f1)) = true := beq_iff_eq.mpr c21
                 have c21b1 : (((rd_T45 l0 x3_2).f1) != ((rd_T45 l0 (ji17)).f1)) = false := bne_eq_false_iff_eq.mpr c21
                 clear c21
                 obtain rfl := Option.some.inj H
                 have p257 : 0 ≤ (x3_2 : Int) := of_decide_eq_true (by first | (with_reducible assumption) | assumption)
                 have q257 : x3_2 < (l0.length : Int) := of_decide_eq_true (by first | (with_reducible assumption) | assumption)
                 obtain ⟨ad257, e257, hx257_0, hx257_1⟩ := at_T45 HR0.out x3_2 p257 q257
                 cases e257
                 replace p257 := eq_true p257
                 replace q257 := eq_true q257
                 have p258 : 0 ≤ ((ji17) : Int) := of_decide_eq_true (by first | (with_reducible assumption) | assumption)
                 have q258 : (ji17) < (l0.length : Int) := of_decide_eq_true (by first | (with_reducible assumption) | assumption)
                 obtain ⟨ad258, e258, hx258_0, hx258_1⟩ := at_T45 HR0.out (ji17) p258 q258
                 obtain rfl : ad257 = ad258 := (by injection e258)
                 replace p258 := eq_true p258
                 replace q258 := eq_true q258
                 have p259 : 0 ≤ (x3_2 : Int) := of_decide_eq_true (by first | (with_reducible assumption) | assumption)
                 have q259 : x3_2 < (l0.length : Int) := of_decide_eq_true (by first | (with_reducible assumption) | assumption)
                 obtain ⟨ad259, e259, hx259_0, hx259_1⟩ := at_T45 HR0.out x3_2 p259 q259
                 obtain rfl : ad257 = ad259 := (by injection e259)
                 replace p259 := eq_true p259
                 replace q259 := eq_true q259
                 have p260 : 0 ≤ ((ji17) : Int) := of_decide_eq_true (by first | (with_reducible assumption) | assumption)
                 have q260 : (ji17) < (l0.length : Int) := of_decide_eq_true (by first | (with_reducible assumption) | assumption)
                 obtain ⟨ad260, e260, hx260_0, hx260_1⟩ := at_T45 HR0.out (ji17) p260 q260
                 obtain rfl : ad257 = ad260 := (by injection e260)
                 replace p260 := eq_true p260
                 replace q260 := eq_true q260
                 go_wp2
                 repeat (go_quiet (fail); try go_wp2)
                 go_ret
                 exact ⟨by first | rfl | (simp; done) | (simp only [← hji17] <;> (first | rfl | simp)) | (simp [*]; done), by repeat (first | exact Drawn0.refl _ | apply Drawn0.step)⟩
                ·rw [if_neg c21] at H
                 have c21b0 : (((rd_T45 l0 x3_2).f1) == ((rd_T45 l0 (ji17)).f1)) = false := beq_eq_false_iff_ne.mpr c21
                 have c21b1 : (((rd_T45 l0 x3_2).f1) != ((rd_T45 l0 (ji17)).f1)) = true := bne_iff_ne.mpr c21
                 have H' := Aside0.mk H
                 clear H
                 have p257 : 0 ≤ (x3_2 : Int) := of_decide_eq_true (by first | (with_reducible assumption) | assumption)
                 have q257 : x3_2 < (l0.length : Int) := of_decide_eq_true (by first | (with_reducible assumption) | assumption)
                 obtain ⟨ad257, e257, hx257_0, hx257_1⟩ := at_T45 HR0.out x3_2 p257 q257
                 cases e257
                 replace p257 := eq_true p257
                 replace q257 := eq_true q257
                 have p258 : 0 ≤ ((ji17) : Int) := of_decide_eq_true (by first | (with_reducible assumption) | assumption)
                 have q258 : (ji17) < (l0.length : Int) := of_decide_eq_true (by first | (with_reducible assumption) | assumption)
                 obtain ⟨ad258, e258, hx258_0, hx258_1⟩ := at_T45 HR0.out (ji17) p258 q258
                 obtain rfl : ad257 = ad258 := (by injection e258)
                 replace p258 := eq_true p258
                 replace q258 := eq_true q258
                 have p259 : 0 ≤ (x3_2 : Int) := of_decide_eq_true (by first | (with_reducible assumption) | assumption)
                 have q259 : x3_2 < (l0.length : Int) := of_decide_eq_true (by first | (with_reducible assumption) | assumption)
                 obtain ⟨ad259, e259, hx259_0, hx259_1⟩ := at_T45 HR0.out x3_2 p259 q259
                 obtain rfl : ad257 = ad259 := (by injection e259)
                 replace p259 := eq_true p259
                 replace q259 := eq_true q259
                 have p260 : 0 ≤ ((ji17) : Int) := of_decide_eq_true (by first | (with_reducible assumption) | assumption)
                 have q260 : (ji17) < (l0.length : Int) := of_decide_eq_true (by first | (with_reducible assumption) | assumption)
                 obtain ⟨ad260, e260, hx260_0, hx260_1⟩ := at_T45 HR0.out (ji17) p260 q260
                 obtain rfl : ad257 = ad260 := (by injection e260)
                 replace p260 := eq_true p260
                 replace q260 := eq_true q260
                 go_wp2
                 repeat (go_quiet (fail); try go_wp2)
                 go_roundg kj7
                 case measure => have := HJ1.out; have := HK2.out; have := HJ7.out; omega
                 case rel => exact ⟨(wrap64 (x3_2 + 1)), (by first | rfl | (simp; done) | (simp [*]; done)), H', ⟨by have := HJ1.out; have := HK2.out; have := HJ7.out; omega⟩, by repeat (first | exact Drawn0.refl _ | apply Drawn0.step)⟩
              ·rw [if_neg c19] at H
               exact absurd H (by simp)
             ·rw [if_neg c18] at H
              exact absurd H (by simp)
            ·rw [if_neg c16] at H
             exact absurd H (by simp)
           ·rw [if_neg c15] at H
            exact absurd H (by simp)
          ·rw [if_neg c14] at H
           have c14b0 : decide (0 < x3_2) = false := decide_eq_false c14
           clear c14
           have H' := Aside0.mk H
           clear H
           go_wp2
           repeat (go_quiet (fail); try go_wp2)
           go_roundg kj7
           case measure => have := HJ1.out; have := HK2.out; have := HJ7.out; omega
           case rel => exact ⟨(wrap64 (x3_2 + 1)), (by first | rfl | (simp; done) | (simp [*]; done)), H', ⟨by have := HJ1.out; have := HK2.out; have := HJ7.out; omega⟩, by repeat (first | exact Drawn0.refl _ | apply Drawn0.step)⟩
      ·rw [if_neg c7] at H
       have c7b0 : decide (x3_2 < (l0.length : Int)) = false := decide_eq_false c7
       clear c7
       obtain rfl := Option.some.inj H
       go_wp2
       repeat (go_quiet (fail); try go_wp2)
       go_ret
       exact ⟨by first | rfl | (simp; done) | (simp [*]; done), by repeat (first | exact Drawn0.refl _ | apply Drawn0.step)⟩

end Go.Proofs.Ytimllhflecippaa.F
