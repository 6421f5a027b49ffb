-- Written by gprint.py (this repo's own driver over the kit's printer); Lean checks it.
import Derived.Test.YtimllhflecippaaF0
import Derived.Test.YtimllhflecippaaF16
namespace Go.Proofs.Ytimllhflecippaa.F
open Go.RowKit Go.Proofs.YtimllhflecippaaW.PrintWords Go.Proofs.YtimllhflecippaaW.PrintLast Go.Proofs.YtimllhflecippaaW.PrintMore
attribute [local go_sem] max2_int min2_int max_two min_two max_three min_three max_four min_four   -- for this text's walks alone
set_option linter.unusedVariables false
set_option linter.unusedSimpArgs false

/-! ### bailiwickref04_fits: function 60 -/
def bailiwickref04_fits.l0 : Nat → List (List (S45)) → Int → Int → List Int → Int → Option (Bool)
 | 0, _, _, _, _, _ => none
 | k + 1, x0, x1, x2, x3, x9 => if x9 < (x0.length : Int) then (if 0 ≤ x9 then ((bailiwickref02_Plus.f x1 x2).bind fun t273 => ((bailiwickref03_Least.f k (rd_L2 x0 x9) x1 t273).bind fun t274 => (if x9 < (x3.length : Int) then (if t274 < (rd x3 x9) then (some false) else (bailiwickref04_fits.l0 k x0 x1 x2 x3 (wrap64 (x9 + 1)))) else (none)))) else (none)) else (some true)
def bailiwickref04_fits.f (k : Nat) (l0 : List (List (S45))) (a1 : Int) (a2 : Int) (l3 : List Int) : Option (Bool) := bailiwickref04_fits.l0 k l0 a1 a2 l3 0
theorem bailiwickref04_fits.mono_l : ∀ k, (∀ y0 y1 y2 y3 y4, LeO (bailiwickref04_fits.l0 k y0 y1 y2 y3 y4) (bailiwickref04_fits.l0 (k + 1) y0 y1 y2 y3 y4))
 | 0 => fun _ _ _ _ _ r h => by simp [bailiwickref04_fits.l0] at h
 | k + 1 => by
  have ih0 := bailiwickref04_fits.mono_l k
  ·intro y0 y1 y2 y3 y4
   unfold bailiwickref04_fits.l0
   repeat' first
   | (with_reducible exact ih0 _ _ _ _ _)
   | (with_reducible exact bailiwickref03_Least.mono _ _ _ _)
   | (with_reducible exact LeO.refl _)
   | (with_reducible exact LeO.none _)
   | (with_reducible refine LeO.ite ?_ ?_)
   | (with_reducible refine LeO.bind ?_ (fun _ => ?_))
   | exact ih0 _ _ _ _ _
   | exact bailiwickref03_Least.mono _ _ _ _
   | exact LeO.none _
   | refine LeO.ite ?_ ?_
   | refine LeO.bind ?_ (fun _ => ?_)
theorem bailiwickref04_fits.mono : ∀ a0 a1 a2 a3 k, LeO (bailiwickref04_fits.f k a0 a1 a2 a3) (bailiwickref04_fits.f (k + 1) a0 a1 a2 a3) := by
 intro a0 a1 a2 a3 k
 have ih0 := bailiwickref04_fits.mono_l k
 unfold bailiwickref04_fits.f
 repeat' first
   | (with_reducible exact ih0 _ _ _ _ _)
   | (with_reducible exact bailiwickref03_Least.mono _ _ _ _)
   | (with_reducible exact LeO.refl _)
   | (with_reducible exact LeO.none _)
   | (with_reducible refine LeO.ite ?_ ?_)
   | (with_reducible refine LeO.bind ?_ (fun _ => ?_))
   | exact ih0 _ _ _ _ _
   | exact bailiwickref03_Least.mono _ _ _ _
   | exact LeO.none _
   | refine LeO.ite ?_ ?_
   | refine LeO.bind ?_ (fun _ => ?_)
set_option maxHeartbeats 8000000 in
set_option maxRecDepth 100000 in
theorem bailiwickref04_fits.calls (k : Nat) (A0 : Option Addr) (c0 : Nat) (l0 : List (List (S45))) (a1 : Int) (a2 : Int) (A3 : Option Addr) (c3 : Nat) (l3 : List Int) (r : Bool) (w : World) (hr0 : Kd.C (Kd.slice 45 k45) w A0 l0.length l0) (hc0 : l0.length ≤ c0) (hr3 : Kd.C (Kd.int .i64) w A3 l3.length l3) (hc3 : l3.length ≤ c3) (h : bailiwickref04_fits.f k l0 a1 a2 l3 = some r) :
  Calls Try.prog 60 #[.slice A0 l0.length c0, .int .i64 a1, .int .i64 a2, .slice A3 l3.length c3] w fun e w' => e = .returned (.bool r) ∧ Drawn0 w w' := by
 have HR0 := Aside0.mk hr0
 have HC0 := Aside0.mk hc0
 clear hr0 hc0
 have HR3 := Aside0.mk hr3
 have HC3 := Aside0.mk hc3
 clear hr3 hc3
 have H : (bailiwickref04_fits.l0 k l0 a1 a2 l3 0) = some r := h
 clear h
 have H' := Aside0.mk H
 clear H
 go_enter Try.func60, Try.ntmps60
 go_wp2
 repeat (go_quiet (fail); try go_wp2)
 go_loopg [9] k (fun kq v9 w' => ∃ (x9_1 : Int), v9 = .int .i64 x9_1 ∧ Aside0 (bailiwickref04_fits.l0 kq l0 a1 a2 l3 x9_1 = some r) ∧ Aside0 (kq ≤ k) ∧ Drawn0 w w')
 case atStart => exact ⟨(0), (by first | rfl | (simp; done) | (simp [*]; done)), H', ⟨Nat.le_refl _⟩, by repeat (first | exact Drawn0.refl _ | apply Drawn0.step)⟩
 case round =>
  clear H'
  try clear p2
  try clear c3
  obtain ⟨x9_1, rfl, HA, HK1, ⟨m1, rfl⟩⟩ := hrel
  cases gk with
  | zero => exact absurd HA.out (by simp [bailiwickref04_fits.l0])
  | succ k1 =>
   have H := HA.out
   clear HA
   simp only [bailiwickref04_fits.l0] at H
   by_cases c5 : x9_1 < (l0.length : Int)
   ·rw [if_pos c5] at H
    have c5b0 : decide (x9_1 < (l0.length : Int)) = true := decide_eq_true c5
    clear c5
    by_cases c6 : 0 ≤ x9_1
    ·rw [if_pos c6] at H
     have c6b0 : decide (0 ≤ x9_1) = true := decide_eq_true c6
     clear c6
     replace H := Option.bind_eq_some_iff.mp H
     obtain ⟨t273, A70, H⟩ := H
     replace H : ((bailiwickref03_Least.f k1 (rd_L2 l0 x9_1) a1 t273).bind fun t274 => (if x9_1 < (l3.length : Int) then (if t274 < (rd l3 x9_1) then (some false) else (bailiwickref04_fits.l0 k1 l0 a1 a2 l3 (wrap64 (x9_1 + 1)))) else (none))) = some r := H
     have A7 := Aside0.mk A70
     clear A70
     replace H := Option.bind_eq_some_iff.mp H
     obtain ⟨t274, A80, H⟩ := H
     replace H : (if x9_1 < (l3.length : Int) then (if t274 < (rd l3 x9_1) then (some false) else (bailiwickref04_fits.l0 k1 l0 a1 a2 l3 (wrap64 (x9_1 + 1)))) else (none)) = some r := H
     have A8 := Aside0.mk A80
     clear A80
     by_cases c9 : x9_1 < (l3.length : Int)
     ·rw [if_pos c9] at H
      have c9b0 : decide (x9_1 < (l3.length : Int)) = true := decide_eq_true c9
      clear c9
      by_cases c10 : t274 < (rd l3 x9_1)
      ·rw [if_pos c10] at H
       have c10b0 : decide (t274 < (rd l3 x9_1)) = true := decide_eq_true c10
       clear c10
       obtain rfl := Option.some.inj H
       have p272 : 0 ≤ (x9_1 : Int) := of_decide_eq_true (by first | (with_reducible assumption) | assumption)
       have q272 : x9_1 < (l0.length : Int) := of_decide_eq_true (by first | (with_reducible assumption) | assumption)
       obtain ⟨ad272, A272_0, c272_0, e272, hx272_0, hl272_0, hi272_0⟩ := at_L2 HR0.out x9_1 p272 q272
       cases e272
       have HR272_0 := Aside0.mk hi272_0
       have HC272_0 := Aside0.mk hl272_0
       clear hi272_0 hl272_0
       replace p272 := eq_true p272
       replace q272 := eq_true q272
       go_wp2_with (first | (go_at_call 49; (with_reducible refine (bailiwickref02_Plus.calls a1 a2 t273 _ A7.out).mono ?_); rintro e w' ⟨rfl, ⟨nd, rfl⟩⟩; (try first | exact ⟨rfl, _, World.drewN_drewN _ _ _⟩ | exact ⟨rfl, _, Eq.trans (World.drewN_drewN _ _ _) (congrArg (World.drewN _) (Nat.add_assoc _ _ _))⟩)) | (go_at_call 28; (with_reducible refine (bailiwickref03_Least.calls k1 _ _ (rd_L2 l0 x9_1) a1 t273 t274 _ ?side1 ?side2 A8.out).mono ?_); (case side1 => repeat (first | exact HR272_0.out | (with_reducible refine Kd.C_alloc ?_ _) | (with_reducible refine Kd.C_drewN ?_ _) | (with_reducible refine Kd.C_drew ?_))); (case side2 => exact HC272_0.out); rintro e w' ⟨rfl, ⟨nd, rfl⟩⟩; (try first | exact ⟨rfl, _, World.drewN_drewN _ _ _⟩ | exact ⟨rfl, _, Eq.trans (World.drewN_drewN _ _ _) (congrArg (World.drewN _) (Nat.add_assoc _ _ _))⟩); have p275 : 0 ≤ (x9_1 : Int) := of_decide_eq_true (by first | (with_reducible assumption) | assumption); have q275 : x9_1 < (l3.length : Int) := of_decide_eq_true (by first | (with_reducible assumption) | assumption); obtain ⟨ad275, e275, hx275_0⟩ := Kd.at_int HR3.out x9_1 p275 q275; cases e275; replace p275 := eq_true p275; replace q275 := eq_true q275))
       repeat (go_quiet (first | (go_at_call 49; (with_reducible refine (bailiwickref02_Plus.calls a1 a2 t273 _ A7.out).mono ?_); rintro e w' ⟨rfl, ⟨nd, rfl⟩⟩; (try first | exact ⟨rfl, _, World.drewN_drewN _ _ _⟩ | exact ⟨rfl, _, Eq.trans (World.drewN_drewN _ _ _) (congrArg (World.drewN _) (Nat.add_assoc _ _ _))⟩)) | (go_at_call 28; (with_reducible refine (bailiwickref03_Least.calls k1 _ _ (rd_L2 l0 x9_1) a1 t273 t274 _ ?side1 ?side2 A8.out).mono ?_); (case side1 => repeat (first | exact HR272_0.out | (with_reducible refine Kd.C_alloc ?_ _) | (with_reducible refine Kd.C_drewN ?_ _) | (with_reducible refine Kd.C_drew ?_))); (case side2 => exact HC272_0.out); rintro e w' ⟨rfl, ⟨nd, rfl⟩⟩; (try first | exact ⟨rfl, _, World.drewN_drewN _ _ _⟩ | exact ⟨rfl, _, Eq.trans (World.drewN_drewN _ _ _) (congrArg (World.drewN _) (Nat.add_assoc _ _ _))⟩); have p275 : 0 ≤ (x9_1 : Int) := of_decide_eq_true (by first | (with_reducible assumption) | assumption); have q275 : x9_1 < (l3.length : Int) := of_decide_eq_true (by first | (with_reducible assumption) | assumption); obtain ⟨ad275, e275, hx275_0⟩ := Kd.at_int HR3.out x9_1 p275 q275; cases e275; replace p275 := eq_true p275; replace q275 := eq_true q275)); try go_wp2_with (first | (go_at_call 49; (with_reducible refine (bailiwickref02_Plus.calls a1 a2 t273 _ A7.out).mono ?_); rintro e w' ⟨rfl, ⟨nd, rfl⟩⟩; (try first | exact ⟨rfl, _, World.drewN_drewN _ _ _⟩ | exact ⟨rfl, _, Eq.trans (World.drewN_drewN _ _ _) (congrArg (World.drewN _) (Nat.add_assoc _ _ _))⟩)) | (go_at_call 28; (with_reducible refine (bailiwickref03_Least.calls k1 _ _ (rd_L2 l0 x9_1) a1 t273 t274 _ ?side1 ?side2 A8.out).mono ?_); (case side1 => repeat (first | exact HR272_0.out | (with_reducible refine Kd.C_alloc ?_ _) | (with_reducible refine Kd.C_drewN ?_ _) | (with_reducible refine Kd.C_drew ?_))); (case side2 => exact HC272_0.out); rintro e w' ⟨rfl, ⟨nd, rfl⟩⟩; (try first | exact ⟨rfl, _, World.drewN_drewN _ _ _⟩ | exact ⟨rfl, _, Eq.trans (World.drewN_drewN _ _ _) (congrArg (World.drewN _) (Nat.add_assoc _ _ _))⟩); have p275 : 0 ≤ (x9_1 : Int) := of_decide_eq_true (by first | (with_reducible assumption) | assumption); have q275 : x9_1 < (l3.length : Int) := of_decide_eq_true (by first | (with_reducible assumption) | assumption); obtain ⟨ad275, e275, hx275_0⟩ := Kd.at_int HR3.out x9_1 p275 q275; cases e275; replace p275 := eq_true p275; replace q275 := eq_true q275)))
       go_ret
       exact ⟨by first | rfl | (simp; done) | (simp [*]; done), by repeat (first | exact Drawn0.refl _ | apply Drawn0.step)⟩
      ·rw [if_neg c10] at H
       have c10b0 : decide (t274 < (rd l3 x9_1)) = false := decide_eq_false c10
       clear c10
       have H' := Aside0.mk H
       clear H
       have p272 : 0 ≤ (x9_1 : Int) := of_decide_eq_true (by first | (with_reducible assumption) | assumption)
       have q272 : x9_1 < (l0.length : Int) := of_decide_eq_true (by first | (with_reducible assumption) | assumption)
       obtain ⟨ad272, A272_0, c272_0, e272, hx272_0, hl272_0, hi272_0⟩ := at_L2 HR0.out x9_1 p272 q272
       cases e272
       have HR272_0 := Aside0.mk hi272_0
       have HC272_0 := Aside0.mk hl272_0
       clear hi272_0 hl272_0
       replace p272 := eq_true p272
       replace q272 := eq_true q272
       go_wp2_with (first | (go_at_call 49; (with_reducible refine (bailiwickref02_Plus.calls a1 a2 t273 _ A7.out).mono ?_); rintro e w' ⟨rfl, ⟨nd, rfl⟩⟩; (try first | exact ⟨rfl, _, World.drewN_drewN _ _ _⟩ | exact ⟨rfl, _, Eq.trans (World.drewN_drewN _ _ _) (congrArg (World.drewN _) (Nat.add_assoc _ _ _))⟩)) | (go_at_call 28; (with_reducible refine (bailiwickref03_Least.calls k1 _ _ (rd_L2 l0 x9_1) a1 t273 t274 _ ?side1 ?side2 A8.out).mono ?_); (case side1 => repeat (first | exact HR272_0.out | (with_reducible refine Kd.C_alloc ?_ _) | (with_reducible refine Kd.C_drewN ?_ _) | (with_reducible refine Kd.C_drew ?_))); (case side2 => exact HC272_0.out); rintro e w' ⟨rfl, ⟨nd, rfl⟩⟩; (try first | exact ⟨rfl, _, World.drewN_drewN _ _ _⟩ | exact ⟨rfl, _, Eq.trans (World.drewN_drewN _ _ _) (congrArg (World.drewN _) (Nat.add_assoc _ _ _))⟩); have p275 : 0 ≤ (x9_1 : Int) := of_decide_eq_true (by first | (with_reducible assumption) | assumption); have q275 : x9_1 < (l3.length : Int) := of_decide_eq_true (by first | (with_reducible assumption) | assumption); obtain ⟨ad275, e275, hx275_0⟩ := Kd.at_int HR3.out x9_1 p275 q275; cases e275; replace p275 := eq_true p275; replace q275 := eq_true q275))
       repeat (go_quiet (first | (go_at_call 49; (with_reducible refine (bailiwickref02_Plus.calls a1 a2 t273 _ A7.out).mono ?_); rintro e w' ⟨rfl, ⟨nd, rfl⟩⟩; (try first | exact ⟨rfl, _, World.drewN_drewN _ _ _⟩ | exact ⟨rfl, _, Eq.trans (World.drewN_drewN _ _ _) (congrArg (World.drewN _) (Nat.add_assoc _ _ _))⟩)) | (go_at_call 28; (with_reducible refine (bailiwickref03_Least.calls k1 _ _ (rd_L2 l0 x9_1) a1 t273 t274 _ ?side1 ?side2 A8.out).mono ?_); (case side1 => repeat (first | exact HR272_0.out | (with_reducible refine Kd.C_alloc ?_ _) | (with_reducible refine Kd.C_drewN ?_ _) | (with_reducible refine Kd.C_drew ?_))); (case side2 => exact HC272_0.out); rintro e w' ⟨rfl, ⟨nd, rfl⟩⟩; (try first | exact ⟨rfl, _, World.drewN_drewN _ _ _⟩ | exact ⟨rfl, _, Eq.trans (World.drewN_drewN _ _ _) (congrArg (World.drewN _) (Nat.add_assoc _ _ _))⟩); have p275 : 0 ≤ (x9_1 : Int) := of_decide_eq_true (by first | (with_reducible assumption) | assumption); have q275 : x9_1 < (l3.length : Int) := of_decide_eq_true (by first | (with_reducible assumption) | assumption); obtain ⟨ad275, e275, hx275_0⟩ := Kd.at_int HR3.out x9_1 p275 q275; cases e275; replace p275 := eq_true p275; replace q275 := eq_true q275)); try go_wp2_with (first | (go_at_call 49; (with_reducible refine (bailiwickref02_Plus.calls a1 a2 t273 _ A7.out).mono ?_); rintro e w' ⟨rfl, ⟨nd, rfl⟩⟩; (try first | exact ⟨rfl, _, World.drewN_drewN _ _ _⟩ | exact ⟨rfl, _, Eq.trans (World.drewN_drewN _ _ _) (congrArg (World.drewN _) (Nat.add_assoc _ _ _))⟩)) | (go_at_call 28; (with_reducible refine (bailiwickref03_Least.calls k1 _ _ (rd_L2 l0 x9_1) a1 t273 t274 _ ?side1 ?side2 A8.out).mono ?_); (case side1 => repeat (first | exact HR272_0.out | (with_reducible refine Kd.C_alloc ?_ _) | (with_reducible refine Kd.C_drewN ?_ _) | (with_reducible refine Kd.C_drew ?_))); (case side2 => exact HC272_0.out); rintro e w' ⟨rfl, ⟨nd, rfl⟩⟩; (try first | exact ⟨rfl, _, World.drewN_drewN _ _ _⟩ | exact ⟨rfl, _, Eq.trans (World.drewN_drewN _ _ _) (congrArg (World.drewN _) (Nat.add_assoc _ _ _))⟩); have p275 : 0 ≤ (x9_1 : Int) := of_decide_eq_true (by first | (with_reducible assumption) | assumption); have q275 : x9_1 < (l3.length : Int) := of_decide_eq_true (by first | (with_reducible assumption) | assumption); obtain ⟨ad275, e275, hx275_0⟩ := Kd.at_int HR3.out x9_1 p275 q275; cases e275; replace p275 := eq_true p275; replace q275 := eq_true q275)))
       go_roundg k1
       case measure => have := HK1.out; omega
       case rel => exact ⟨(wrap64 (x9_1 + 1)), (by first | rfl | (simp; done) | (simp [*]; done)), H', ⟨by have := HK1.out; omega⟩, by repeat (first | exact Drawn0.refl _ | apply Drawn0.step)⟩
     ·rw [if_neg c9] at H
      exact absurd H (by simp)
    ·rw [if_neg c6] at H
     exact absurd H (by simp)
   ·rw [if_neg c5] at H
    have c5b0 : decide (x9_1 < (l0.length : Int)) = false := decide_eq_false c5
    clear c5
    obtain rfl := Option.some.inj H
    go_wp2
    repeat (go_quiet (fail); try go_wp2)
    go_ret
    exact ⟨by first | rfl | (simp; done) | (simp [*]; done), by repeat (first | exact Drawn0.refl _ | apply Drawn0.step)⟩

end Go.Proofs.Ytimllhflecippaa.F
