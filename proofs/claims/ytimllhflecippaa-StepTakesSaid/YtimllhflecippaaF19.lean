-- Written by gprint.py (this repo's own driver over the kit's printer); Lean checks it.
import Derived.Test.YtimllhflecippaaF0
namespace Go.Proofs.Ytimllhflecippaa.F
open Go.RowKit Go.Proofs.YtimllhflecippaaW.PrintWords Go.Proofs.YtimllhflecippaaW.PrintLast Go.Proofs.YtimllhflecippaaW.PrintMore
attribute [local go_sem] max2_int min2_int max_two min_two max_three min_three max_four min_four   -- for this text's walks alone
set_option linter.unusedVariables false
set_option linter.unusedSimpArgs false

/-! ### bailiwickref03_times: function 66 -/
mutual
def bailiwickref03_times.l0 : Nat → List (S45) → Int → Int → List Int → Int → Option (List Int)
  | 0, _, _, _, _, _ => none
  | k + 1, x0, x1, x2, x7, x8 => if x8 < (x0.length : Int) then (if 0 ≤ x8 then (if x1 < ((rd_T45 x0 x8).f0) then (if (x7.length : Int) = 0 then (bailiwickref03_times.j1 k x0 x1 x2 x7 x8 true) else (if 0 ≤ (wrap64 ((x7.length : Int) - 1)) then (if (wrap64 ((x7.length : Int) - 1)) < (x7.length : Int) then (bailiwickref03_times.j1 k x0 x1 x2 x7 x8 (decide ((rd x7 (wrap64 ((x7.length : Int) - 1))) < x1))) else (none)) else (none))) else (bailiwickref03_times.j1 k x0 x1 x2 x7 x8 false)) else (none)) else (if 0 ≤ (wrap64 ((x7.length : Int) - 1)) then (if (wrap64 ((x7.length : Int) - 1)) < (x7.length : Int) then (if (rd x7 (wrap64 ((x7.length : Int) - 1))) < x1 then (if x7.length < 17592186044416 then ((some (x7 ++ [x1] : List Int)).bind fun y287 => (if 0 ≤ (wrap64 ((y287.length : Int) - 1)) then (if (wrap64 ((y287.length : Int) - 1)) < (y287.length : Int) then (if (rd y287 (wrap64 ((y287.length : Int) - 1))) < x2 then (if y287.length < 17592186044416 then (some (y287 ++ [x2])) else (none)) else (some y287)) else (none)) else (none))) else (none)) else (if (rd x7 (wrap64 ((x7.length : Int) - 1))) < x2 then (if x7.length < 17592186044416 then (some (x7 ++ [x2])) else (none)) else (some x7))) else (none)) else (none))
def bailiwickref03_times.j1 : Nat → List (S45) → Int → Int → List Int → Int → Bool → Option (List Int)
  | 0, _, _, _, _, _, _ => none
  | k + 1, x0, x1, x2, x7, x8, x36 => if x36 = true then (if x7.length < 17592186044416 then (bailiwickref03_times.j2 k x0 x1 x2 (x7 ++ [x1]) x8) else (none)) else (bailiwickref03_times.j2 k x0 x1 x2 x7 x8)
def bailiwickref03_times.j2 : Nat → List (S45) → Int → Int → List Int → Int → Option (List Int)
  | 0, _, _, _, _, _ => none
  | k + 1, x0, x1, x2, x7, x8 => if 0 ≤ x8 then (if x8 < (x0.length : Int) then (if x2 < ((rd_T45 x0 x8).f0) then (if (x7.length : Int) = 0 then (bailiwickref03_times.j3 k x0 x1 x2 x7 x8 true) else (if 0 ≤ (wrap64 ((x7.length : Int) - 1)) then (if (wrap64 ((x7.length : Int) - 1)) < (x7.length : Int) then (bailiwickref03_times.j3 k x0 x1 x2 x7 x8 (decide ((rd x7 (wrap64 ((x7.length : Int) - 1))) < x2))) else (none)) else (none))) else (bailiwickref03_times.j3 k x0 x1 x2 x7 x8 false)) else (none)) else (none)
def bailiwickref03_times.j3 : Nat → List (S45) → Int → Int → List Int → Int → Bool → Option (List Int)
  | 0, _, _, _, _, _, _ => none
  | k + 1, x0, x1, x2, x7, x8, x62 => if x62 = true then (if x7.length < 17592186044416 then ((some (x7 ++ [x2] : List Int)).bind fun y263 => (if (y263.length : Int) = 0 then (if 0 ≤ x8 then (if x8 < (x0.length : Int) then (if y263.length < 17592186044416 then (bailiwickref03_times.l0 k x0 x1 x2 (y263 ++ [(rd_T45 x0 x8).f0]) (wrap64 (x8 + 1))) else (none)) else (none)) else (none)) else (if 0 ≤ (wrap64 ((y263.length : Int) - 1)) then (if (wrap64 ((y263.length : Int) - 1)) < (y263.length : Int) then (if 0 ≤ x8 then (if x8 < (x0.length : Int) then (if (rd y263 (wrap64 ((y263.length : Int) - 1))) < ((rd_T45 x0 x8).f0) then (if y263.length < 17592186044416 then (bailiwickref03_times.l0 k x0 x1 x2 (y263 ++ [(rd_T45 x0 x8).f0]) (wrap64 (x8 + 1))) else (none)) else (bailiwickref03_times.l0 k x0 x1 x2 y263 (wrap64 (x8 + 1)))) else (none)) else (none)) else (none)) else (none)))) else (none)) else (if (x7.length : Int) = 0 then (if 0 ≤ x8 then (if x8 < (x0.length : Int) then (if x7.length < 17592186044416 then (bailiwickref03_times.l0 k x0 x1 x2 (x7 ++ [(rd_T45 x0 x8).f0]) (wrap64 (x8 + 1))) else (none)) else (none)) else (none)) else (if 0 ≤ (wrap64 ((x7.length : Int) - 1)) then (if (wrap64 ((x7.length : Int) - 1)) < (x7.length : Int) then (if 0 ≤ x8 then (if x8 < (x0.length : Int) then (if (rd x7 (wrap64 ((x7.length : Int) - 1))) < ((rd_T45 x0 x8).f0) then (if x7.length < 17592186044416 then (bailiwickref03_times.l0 k x0 x1 x2 (x7 ++ [(rd_T45 x0 x8).f0]) (wrap64 (x8 + 1))) else (none)) else (bailiwickref03_times.l0 k x0 x1 x2 x7 (wrap64 (x8 + 1)))) else (none)) else (none)) else (none)) else (none)))
end
def bailiwickref03_times.f (k : Nat) (l0 : List (S45)) (a1 : Int) (a2 : Int) : Option (List Int) := bailiwickref03_times.l0 k l0 a1 a2 ([] : List Int) 0
theorem bailiwickref03_times.mono_l : ∀ k, (∀ y0 y1 y2 y3 y4, LeO (bailiwickref03_times.l0 k y0 y1 y2 y3 y4) (bailiwickref03_times.l0 (k + 1) y0 y1 y2 y3 y4)) ∧ (∀ y0 y1 y2 y3 y4 y5, LeO (bailiwickref03_times.j1 k y0 y1 y2 y3 y4 y5) (bailiwickref03_times.j1 (k + 1) y0 y1 y2 y3 y4 y5)) ∧ (∀ y0 y1 y2 y3 y4, LeO (bailiwickref03_times.j2 k y0 y1 y2 y3 y4) (bailiwickref03_times.j2 (k + 1) y0 y1 y2 y3 y4)) ∧ (∀ y0 y1 y2 y3 y4 y5, LeO (bailiwickref03_times.j3 k y0 y1 y2 y3 y4 y5) (bailiwickref03_times.j3 (k + 1) y0 y1 y2 y3 y4 y5))
  | 0 => ⟨fun _ _ _ _ _ r h => by simp [bailiwickref03_times.l0] at h, fun _ _ _ _ _ _ r h => by simp [bailiwickref03_times.j1] at h, fun _ _ _ _ _ r h => by simp [bailiwickref03_times.j2] at h, fun _ _ _ _ _ _ r h => by simp [bailiwickref03_times.j3] at h⟩
  | k + 1 => by
    obtain ⟨ih0, ih1, ih2, ih3⟩ := bailiwickref03_times.mono_l k
    refine ⟨?_, ?_, ?_, ?_⟩
    · intro y0 y1 y2 y3 y4
      unfold bailiwickref03_times.l0
      repeat' first
      | (with_reducible exact ih0 _ _ _ _ _)
      | (with_reducible exact ih1 _ _ _ _ _ _)
      | (with_reducible exact ih2 _ _ _ _ _)
      | (with_reducible exact ih3 _ _ _ _ _ _)
      | (with_reducible exact LeO.refl _)
      | (with_reducible exact LeO.none _)
      | (with_reducible refine LeO.ite ?_ ?_)
      | (with_reducible refine LeO.bind ?_ (fun _ => ?_))
      | exact ih0 _ _ _ _ _
      | exact ih1 _ _ _ _ _ _
      | exact ih2 _ _ _ _ _
      | exact ih3 _ _ _ _ _ _
      | exact LeO.none _
      | refine LeO.ite ?_ ?_
      | refine LeO.bind ?_ (fun _ => ?_)
    · intro y0 y1 y2 y3 y4 y5
      unfold bailiwickref03_times.j1
      repeat' first
      | (with_reducible exact ih0 _ _ _ _ _)
      | (with_reducible exact ih1 _ _ _ _ _ _)
      | (with_reducible exact ih2 _ _ _ _ _)
      | (with_reducible exact ih3 _ _ _ _ _ _)
      | (with_reducible exact LeO.refl _)
      | (with_reducible exact LeO.none _)
      | (with_reducible refine LeO.ite ?_ ?_)
      | (with_reducible refine LeO.bind ?_ (fun _ => ?_))
      | exact ih0 _ _ _ _ _
      | exact ih1 _ _ _ _ _ _
      | exact ih2 _ _ _ _ _
      | exact ih3 _ _ _ _ _ _
      | exact LeO.none _
      | refine LeO.ite ?_ ?_
      | refine LeO.bind ?_ (fun _ => ?_)
    · intro y0 y1 y2 y3 y4
      unfold bailiwickref03_times.j2
      repeat' first
      | (with_reducible exact ih0 _ _ _ _ _)
      | (with_reducible exact ih1 _ _ _ _ _ _)
      | (with_reducible exact ih2 _ _ _ _ _)
      | (with_reducible exact ih3 _ _ _ _ _ _)
      | (with_reducible exact LeO.refl _)
      | (with_reducible exact LeO.none _)
      | (with_reducible refine LeO.ite ?_ ?_)
      | (with_reducible refine LeO.bind ?_ (fun _ => ?_))
      | exact ih0 _ _ _ _ _
      | exact ih1 _ _ _ _ _ _
      | exact ih2 _ _ _ _ _
      | exact ih3 _ _ _ _ _ _
      | exact LeO.none _
      | refine LeO.ite ?_ ?_
      | refine LeO.bind ?_ (fun _ => ?_)
    · intro y0 y1 y2 y3 y4 y5
      unfold bailiwickref03_times.j3
      repeat' first
      | (with_reducible exact ih0 _ _ _ _ _)
      | (with_reducible exact ih1 _ _ _ _ _ _)
      | (with_reducible exact ih2 _ _ _ _ _)
      | (with_reducible exact ih3 _ _ _ _ _ _)
      | (with_reducible exact LeO.refl _)
      | (with_reducible exact LeO.none _)
      | (with_reducible refine LeO.ite ?_ ?_)
      | (with_reducible refine LeO.bind ?_ (fun _ => ?_))
      | exact ih0 _ _ _ _ _
      | exact ih1 _ _ _ _ _ _
      | exact ih2 _ _ _ _ _
      | exact ih3 _ _ _ _ _ _
      | exact LeO.none _
      | refine LeO.ite ?_ ?_
      | refine LeO.bind ?_ (fun _ => ?_)
theorem bailiwickref03_times.mono : ∀ a0 a1 a2 k, LeO (bailiwickref03_times.f k a0 a1 a2) (bailiwickref03_times.f (k + 1) a0 a1 a2) := by
  intro a0 a1 a2 k
  obtain ⟨ih0, ih1, ih2, ih3⟩ := bailiwickref03_times.mono_l k
  unfold bailiwickref03_times.f
  repeat' first
      | (with_reducible exact ih0 _ _ _ _ _)
      | (with_reducible exact ih1 _ _ _ _ _ _)
      | (with_reducible exact ih2 _ _ _ _ _)
      | (with_reducible exact ih3 _ _ _ _ _ _)
      | (with_reducible exact LeO.refl _)
      | (with_reducible exact LeO.none _)
      | (with_reducible refine LeO.ite ?_ ?_)
      | (with_reducible refine LeO.bind ?_ (fun _ => ?_))
      | exact ih0 _ _ _ _ _
      | exact ih1 _ _ _ _ _ _
      | exact ih2 _ _ _ _ _
      | exact ih3 _ _ _ _ _ _
      | exact LeO.none _
      | refine LeO.ite ?_ ?_
      | refine LeO.bind ?_ (fun _ => ?_)
set_option maxHeartbeats 8000000 in
set_option maxRecDepth 100000 in
theorem bailiwickref03_times.calls (k : Nat) (A0 : Option Addr) (c0 : Nat) (l0 : List (S45)) (a1 : Int) (a2 : Int) (r : List Int) (w : World) (hr0 : Kd.C k45 w A0 l0.length l0) (hc0 : l0.length ≤ c0) (h : bailiwickref03_times.f k l0 a1 a2 = some r) :
    Calls Try.prog 66 #[.slice A0 l0.length c0, .int .i64 a1, .int .i64 a2] w fun e w' => ∃ v0_ : Value, e = .returned (v0_) ∧ Kd.R (Kd.int .i64) 2 w' w.heap.size (fun _ => True) v0_ r ∧ Below w.heap.size w w' := by
  have HR0 := Aside0.mk hr0
  have HC0 := Aside0.mk hc0
  clear hr0 hc0
  have HB := Aside0.mk (Below.refl w.heap.size w)
  have H : (bailiwickref03_times.l0 k l0 a1 a2 ([] : List Int) 0) = some r := h
  clear h
  have H' := Aside0.mk H
  clear H
  go_enter Try.func66, Try.ntmps66
  go_wp2
  repeat (go_quiet (fail); try go_wp2)
  go_loopg [7, 8] k (fun kq v7 v8 w' => ∃ (x7_1 : List Int) (x8_1 : Int), v8 = .int .i64 x8_1 ∧ Aside0 (bailiwickref03_times.l0 kq l0 a1 a2 x7_1 x8_1 = some r) ∧ Aside0 (kq ≤ k) ∧ Aside0 (Kd.R (Kd.int .i64) 2 w' w.heap.size (fun _ => True) v7 x7_1) ∧ Aside0 (Below w.heap.size w w'))
  case atStart => exact ⟨(([] : List Int)), (0), (by first | rfl | (simp; done) | (simp [*]; done)), H', ⟨Nat.le_refl _⟩, ⟨by first | exact Kd.R_nil _ _ _ _ _ | exact Kd.N_nil _ _ _ _ _ | exact Kd.V_nil _ _ _ _ _ | exact Kd.Q_nil _ _ _ _ _ | exact Kd.S_nil _ _ _ _ _⟩, ⟨by repeat (first | (with_reducible first | exact HB.out | apply below_alloc | apply pw_below_drewN | apply below_drew1) | exact HB.out)⟩⟩
  case round =>
    clear H'
    try clear p2
    obtain ⟨x7_1, x8_1, rfl, HA, HK1, HO_7, HB⟩ := hrel
    cases gk with
    | zero => exact absurd HA.out (by simp [bailiwickref03_times.l0])
    | succ k1 =>
      have H := HA.out
      clear HA
      simp only [bailiwickref03_times.l0] at H
      by_cases c4 : x8_1 < (l0.length : Int)
      · rw [if_pos c4] at H
        have c4b0 : decide (x8_1 < (l0.length : Int)) = true := decide_eq_true c4
        clear c4
        have HC5 := Aside0.mk H
        clear H
        go_upto_region 5 with (fail)
        repeat (go_quiet (fail); go_upto_region 5 with (fail))
        go_cut [36] (fun v36 wc => ∃ (kq : Nat) (x36_4 : Bool), v36 = .bool x36_4 ∧ Aside0 (bailiwickref03_times.j1 kq l0 a1 a2 x7_1 x8_1 x36_4 = some r) ∧ Aside0 (kq ≤ k1) ∧ Aside0 (Kd.R (Kd.int .i64) 2 wc w.heap.size (fun _ => True) u7 x7_1) ∧ Aside0 (Below w.heap.size w wc))
        case first =>
          have H := HC5.out
          clear HC5
          by_cases c6 : 0 ≤ x8_1
          · rw [if_pos c6] at H
            have c6b0 : decide (0 ≤ x8_1) = true := decide_eq_true c6
            clear c6
            (first | rw [c6b0] | (simp only [i64_w, i32_w]; rw [c6b0]) | skip)
            by_cases c7 : a1 < ((rd_T45 l0 x8_1).f0)
            · rw [if_pos c7] at H
              have c7b0 : decide (a1 < ((rd_T45 l0 x8_1).f0)) = true := decide_eq_true c7
              clear c7
              by_cases c8 : (x7_1.length : Int) = 0
              · rw [if_pos c8] at H
                have c8b0 : ((x7_1.length : Int) == 0) = true := beq_iff_eq.mpr c8
                have c8b1 : ((x7_1.length : Int) != 0) = false := bne_eq_false_iff_eq.mpr c8
                clear c8
                have H' := Aside0.mk H
                clear H
                have p256 : 0 ≤ (x8_1 : Int) := of_decide_eq_true (by first | (with_reducible assumption) | assumption)
                have q256 : x8_1 < (l0.length : Int) := of_decide_eq_true (by first | (with_reducible assumption) | assumption)
                obtain ⟨ad256, e256, hx256_0, hx256_1⟩ := at_T45 HR0.out x8_1 p256 q256
                cases e256
                replace hx256_0 := (HB.out.cell (World.block_lt_of_cell? w _ hx256_0)).trans hx256_0
                replace hx256_1 := (HB.out.cell (World.block_lt_of_cell? w _ hx256_1)).trans hx256_1
                replace p256 := eq_true p256
                replace q256 := eq_true q256
                obtain ⟨Ao9, co9, eo9⟩ := Kd.R_slice HO_7.out
                subst eo9
                go_wp2
                repeat (go_quiet (fail); try go_wp2)
                go_meet
                case rel => exact ⟨_, (true), (by first | rfl | (simp; done) | (simp [*]; done)), H', ⟨by have := HK1.out; first | omega | exact Nat.le_refl _⟩, ⟨by (with_reducible repeat (first | apply Kd.R_alloc | apply Kd.R_drewN | apply Kd.R_drew)); exact HO_7.out⟩, ⟨by repeat (first | (with_reducible first | exact HB.out | apply below_alloc | apply pw_below_drewN | apply below_drew1) | exact HB.out)⟩⟩
              · rw [if_neg c8] at H
                have c8b0 : ((x7_1.length : Int) == 0) = false := beq_eq_false_iff_ne.mpr c8
                have c8b1 : ((x7_1.length : Int) != 0) = true := bne_iff_ne.mpr c8
                have c8b2 : ¬ (x7_1 = []) := fun h_ => c8 (by rw [h_]; rfl)
                obtain ⟨ji10, hji10⟩ : ∃ j_ : Int, (wrap64 ((x7_1.length : Int) - 1)) = j_ := ⟨_, rfl⟩
                replace H : (if 0 ≤ (ji10) then (if (ji10) < (x7_1.length : Int) then (bailiwickref03_times.j1 k1 l0 a1 a2 x7_1 x8_1 (decide ((rd x7_1 (ji10)) < a1))) else (none)) else (none)) = some r := by first | (rw [hji10] at H; exact H) | (simp only [hji10] at H ⊢; exact H)
                have hji10w : (IntKind.i64.wrap ((x7_1.length : Int) - 1)) = ji10 := (i64_w _).trans hji10
                by_cases c11 : 0 ≤ (ji10)
                · rw [if_pos c11] at H
                  have c11b0 : decide (0 ≤ (ji10)) = true := decide_eq_true c11
                  clear c11
                  by_cases c12 : (ji10) < (x7_1.length : Int)
                  · rw [if_pos c12] at H
                    have c12b0 : decide ((ji10) < (x7_1.length : Int)) = true := decide_eq_true c12
                    clear c12
                    have H' := Aside0.mk H
                    clear H
                    have p256 : 0 ≤ (x8_1 : Int) := of_decide_eq_true (by first | (with_reducible assumption) | assumption)
                    have q256 : x8_1 < (l0.length : Int) := of_decide_eq_true (by first | (with_reducible assumption) | assumption)
                    obtain ⟨ad256, e256, hx256_0, hx256_1⟩ := at_T45 HR0.out x8_1 p256 q256
                    cases e256
                    replace hx256_0 := (HB.out.cell (World.block_lt_of_cell? w _ hx256_0)).trans hx256_0
                    replace hx256_1 := (HB.out.cell (World.block_lt_of_cell? w _ hx256_1)).trans hx256_1
                    replace p256 := eq_true p256
                    replace q256 := eq_true q256
                    obtain ⟨Ao13, co13, eo13⟩ := Kd.R_slice HO_7.out
                    subst eo13
                    have p257 : 0 ≤ ((ji10) : Int) := of_decide_eq_true (by first | (with_reducible assumption) | assumption)
                    have q257 : (ji10) < (x7_1.length : Int) := of_decide_eq_true (by first | (with_reducible assumption) | assumption)
                    obtain ⟨ad257, e257, hx257_0⟩ := Kd.at_int (Kd.R_reads' HO_7.out).2.2 (ji10) p257 q257
                    cases e257
                    replace p257 := eq_true p257
                    replace q257 := eq_true q257
                    go_wp2
                    repeat (go_quiet (fail); try go_wp2)
                    go_meet
                    case rel => exact ⟨_, (decide ((rd x7_1 (ji10)) < a1)), (by first | rfl | (simp; done) | (simp only [← hji10] <;> (first | rfl | simp)) | (simp [*]; done)), H', ⟨by have := HK1.out; first | omega | exact Nat.le_refl _⟩, ⟨by (with_reducible repeat (first | apply Kd.R_alloc | apply Kd.R_drewN | apply Kd.R_drew)); exact HO_7.out⟩, ⟨by repeat (first | (with_reducible first | exact HB.out | apply below_alloc | apply pw_below_drewN | apply below_drew1) | exact HB.out)⟩⟩
                  · rw [if_neg c12] at H
                    exact absurd H (by simp)
                · rw [if_neg c11] at H
                  exact absurd H (by simp)
            · rw [if_neg c7] at H
              have c7b0 : decide (a1 < ((rd_T45 l0 x8_1).f0)) = false := decide_eq_false c7
              clear c7
              have H' := Aside0.mk H
              clear H
              have p256 : 0 ≤ (x8_1 : Int) := of_decide_eq_true (by first | (with_reducible assumption) | assumption)
              have q256 : x8_1 < (l0.length : Int) := of_decide_eq_true (by first | (with_reducible assumption) | assumption)
              obtain ⟨ad256, e256, hx256_0, hx256_1⟩ := at_T45 HR0.out x8_1 p256 q256
              cases e256
              replace hx256_0 := (HB.out.cell (World.block_lt_of_cell? w _ hx256_0)).trans hx256_0
              replace hx256_1 := (HB.out.cell (World.block_lt_of_cell? w _ hx256_1)).trans hx256_1
              replace p256 := eq_true p256
              replace q256 := eq_true q256
              go_wp2
              repeat (go_quiet (fail); try go_wp2)
              go_meet
              case rel => exact ⟨_, (false), (by first | rfl | (simp; done) | (simp [*]; done)), H', ⟨by have := HK1.out; first | omega | exact Nat.le_refl _⟩, ⟨by (with_reducible repeat (first | apply Kd.R_alloc | apply Kd.R_drewN | apply Kd.R_drew)); exact HO_7.out⟩, ⟨by repeat (first | (with_reducible first | exact HB.out | apply below_alloc | apply pw_below_drewN | apply below_drew1) | exact HB.out)⟩⟩
          · rw [if_neg c6] at H
            exact absurd H (by simp)
        case rest =>
          clear HC5
          try clear c1
          try clear p2
          try clear q2
          try clear hx2
          try clear c4
          try clear c4b0
          try clear c6
          try clear c6b0
          try clear p6
          try clear c7
          try clear c7b0
          try clear c8
          try clear c8b0
          try clear c8b1
          try clear c8b2
          try clear c11
          try clear c11b0
          try clear c12
          try clear c12b0
          try clear hx256_0
          try clear hx256_1
          try clear hx257_0
          try clear p2
          try clear p256
          try clear p257
          try clear q256
          try clear q257
          obtain ⟨kq, x36_4, rfl, HA, HJ4, HO_7, HB⟩ := hcut
          cases kq with
          | zero => exact absurd HA.out (by simp [bailiwickref03_times.j1])
          | succ kj4 =>
            have H := HA.out
            clear HA
            simp only [bailiwickref03_times.j1] at H
            have HC14 := Aside0.mk H
            clear H
            go_upto_if 36 with (fail)
            repeat (go_quiet (fail); go_upto_if 36 with (fail))
            go_cut [7] (fun v7 wc => ∃ (kq : Nat) (x7_13 : List Int), Aside0 (bailiwickref03_times.j2 kq l0 a1 a2 x7_13 x8_1 = some r) ∧ Aside0 (kq ≤ kj4) ∧ Aside0 (Kd.R (Kd.int .i64) 2 wc w.heap.size (fun _ => True) v7 x7_13) ∧ Aside0 (Below w.heap.size w wc))
            case first =>
              have H := HC14.out
              clear HC14
              by_cases c15 : x36_4 = true
              · subst c15
                have H1 : (if x7_1.length < 17592186044416 then (bailiwickref03_times.j2 kj4 l0 a1 a2 (x7_1 ++ [a1]) x8_1) else (none)) = some r := by rw [if_pos rfl] at H; exact H
                clear H
                have H := H1
                clear H1
                by_cases c16 : x7_1.length < 17592186044416
                · rw [if_pos c16] at H
                  have LMc16 := Aside0.mk c16
                  clear c16
                  obtain ⟨y258, hy258⟩ : ∃ y_ : List Int, y_ = (x7_1 ++ [a1]) := ⟨_, rfl⟩
                  replace H : (bailiwickref03_times.j2 kj4 l0 a1 a2 y258 x8_1) = some r := by first | (rw [hy258]; with_reducible exact H) | (have H2_ := (Option.bind_some _ _).symm.trans H; rw [hy258]; with_reducible exact H2_) | (have H2_ := (Option.bind_some _ _).symm.trans H; with_reducible exact H2_) | with_reducible exact H | (rw [hy258]; exact H) | exact H
                  have Ny258 := Aside0.mk hy258
                  clear hy258
                  have H' := Aside0.mk H
                  clear H
                  go_wp2_with (first | ((with_reducible refine gate_builtin (b := .append) (xs := #[.tmp 37, .tmp 39]) rfl ?_); (try (refine gate_guard (by rfl) ?_; dsimp only)); at_builtin; refine Kd.R_append (Kd.int .i64) (w0 := w) w.heap.size rfl (.tmp 37) (.tmp 39) 73 2 (.int .i64 0) 8 rfl Try.underlying73 info2 rfl (by decide) (by omega) u7 x7_1 a1 [.int .i64 a1] (fun _ => True) (fun _ => False) rfl rfl ?aP (fun _ hk => hk.elim) ?aF ?aO ?aB ?aS ?aL ?_; (case aP => exact rfl); (case aB => exact (by repeat (first | (with_reducible first | exact HB.out | apply below_alloc | apply pw_below_drewN | apply below_drew1) | exact HB.out))); (case aF => exact (fun _ _ => trivial)); (case aO => exact (by (with_reducible repeat (first | apply Kd.R_alloc | apply Kd.R_drewN | apply Kd.R_drew)); exact HO_7.out)); (case aS => exact (below_size (by repeat (first | (with_reducible first | exact HB.out | apply below_alloc | apply pw_below_drewN | apply below_drew1) | exact HB.out)))); (case aL => have := LMc16.out; omega); intro v259 w17 ho hb hg hat; rw [← Ny258.out] at ho; have n0_ := Aside0.mk (hb); have n1_ := Aside0.mk (ho); clear HB; clear HO_7; have HB := n0_; have HO260 := n1_; clear n0_ n1_; clear ho hb hg hat))
                  repeat (go_quiet (first | ((with_reducible refine gate_builtin (b := .append) (xs := #[.tmp 37, .tmp 39]) rfl ?_); (try (refine gate_guard (by rfl) ?_; dsimp only)); at_builtin; refine Kd.R_append (Kd.int .i64) (w0 := w) w.heap.size rfl (.tmp 37) (.tmp 39) 73 2 (.int .i64 0) 8 rfl Try.underlying73 info2 rfl (by decide) (by omega) u7 x7_1 a1 [.int .i64 a1] (fun _ => True) (fun _ => False) rfl rfl ?aP (fun _ hk => hk.elim) ?aF ?aO ?aB ?aS ?aL ?_; (case aP => exact rfl); (case aB => exact (by repeat (first | (with_reducible first | exact HB.out | apply below_alloc | apply pw_below_drewN | apply below_drew1) | exact HB.out))); (case aF => exact (fun _ _ => trivial)); (case aO => exact (by (with_reducible repeat (first | apply Kd.R_alloc | apply Kd.R_drewN | apply Kd.R_drew)); exact HO_7.out)); (case aS => exact (below_size (by repeat (first | (with_reducible first | exact HB.out | apply below_alloc | apply pw_below_drewN | apply below_drew1) | exact HB.out)))); (case aL => have := LMc16.out; omega); intro v259 w17 ho hb hg hat; rw [← Ny258.out] at ho; have n0_ := Aside0.mk (hb); have n1_ := Aside0.mk (ho); clear HB; clear HO_7; have HB := n0_; have HO260 := n1_; clear n0_ n1_; clear ho hb hg hat)); try go_wp2_with (first | ((with_reducible refine gate_builtin (b := .append) (xs := #[.tmp 37, .tmp 39]) rfl ?_); (try (refine gate_guard (by rfl) ?_; dsimp only)); at_builtin; refine Kd.R_append (Kd.int .i64) (w0 := w) w.heap.size rfl (.tmp 37) (.tmp 39) 73 2 (.int .i64 0) 8 rfl Try.underlying73 info2 rfl (by decide) (by omega) u7 x7_1 a1 [.int .i64 a1] (fun _ => True) (fun _ => False) rfl rfl ?aP (fun _ hk => hk.elim) ?aF ?aO ?aB ?aS ?aL ?_; (case aP => exact rfl); (case aB => exact (by repeat (first | (with_reducible first | exact HB.out | apply below_alloc | apply pw_below_drewN | apply below_drew1) | exact HB.out))); (case aF => exact (fun _ _ => trivial)); (case aO => exact (by (with_reducible repeat (first | apply Kd.R_alloc | apply Kd.R_drewN | apply Kd.R_drew)); exact HO_7.out)); (case aS => exact (below_size (by repeat (first | (with_reducible first | exact HB.out | apply below_alloc | apply pw_below_drewN | apply below_drew1) | exact HB.out)))); (case aL => have := LMc16.out; omega); intro v259 w17 ho hb hg hat; rw [← Ny258.out] at ho; have n0_ := Aside0.mk (hb); have n1_ := Aside0.mk (ho); clear HB; clear HO_7; have HB := n0_; have HO260 := n1_; clear n0_ n1_; clear ho hb hg hat)))
                  go_meet
                  case rel => exact ⟨_, (y258), H', ⟨by have := HK1.out; have := HJ4.out; first | omega | exact Nat.le_refl _⟩, ⟨by (with_reducible repeat (first | apply Kd.R_alloc | apply Kd.R_drewN | apply Kd.R_drew)); exact HO260.out⟩, ⟨by repeat (first | (with_reducible first | exact HB.out | apply below_alloc | apply pw_below_drewN | apply below_drew1) | exact HB.out)⟩⟩
                · rw [if_neg c16] at H
                  exact absurd H (by simp)
              · replace c15 := Bool.eq_false_iff.mpr c15
                subst c15
                have H1 : (bailiwickref03_times.j2 kj4 l0 a1 a2 x7_1 x8_1) = some r := by rw [if_neg (show ¬ (false = true) by decide)] at H; exact H
                clear H
                have H := H1
                clear H1
                have H' := Aside0.mk H
                clear H
                go_wp2
                repeat (go_quiet (fail); try go_wp2)
                go_meet
                case rel => exact ⟨_, (x7_1), H', ⟨by have := HK1.out; have := HJ4.out; first | omega | exact Nat.le_refl _⟩, ⟨by (with_reducible repeat (first | apply Kd.R_alloc | apply Kd.R_drewN | apply Kd.R_drew)); exact HO_7.out⟩, ⟨by repeat (first | (with_reducible first | exact HB.out | apply below_alloc | apply pw_below_drewN | apply below_drew1) | exact HB.out)⟩⟩
            case rest =>
              clear HC14
              try clear c1
              try clear p2
              try clear q2
              try clear hx2
              try clear c4
              try clear c4b0
              try clear c6
              try clear c6b0
              try clear p6
              try clear c7
              try clear c7b0
              try clear c8
              try clear c8b0
              try clear c8b1
              try clear c8b2
              try clear c11
              try clear c11b0
              try clear c12
              try clear c12b0
              try clear c15
              try clear c16
              try clear hx256_0
              try clear hx256_1
              try clear hx257_0
              try clear p2
              try clear p256
              try clear p257
              try clear p6
              try clear q2
              try clear q256
              try clear q257
              obtain ⟨kq, x7_13, HA, HJ13, HO_7, HB⟩ := hcut
              cases kq with
              | zero => exact absurd HA.out (by simp [bailiwickref03_times.j2])
              | succ kj13 =>
                have H := HA.out
                clear HA
                simp only [bailiwickref03_times.j2] at H
                have HC18 := Aside0.mk H
                clear H
                go_upto_region 7 with (fail)
                repeat (go_quiet (fail); go_upto_region 7 with (fail))
                go_cut [62] (fun v62 wc => ∃ (kq : Nat) (x62_17 : Bool), v62 = .bool x62_17 ∧ Aside0 (bailiwickref03_times.j3 kq l0 a1 a2 x7_13 x8_1 x62_17 = some r) ∧ Aside0 (kq ≤ kj13) ∧ Aside0 (Kd.R (Kd.int .i64) 2 wc w.heap.size (fun _ => True) u7 x7_13) ∧ Aside0 (Below w.heap.size w wc))
                case first =>
                  have H := HC18.out
                  clear HC18
                  by_cases c19 : 0 ≤ x8_1
                  · rw [if_pos c19] at H
                    have c19b0 : decide (0 ≤ x8_1) = true := decide_eq_true c19
                    clear c19
                    (first | rw [c19b0] | (simp only [i64_w, i32_w]; rw [c19b0]) | skip)
                    by_cases c20 : x8_1 < (l0.length : Int)
                    · rw [if_pos c20] at H
                      have c20b0 : decide (x8_1 < (l0.length : Int)) = true := decide_eq_true c20
                      clear c20
                      by_cases c21 : a2 < ((rd_T45 l0 x8_1).f0)
                      · rw [if_pos c21] at H
                        have c21b0 : decide (a2 < ((rd_T45 l0 x8_1).f0)) = true := decide_eq_true c21
                        clear c21
                        by_cases c22 : (x7_13.length : Int) = 0
                        · rw [if_pos c22] at H
                          have c22b0 : ((x7_13.length : Int) == 0) = true := beq_iff_eq.mpr c22
                          have c22b1 : ((x7_13.length : Int) != 0) = false := bne_eq_false_iff_eq.mpr c22
                          clear c22
                          have H' := Aside0.mk H
                          clear H
                          have p261 : 0 ≤ (x8_1 : Int) := of_decide_eq_true (by first | (with_reducible assumption) | assumption)
                          have q261 : x8_1 < (l0.length : Int) := of_decide_eq_true (by first | (with_reducible assumption) | assumption)
                          obtain ⟨ad261, e261, hx261_0, hx261_1⟩ := at_T45 HR0.out x8_1 p261 q261
                          cases e261
                          replace hx261_0 := (HB.out.cell (World.block_lt_of_cell? w _ hx261_0)).trans hx261_0
                          replace hx261_1 := (HB.out.cell (World.block_lt_of_cell? w _ hx261_1)).trans hx261_1
                          replace p261 := eq_true p261
                          replace q261 := eq_true q261
                          obtain ⟨Ao23, co23, eo23⟩ := Kd.R_slice HO_7.out
                          subst eo23
                          go_wp2
                          repeat (go_quiet (fail); try go_wp2)
                          go_meet
                          case rel => exact ⟨_, (true), (by first | rfl | (simp; done) | (simp [*]; done)), H', ⟨by have := HK1.out; have := HJ4.out; have := HJ13.out; first | omega | exact Nat.le_refl _⟩, ⟨by (with_reducible repeat (first | apply Kd.R_alloc | apply Kd.R_drewN | apply Kd.R_drew)); exact HO_7.out⟩, ⟨by repeat (first | (with_reducible first | exact HB.out | apply below_alloc | apply pw_below_drewN | apply below_drew1) | exact HB.out)⟩⟩
                        · rw [if_neg c22] at H
                          have c22b0 : ((x7_13.length : Int) == 0) = false := beq_eq_false_iff_ne.mpr c22
                          have c22b1 : ((x7_13.length : Int) != 0) = true := bne_iff_ne.mpr c22
                          have c22b2 : ¬ (x7_13 = []) := fun h_ => c22 (by rw [h_]; rfl)
                          obtain ⟨ji24, hji24⟩ : ∃ j_ : Int, (wrap64 ((x7_13.length : Int) - 1)) = j_ := ⟨_, rfl⟩
                          replace H : (if 0 ≤ (ji24) then (if (ji24) < (x7_13.length : Int) then (bailiwickref03_times.j3 kj13 l0 a1 a2 x7_13 x8_1 (decide ((rd x7_13 (ji24)) < a2))) else (none)) else (none)) = some r := by first | (rw [hji24] at H; exact H) | (simp only [hji24] at H ⊢; exact H)
                          have hji24w : (IntKind.i64.wrap ((x7_13.length : Int) - 1)) = ji24 := (i64_w _).trans hji24
                          by_cases c25 : 0 ≤ (ji24)
                          · rw [if_pos c25] at H
                            have c25b0 : decide (0 ≤ (ji24)) = true := decide_eq_true c25
                            clear c25
                            by_cases c26 : (ji24) < (x7_13.length : Int)
                            · rw [if_pos c26] at H
                              have c26b0 : decide ((ji24) < (x7_13.length : Int)) = true := decide_eq_true c26
                              clear c26
                              have H' := Aside0.mk H
                              clear H
                              have p261 : 0 ≤ (x8_1 : Int) := of_decide_eq_true (by first | (with_reducible assumption) | assumption)
                              have q261 : x8_1 < (l0.length : Int) := of_decide_eq_true (by first | (with_reducible assumption) | assumption)
                              obtain ⟨ad261, e261, hx261_0, hx261_1⟩ := at_T45 HR0.out x8_1 p261 q261
                              cases e261
                              replace hx261_0 := (HB.out.cell (World.block_lt_of_cell? w _ hx261_0)).trans hx261_0
                              replace hx261_1 := (HB.out.cell (World.block_lt_of_cell? w _ hx261_1)).trans hx261_1
                              replace p261 := eq_true p261
                              replace q261 := eq_true q261
                              obtain ⟨Ao27, co27, eo27⟩ := Kd.R_slice HO_7.out
                              subst eo27
                              have p262 : 0 ≤ ((ji24) : Int) := of_decide_eq_true (by first | (with_reducible assumption) | assumption)
                              have q262 : (ji24) < (x7_13.length : Int) := of_decide_eq_true (by first | (with_reducible assumption) | assumption)
                              obtain ⟨ad262, e262, hx262_0⟩ := Kd.at_int (Kd.R_reads' HO_7.out).2.2 (ji24) p262 q262
                              cases e262
                              replace p262 := eq_true p262
                              replace q262 := eq_true q262
                              go_wp2
                              repeat (go_quiet (fail); try go_wp2)
                              go_meet
                              case rel => exact ⟨_, (decide ((rd x7_13 (ji24)) < a2)), (by first | rfl | (simp; done) | (simp only [← hji24] <;> (first | rfl | simp)) | (simp [*]; done)), H', ⟨by have := HK1.out; have := HJ4.out; have := HJ13.out; first | omega | exact Nat.le_refl _⟩, ⟨by (with_reducible repeat (first | apply Kd.R_alloc | apply Kd.R_drewN | apply Kd.R_drew)); exact HO_7.out⟩, ⟨by repeat (first | (with_reducible first | exact HB.out | apply below_alloc | apply pw_below_drewN | apply below_drew1) | exact HB.out)⟩⟩
                            · rw [if_neg c26] at H
                              exact absurd H (by simp)
                          · rw [if_neg c25] at H
                            exact absurd H (by simp)
                      · rw [if_neg c21] at H
                        have c21b0 : decide (a2 < ((rd_T45 l0 x8_1).f0)) = false := decide_eq_false c21
                        clear c21
                        have H' := Aside0.mk H
                        clear H
                        have p261 : 0 ≤ (x8_1 : Int) := of_decide_eq_true (by first | (with_reducible assumption) | assumption)
                        have q261 : x8_1 < (l0.length : Int) := of_decide_eq_true (by first | (with_reducible assumption) | assumption)
                        obtain ⟨ad261, e261, hx261_0, hx261_1⟩ := at_T45 HR0.out x8_1 p261 q261
                        cases e261
                        replace hx261_0 := (HB.out.cell (World.block_lt_of_cell? w _ hx261_0)).trans hx261_0
                        replace hx261_1 := (HB.out.cell (World.block_lt_of_cell? w _ hx261_1)).trans hx261_1
                        replace p261 := eq_true p261
                        replace q261 := eq_true q261
                        go_wp2
                        repeat (go_quiet (fail); try go_wp2)
                        go_meet
                        case rel => exact ⟨_, (false), (by first | rfl | (simp; done) | (simp [*]; done)), H', ⟨by have := HK1.out; have := HJ4.out; have := HJ13.out; first | omega | exact Nat.le_refl _⟩, ⟨by (with_reducible repeat (first | apply Kd.R_alloc | apply Kd.R_drewN | apply Kd.R_drew)); exact HO_7.out⟩, ⟨by repeat (first | (with_reducible first | exact HB.out | apply below_alloc | apply pw_below_drewN | apply below_drew1) | exact HB.out)⟩⟩
                    · rw [if_neg c20] at H
                      exact absurd H (by simp)
                  · rw [if_neg c19] at H
                    exact absurd H (by simp)
                case rest =>
                  clear HC18
                  try clear c1
                  try clear c2
                  try clear p2
                  try clear q2
                  try clear hx2
                  try clear c4
                  try clear c4b0
                  try clear c6
                  try clear c6b0
                  try clear p6
                  try clear c7
                  try clear c7b0
                  try clear c8
                  try clear c8b0
                  try clear c8b1
                  try clear c8b2
                  try clear c11
                  try clear c11b0
                  try clear c12
                  try clear c12b0
                  try clear c15
                  try clear c16
                  try clear c19
                  try clear c19b0
                  try clear c20
                  try clear c20b0
                  try clear c21
                  try clear c21b0
                  try clear c22
                  try clear c22b0
                  try clear c22b1
                  try clear c22b2
                  try clear c25
                  try clear c25b0
                  try clear p25
                  try clear q25
                  try clear hx25
                  try clear c26
                  try clear c26b0
                  try clear p26
                  try clear q26
                  try clear hx26
                  try clear hx256_0
                  try clear hx256_1
                  try clear hx257_0
                  try clear hx261_0
                  try clear hx261_1
                  try clear hx262_0
                  try clear p2
                  try clear p256
                  try clear p257
                  try clear p261
                  try clear p262
                  try clear p6
                  try clear q2
                  try clear q256
                  try clear q257
                  try clear q261
                  try clear q262
                  obtain ⟨kq, x62_17, rfl, HA, HJ17, HO_7, HB⟩ := hcut
                  cases kq with
                  | zero => exact absurd HA.out (by simp [bailiwickref03_times.j3])
                  | succ kj17 =>
                    have H := HA.out
                    clear HA
                    simp only [bailiwickref03_times.j3] at H
                    by_cases c28 : x62_17 = true
                    · subst c28
                      have H1 : (if x7_13.length < 17592186044416 then ((some (x7_13 ++ [a2] : List Int)).bind fun y263 => (if (y263.length : Int) = 0 then (if 0 ≤ x8_1 then (if x8_1 < (l0.length : Int) then (if y263.length < 17592186044416 then (bailiwickref03_times.l0 kj17 l0 a1 a2 (y263 ++ [(rd_T45 l0 x8_1).f0]) (wrap64 (x8_1 + 1))) else (none)) else (none)) else (none)) else (if 0 ≤ (wrap64 ((y263.length : Int) - 1)) then (if (wrap64 ((y263.length : Int) - 1)) < (y263.length : Int) then (if 0 ≤ x8_1 then (if x8_1 < (l0.length : Int) then (if (rd y263 (wrap64 ((y263.length : Int) - 1))) < ((rd_T45 l0 x8_1).f0) then (if y263.length < 17592186044416 then (bailiwickref03_times.l0 kj17 l0 a1 a2 (y263 ++ [(rd_T45 l0 x8_1).f0]) (wrap64 (x8_1 + 1))) else (none)) else (bailiwickref03_times.l0 kj17 l0 a1 a2 y263 (wrap64 (x8_1 + 1)))) else (none)) else (none)) else (none)) else (none)))) else (none)) = some r := by rw [if_pos rfl] at H; exact H
                      clear H
                      have H := H1
                      clear H1
                      by_cases c29 : x7_13.length < 17592186044416
                      · rw [if_pos c29] at H
                        have LMc29 := Aside0.mk c29
                        clear c29
                        obtain ⟨y263, hy263⟩ : ∃ y_ : List Int, y_ = (x7_13 ++ [a2]) := ⟨_, rfl⟩
                        replace H : (if (y263.length : Int) = 0 then (if 0 ≤ x8_1 then (if x8_1 < (l0.length : Int) then (if y263.length < 17592186044416 then (bailiwickref03_times.l0 kj17 l0 a1 a2 (y263 ++ [(rd_T45 l0 x8_1).f0]) (wrap64 (x8_1 + 1))) else (none)) else (none)) else (none)) else (if 0 ≤ (wrap64 ((y263.length : Int) - 1)) then (if (wrap64 ((y263.length : Int) - 1)) < (y263.length : Int) then (if 0 ≤ x8_1 then (if x8_1 < (l0.length : Int) then (if (rd y263 (wrap64 ((y263.length : Int) - 1))) < ((rd_T45 l0 x8_1).f0) then (if y263.length < 17592186044416 then (bailiwickref03_times.l0 kj17 l0 a1 a2 (y263 ++ [(rd_T45 l0 x8_1).f0]) (wrap64 (x8_1 + 1))) else (none)) else (bailiwickref03_times.l0 kj17 l0 a1 a2 y263 (wrap64 (x8_1 + 1)))) else (none)) else (none)) else (none)) else (none))) = some r := by first | (rw [hy263]; with_reducible exact H) | (have H2_ := (Option.bind_some _ _).symm.trans H; rw [hy263]; with_reducible exact H2_) | (have H2_ := (Option.bind_some _ _).symm.trans H; with_reducible exact H2_) | with_reducible exact H | (rw [hy263]; exact H) | exact H
                        have Ny263 := Aside0.mk hy263
                        clear hy263
                        by_cases c30 : (y263.length : Int) = 0
                        · rw [if_pos c30] at H
                          have c30b0 : ((y263.length : Int) == 0) = true := beq_iff_eq.mpr c30
                          have c30b1 : ((y263.length : Int) != 0) = false := bne_eq_false_iff_eq.mpr c30
                          clear c30
                          by_cases c31 : 0 ≤ x8_1
                          · rw [if_pos c31] at H
                            have c31b0 : decide (0 ≤ x8_1) = true := decide_eq_true c31
                            clear c31
                            by_cases c32 : x8_1 < (l0.length : Int)
                            · rw [if_pos c32] at H
                              have c32b0 : decide (x8_1 < (l0.length : Int)) = true := decide_eq_true c32
                              clear c32
                              by_cases c33 : y263.length < 17592186044416
                              · rw [if_pos c33] at H
                                have LMc33 := Aside0.mk c33
                                clear c33
                                obtain ⟨y267, hy267⟩ : ∃ y_ : List Int, y_ = (y263 ++ [(rd_T45 l0 x8_1).f0]) := ⟨_, rfl⟩
                                replace H : (bailiwickref03_times.l0 kj17 l0 a1 a2 y267 (wrap64 (x8_1 + 1))) = some r := by first | (rw [hy267]; with_reducible exact H) | (have H2_ := (Option.bind_some _ _).symm.trans H; rw [hy267]; with_reducible exact H2_) | (have H2_ := (Option.bind_some _ _).symm.trans H; with_reducible exact H2_) | with_reducible exact H | (rw [hy267]; exact H) | exact H
                                have Ny267 := Aside0.mk hy267
                                clear hy267
                                have H' := Aside0.mk H
                                clear H
                                go_wp2_with (first | ((with_reducible refine gate_builtin (b := .append) (xs := #[.tmp 63, .tmp 65]) rfl ?_); (try (refine gate_guard (by rfl) ?_; dsimp only)); at_builtin; refine Kd.R_append (Kd.int .i64) (w0 := w) w.heap.size rfl (.tmp 63) (.tmp 65) 73 2 (.int .i64 0) 8 rfl Try.underlying73 info2 rfl (by decide) (by omega) u7 x7_13 a2 [.int .i64 a2] (fun _ => True) (fun _ => False) rfl rfl ?aP (fun _ hk => hk.elim) ?aF ?aO ?aB ?aS ?aL ?_; (case aP => exact rfl); (case aB => exact (by repeat (first | (with_reducible first | exact HB.out | apply below_alloc | apply pw_below_drewN | apply below_drew1) | exact HB.out))); (case aF => exact (fun _ _ => trivial)); (case aO => exact (by (with_reducible repeat (first | apply Kd.R_alloc | apply Kd.R_drewN | apply Kd.R_drew)); exact HO_7.out)); (case aS => exact (below_size (by repeat (first | (with_reducible first | exact HB.out | apply below_alloc | apply pw_below_drewN | apply below_drew1) | exact HB.out)))); (case aL => have := LMc29.out; omega); intro v264 w34 ho hb hg hat; rw [← Ny263.out] at ho; have n0_ := Aside0.mk (hb); have n1_ := Aside0.mk (ho); clear HB; clear HO_7; have HB := n0_; have HO265 := n1_; clear n0_ n1_; clear ho hb hg hat; obtain ⟨Ao35, co35, eo35⟩ := Kd.R_slice HO265.out; subst eo35; have p266 : 0 ≤ (x8_1 : Int) := of_decide_eq_true (by first | (with_reducible assumption) | assumption); have q266 : x8_1 < (l0.length : Int) := of_decide_eq_true (by first | (with_reducible assumption) | assumption); obtain ⟨ad266, e266, hx266_0, hx266_1⟩ := at_T45 HR0.out x8_1 p266 q266; cases e266; replace hx266_0 := (HB.out.cell (World.block_lt_of_cell? w _ hx266_0)).trans hx266_0; replace hx266_1 := (HB.out.cell (World.block_lt_of_cell? w _ hx266_1)).trans hx266_1; replace p266 := eq_true p266; replace q266 := eq_true q266) | ((with_reducible refine gate_builtin (b := .append) (xs := #[.tmp 84, .tmp 90]) rfl ?_); (try (refine gate_guard (by rfl) ?_; dsimp only)); at_builtin; refine Kd.R_append (Kd.int .i64) (w0 := w) w.heap.size rfl (.tmp 84) (.tmp 90) 73 2 (.int .i64 0) 8 rfl Try.underlying73 info2 rfl (by decide) (by omega) (.slice Ao35 y263.length co35) y263 ((rd_T45 l0 x8_1).f0) [.int .i64 ((rd_T45 l0 x8_1).f0)] (fun _ => True) (fun _ => False) rfl rfl ?aP (fun _ hk => hk.elim) ?aF ?aO ?aB ?aS ?aL ?_; (case aP => exact rfl); (case aB => exact (by repeat (first | (with_reducible first | exact HB.out | apply below_alloc | apply pw_below_drewN | apply below_drew1) | exact HB.out))); (case aF => exact (fun _ _ => trivial)); (case aO => exact (by (with_reducible repeat (first | apply Kd.R_alloc | apply Kd.R_drewN | apply Kd.R_drew)); exact HO265.out)); (case aS => exact (below_size (by repeat (first | (with_reducible first | exact HB.out | apply below_alloc | apply pw_below_drewN | apply below_drew1) | exact HB.out)))); (case aL => have := LMc33.out; omega); intro v268 w36 ho hb hg hat; rw [← Ny267.out] at ho; have n0_ := Aside0.mk (hb); have n1_ := Aside0.mk (ho); clear HB; clear HO265; have HB := n0_; have HO269 := n1_; clear n0_ n1_; clear ho hb hg hat))
                                repeat (go_quiet (first | ((with_reducible refine gate_builtin (b := .append) (xs := #[.tmp 63, .tmp 65]) rfl ?_); (try (refine gate_guard (by rfl) ?_; dsimp only)); at_builtin; refine Kd.R_append (Kd.int .i64) (w0 := w) w.heap.size rfl (.tmp 63) (.tmp 65) 73 2 (.int .i64 0) 8 rfl Try.underlying73 info2 rfl (by decide) (by omega) u7 x7_13 a2 [.int .i64 a2] (fun _ => True) (fun _ => False) rfl rfl ?aP (fun _ hk => hk.elim) ?aF ?aO ?aB ?aS ?aL ?_; (case aP => exact rfl); (case aB => exact (by repeat (first | (with_reducible first | exact HB.out | apply below_alloc | apply pw_below_drewN | apply below_drew1) | exact HB.out))); (case aF => exact (fun _ _ => trivial)); (case aO => exact (by (with_reducible repeat (first | apply Kd.R_alloc | apply Kd.R_drewN | apply Kd.R_drew)); exact HO_7.out)); (case aS => exact (below_size (by repeat (first | (with_reducible first | exact HB.out | apply below_alloc | apply pw_below_drewN | apply below_drew1) | exact HB.out)))); (case aL => have := LMc29.out; omega); intro v264 w34 ho hb hg hat; rw [← Ny263.out] at ho; have n0_ := Aside0.mk (hb); have n1_ := Aside0.mk (ho); clear HB; clear HO_7; have HB := n0_; have HO265 := n1_; clear n0_ n1_; clear ho hb hg hat; obtain ⟨Ao35, co35, eo35⟩ := Kd.R_slice HO265.out; subst eo35; have p266 : 0 ≤ (x8_1 : Int) := of_decide_eq_true (by first | (with_reducible assumption) | assumption); have q266 : x8_1 < (l0.length : Int) := of_decide_eq_true (by first | (with_reducible assumption) | assumption); obtain ⟨ad266, e266, hx266_0, hx266_1⟩ := at_T45 HR0.out x8_1 p266 q266; cases e266; replace hx266_0 := (HB.out.cell (World.block_lt_of_cell? w _ hx266_0)).trans hx266_0; replace hx266_1 := (HB.out.cell (World.block_lt_of_cell? w _ hx266_1)).trans hx266_1; replace p266 := eq_true p266; replace q266 := eq_true q266) | ((with_reducible refine gate_builtin (b := .append) (xs := #[.tmp 84, .tmp 90]) rfl ?_); (try (refine gate_guard (by rfl) ?_; dsimp only)); at_builtin; refine Kd.R_append (Kd.int .i64) (w0 := w) w.heap.size rfl (.tmp 84) (.tmp 90) 73 2 (.int .i64 0) 8 rfl Try.underlying73 info2 rfl (by decide) (by omega) (.slice Ao35 y263.length co35) y263 ((rd_T45 l0 x8_1).f0) [.int .i64 ((rd_T45 l0 x8_1).f0)] (fun _ => True) (fun _ => False) rfl rfl ?aP (fun _ hk => hk.elim) ?aF ?aO ?aB ?aS ?aL ?_; (case aP => exact rfl); (case aB => exact (by repeat (first | (with_reducible first | exact HB.out | apply below_alloc | apply pw_below_drewN | apply below_drew1) | exact HB.out))); (case aF => exact (fun _ _ => trivial)); (case aO => exact (by (with_reducible repeat (first | apply Kd.R_alloc | apply Kd.R_drewN | apply Kd.R_drew)); exact HO265.out)); (case aS => exact (below_size (by repeat (first | (with_reducible first | exact HB.out | apply below_alloc | apply pw_below_drewN | apply below_drew1) | exact HB.out)))); (case aL => have := LMc33.out; omega); intro v268 w36 ho hb hg hat; rw [← Ny267.out] at ho; have n0_ := Aside0.mk (hb); have n1_ := Aside0.mk (ho); clear HB; clear HO265; have HB := n0_; have HO269 := n1_; clear n0_ n1_; clear ho hb hg hat)); try go_wp2_with (first | ((with_reducible refine gate_builtin (b := .append) (xs := #[.tmp 63, .tmp 65]) rfl ?_); (try (refine gate_guard (by rfl) ?_; dsimp only)); at_builtin; refine Kd.R_append (Kd.int .i64) (w0 := w) w.heap.size rfl (.tmp 63) (.tmp 65) 73 2 (.int .i64 0) 8 rfl Try.underlying73 info2 rfl (by decide) (by omega) u7 x7_13 a2 [.int .i64 a2] (fun _ => True) (fun _ => False) rfl rfl ?aP (fun _ hk => hk.elim) ?aF ?aO ?aB ?aS ?aL ?_; (case aP => exact rfl); (case aB => exact (by repeat (first | (with_reducible first | exact HB.out | apply below_alloc | apply pw_below_drewN | apply below_drew1) | exact HB.out))); (case aF => exact (fun _ _ => trivial)); (case aO => exact (by (with_reducible repeat (first | apply Kd.R_alloc | apply Kd.R_drewN | apply Kd.R_drew)); exact HO_7.out)); (case aS => exact (below_size (by repeat (first | (with_reducible first | exact HB.out | apply below_alloc | apply pw_below_drewN | apply below_drew1) | exact HB.out)))); (case aL => have := LMc29.out; omega); intro v264 w34 ho hb hg hat; rw [← Ny263.out] at ho; have n0_ := Aside0.mk (hb); have n1_ := Aside0.mk (ho); clear HB; clear HO_7; have HB := n0_; have HO265 := n1_; clear n0_ n1_; clear ho hb hg hat; obtain ⟨Ao35, co35, eo35⟩ := Kd.R_slice HO265.out; subst eo35; have p266 : 0 ≤ (x8_1 : Int) := of_decide_eq_true (by first | (with_reducible assumption) | assumption); have q266 : x8_1 < (l0.length : Int) := of_decide_eq_true (by first | (with_reducible assumption) | assumption); obtain ⟨ad266, e266, hx266_0, hx266_1⟩ := at_T45 HR0.out x8_1 p266 q266; cases e266; replace hx266_0 := (HB.out.cell (World.block_lt_of_cell? w _ hx266_0)).trans hx266_0; replace hx266_1 := (HB.out.cell (World.block_lt_of_cell? w _ hx266_1)).trans hx266_1; replace p266 := eq_true p266; replace q266 := eq_true q266) | ((with_reducible refine gate_builtin (b := .append) (xs := #[.tmp 84, .tmp 90]) rfl ?_); (try (refine gate_guard (by rfl) ?_; dsimp only)); at_builtin; refine Kd.R_append (Kd.int .i64) (w0 := w) w.heap.size rfl (.tmp 84) (.tmp 90) 73 2 (.int .i64 0) 8 rfl Try.underlying73 info2 rfl (by decide) (by omega) (.slice Ao35 y263.length co35) y263 ((rd_T45 l0 x8_1).f0) [.int .i64 ((rd_T45 l0 x8_1).f0)] (fun _ => True) (fun _ => False) rfl rfl ?aP (fun _ hk => hk.elim) ?aF ?aO ?aB ?aS ?aL ?_; (case aP => exact rfl); (case aB => exact (by repeat (first | (with_reducible first | exact HB.out | apply below_alloc | apply pw_below_drewN | apply below_drew1) | exact HB.out))); (case aF => exact (fun _ _ => trivial)); (case aO => exact (by (with_reducible repeat (first | apply Kd.R_alloc | apply Kd.R_drewN | apply Kd.R_drew)); exact HO265.out)); (case aS => exact (below_size (by repeat (first | (with_reducible first | exact HB.out | apply below_alloc | apply pw_below_drewN | apply below_drew1) | exact HB.out)))); (case aL => have := LMc33.out; omega); intro v268 w36 ho hb hg hat; rw [← Ny267.out] at ho; have n0_ := Aside0.mk (hb); have n1_ := Aside0.mk (ho); clear HB; clear HO265; have HB := n0_; have HO269 := n1_; clear n0_ n1_; clear ho hb hg hat)))
                                go_roundg kj17
                                case measure => have := HK1.out; have := HJ4.out; have := HJ13.out; have := HJ17.out; omega
                                case rel => exact ⟨(y267), (wrap64 (x8_1 + 1)), (by first | rfl | (simp; done) | (simp [*]; done)), H', ⟨by have := HK1.out; have := HJ4.out; have := HJ13.out; have := HJ17.out; omega⟩, ⟨by (with_reducible repeat (first | apply Kd.R_alloc | apply Kd.R_drewN | apply Kd.R_drew)); exact HO269.out⟩, ⟨by repeat (first | (with_reducible first | exact HB.out | apply below_alloc | apply pw_below_drewN | apply below_drew1) | exact HB.out)⟩⟩
                              · rw [if_neg c33] at H
                                exact absurd H (by simp)
                            · rw [if_neg c32] at H
                              exact absurd H (by simp)
                          · rw [if_neg c31] at H
                            exact absurd H (by simp)
                        · rw [if_neg c30] at H
                          have c30b0 : ((y263.length : Int) == 0) = false := beq_eq_false_iff_ne.mpr c30
                          have c30b1 : ((y263.length : Int) != 0) = true := bne_iff_ne.mpr c30
                          have c30b2 : ¬ (y263 = []) := fun h_ => c30 (by rw [h_]; rfl)
                          obtain ⟨ji37, hji37⟩ : ∃ j_ : Int, (wrap64 ((y263.length : Int) - 1)) = j_ := ⟨_, rfl⟩
                          replace H : (if 0 ≤ (ji37) then (if (ji37) < (y263.length : Int) then (if 0 ≤ x8_1 then (if x8_1 < (l0.length : Int) then (if (rd y263 (ji37)) < ((rd_T45 l0 x8_1).f0) then (if y263.length < 17592186044416 then (bailiwickref03_times.l0 kj17 l0 a1 a2 (y263 ++ [(rd_T45 l0 x8_1).f0]) (wrap64 (x8_1 + 1))) else (none)) else (bailiwickref03_times.l0 kj17 l0 a1 a2 y263 (wrap64 (x8_1 + 1)))) else (none)) else (none)) else (none)) else (none)) = some r := by first | (rw [hji37] at H; exact H) | (simp only [hji37] at H ⊢; exact H)
                          have hji37w : (IntKind.i64.wrap ((y263.length : Int) - 1)) = ji37 := (i64_w _).trans hji37
                          by_cases c38 : 0 ≤ (ji37)
                          · rw [if_pos c38] at H
                            have c38b0 : decide (0 ≤ (ji37)) = true := decide_eq_true c38
                            clear c38
                            by_cases c39 : (ji37) < (y263.length : Int)
                            · rw [if_pos c39] at H
                              have c39b0 : decide ((ji37) < (y263.length : Int)) = true := decide_eq_true c39
                              clear c39
                              by_cases c40 : 0 ≤ x8_1
                              · rw [if_pos c40] at H
                                have c40b0 : decide (0 ≤ x8_1) = true := decide_eq_true c40
                                clear c40
                                by_cases c41 : x8_1 < (l0.length : Int)
                                · rw [if_pos c41] at H
                                  have c41b0 : decide (x8_1 < (l0.length : Int)) = true := decide_eq_true c41
                                  clear c41
                                  by_cases c42 : (rd y263 (ji37)) < ((rd_T45 l0 x8_1).f0)
                                  · rw [if_pos c42] at H
                                    have c42b0 : decide ((rd y263 (ji37)) < ((rd_T45 l0 x8_1).f0)) = true := decide_eq_true c42
                                    clear c42
                                    by_cases c43 : y263.length < 17592186044416
                                    · rw [if_pos c43] at H
                                      have LMc43 := Aside0.mk c43
                                      clear c43
                                      obtain ⟨y273, hy273⟩ : ∃ y_ : List Int, y_ = (y263 ++ [(rd_T45 l0 x8_1).f0]) := ⟨_, rfl⟩
                                      replace H : (bailiwickref03_times.l0 kj17 l0 a1 a2 y273 (wrap64 (x8_1 + 1))) = some r := by first | (rw [hy273]; with_reducible exact H) | (have H2_ := (Option.bind_some _ _).symm.trans H; rw [hy273]; with_reducible exact H2_) | (have H2_ := (Option.bind_some _ _).symm.trans H; with_reducible exact H2_) | with_reducible exact H | (rw [hy273]; exact H) | exact H
                                      have Ny273 := Aside0.mk hy273
                                      clear hy273
                                      have H' := Aside0.mk H
                                      clear H
                                      go_wp2_with (first | ((with_reducible refine gate_builtin (b := .append) (xs := #[.tmp 63, .tmp 65]) rfl ?_); (try (refine gate_guard (by rfl) ?_; dsimp only)); at_builtin; refine Kd.R_append (Kd.int .i64) (w0 := w) w.heap.size rfl (.tmp 63) (.tmp 65) 73 2 (.int .i64 0) 8 rfl Try.underlying73 info2 rfl (by decide) (by omega) u7 x7_13 a2 [.int .i64 a2] (fun _ => True) (fun _ => False) rfl rfl ?aP (fun _ hk => hk.elim) ?aF ?aO ?aB ?aS ?aL ?_; (case aP => exact rfl); (case aB => exact (by repeat (first | (with_reducible first | exact HB.out | apply below_alloc | apply pw_below_drewN | apply below_drew1) | exact HB.out))); (case aF => exact (fun _ _ => trivial)); (case aO => exact (by (with_reducible repeat (first | apply Kd.R_alloc | apply Kd.R_drewN | apply Kd.R_drew)); exact HO_7.out)); (case aS => exact (below_size (by repeat (first | (with_reducible first | exact HB.out | apply below_alloc | apply pw_below_drewN | apply below_drew1) | exact HB.out)))); (case aL => have := LMc29.out; omega); intro v264 w44 ho hb hg hat; rw [← Ny263.out] at ho; have n0_ := Aside0.mk (hb); have n1_ := Aside0.mk (ho); clear HB; clear HO_7; have HB := n0_; have HO265 := n1_; clear n0_ n1_; clear ho hb hg hat; obtain ⟨Ao45, co45, eo45⟩ := Kd.R_slice HO265.out; subst eo45; have p270 : 0 ≤ ((ji37) : Int) := of_decide_eq_true (by first | (with_reducible assumption) | assumption); have q270 : (ji37) < (y263.length : Int) := of_decide_eq_true (by first | (with_reducible assumption) | assumption); obtain ⟨ad270, e270, hx270_0⟩ := Kd.at_int (Kd.R_reads' HO265.out).2.2 (ji37) p270 q270; cases e270; replace p270 := eq_true p270; replace q270 := eq_true q270; have p271 : 0 ≤ (x8_1 : Int) := of_decide_eq_true (by first | (with_reducible assumption) | assumption); have q271 : x8_1 < (l0.length : Int) := of_decide_eq_true (by first | (with_reducible assumption) | assumption); obtain ⟨ad271, e271, hx271_0, hx271_1⟩ := at_T45 HR0.out x8_1 p271 q271; cases e271; replace hx271_0 := (HB.out.cell (World.block_lt_of_cell? w _ hx271_0)).trans hx271_0; replace hx271_1 := (HB.out.cell (World.block_lt_of_cell? w _ hx271_1)).trans hx271_1; replace p271 := eq_true p271; replace q271 := eq_true q271; have p272 : 0 ≤ (x8_1 : Int) := of_decide_eq_true (by first | (with_reducible assumption) | assumption); have q272 : x8_1 < (l0.length : Int) := of_decide_eq_true (by first | (with_reducible assumption) | assumption); obtain ⟨ad272, e272, hx272_0, hx272_1⟩ := at_T45 HR0.out x8_1 p272 q272; obtain rfl : ad271 = ad272 := (by injection e272); replace hx272_0 := (HB.out.cell (World.block_lt_of_cell? w _ hx272_0)).trans hx272_0; replace hx272_1 := (HB.out.cell (World.block_lt_of_cell? w _ hx272_1)).trans hx272_1; replace p272 := eq_true p272; replace q272 := eq_true q272) | ((with_reducible refine gate_builtin (b := .append) (xs := #[.tmp 84, .tmp 90]) rfl ?_); (try (refine gate_guard (by rfl) ?_; dsimp only)); at_builtin; refine Kd.R_append (Kd.int .i64) (w0 := w) w.heap.size rfl (.tmp 84) (.tmp 90) 73 2 (.int .i64 0) 8 rfl Try.underlying73 info2 rfl (by decide) (by omega) (.slice (some ad270) y263.length co45) y263 ((rd_T45 l0 x8_1).f0) [.int .i64 ((rd_T45 l0 x8_1).f0)] (fun _ => True) (fun _ => False) rfl rfl ?aP (fun _ hk => hk.elim) ?aF ?aO ?aB ?aS ?aL ?_; (case aP => exact rfl); (case aB => exact (by repeat (first | (with_reducible first | exact HB.out | apply below_alloc | apply pw_below_drewN | apply below_drew1) | exact HB.out))); (case aF => exact (fun _ _ => trivial)); (case aO => exact (by (with_reducible repeat (first | apply Kd.R_alloc | apply Kd.R_drewN | apply Kd.R_drew)); exact HO265.out)); (case aS => exact (below_size (by repeat (first | (with_reducible first | exact HB.out | apply below_alloc | apply pw_below_drewN | apply below_drew1) | exact HB.out)))); (case aL => have := LMc43.out; omega); intro v274 w46 ho hb hg hat; rw [← Ny273.out] at ho; have n0_ := Aside0.mk (hb); have n1_ := Aside0.mk (ho); clear HB; clear HO265; have HB := n0_; have HO275 := n1_; clear n0_ n1_; clear ho hb hg hat))
                                      repeat (go_quiet (first | ((with_reducible refine gate_builtin (b := .append) (xs := #[.tmp 63, .tmp 65]) rfl ?_); (try (refine gate_guard (by rfl) ?_; dsimp only)); at_builtin; refine Kd.R_append (Kd.int .i64) (w0 := w) w.heap.size rfl (.tmp 63) (.tmp 65) 73 2 (.int .i64 0) 8 rfl Try.underlying73 info2 rfl (by decide) (by omega) u7 x7_13 a2 [.int .i64 a2] (fun _ => True) (fun _ => False) rfl rfl ?aP (fun _ hk => hk.elim) ?aF ?aO ?aB ?aS ?aL ?_; (case aP => exact rfl); (case aB => exact (by repeat (first | (with_reducible first | exact HB.out | apply below_alloc | apply pw_below_drewN | apply below_drew1) | exact HB.out))); (case aF => exact (fun _ _ => trivial)); (case aO => exact (by (with_reducible repeat (first | apply Kd.R_alloc | apply Kd.R_drewN | apply Kd.R_drew)); exact HO_7.out)); (case aS => exact (below_size (by repeat (first | (with_reducible first | exact HB.out | apply below_alloc | apply pw_below_drewN | apply below_drew1) | exact HB.out)))); (case aL => have := LMc29.out; omega); intro v264 w44 ho hb hg hat; rw [← Ny263.out] at ho; have n0_ := Aside0.mk (hb); have n1_ := Aside0.mk (ho); clear HB; clear HO_7; have HB := n0_; have HO265 := n1_; clear n0_ n1_; clear ho hb hg hat; obtain ⟨Ao45, co45, eo45⟩ := Kd.R_slice HO265.out; subst eo45; have p270 : 0 ≤ ((ji37) : Int) := of_decide_eq_true (by first | (with_reducible assumption) | assumption); have q270 : (ji37) < (y263.length : Int) := of_decide_eq_true (by first | (with_reducible assumption) | assumption); obtain ⟨ad270, e270, hx270_0⟩ := Kd.at_int (Kd.R_reads' HO265.out).2.2 (ji37) p270 q270; cases e270; replace p270 := eq_true p270; replace q270 := eq_true q270; have p271 : 0 ≤ (x8_1 : Int) := of_decide_eq_true (by first | (with_reducible assumption) | assumption); have q271 : x8_1 < (l0.length : Int) := of_decide_eq_true (by first | (with_reducible assumption) | assumption); obtain ⟨ad271, e271, hx271_0, hx271_1⟩ := at_T45 HR0.out x8_1 p271 q271; cases e271; replace hx271_0 := (HB.out.cell (World.block_lt_of_cell? w _ hx271_0)).trans hx271_0; replace hx271_1 := (HB.out.cell (World.block_lt_of_cell? w _ hx271_1)).trans hx271_1; replace p271 := eq_true p271; replace q271 := eq_true q271; have p272 : 0 ≤ (x8_1 : Int) := of_decide_eq_true (by first | (with_reducible assumption) | assumption); have q272 : x8_1 < (l0.length : Int) := of_decide_eq_true (by first | (with_reducible assumption) | assumption); obtain ⟨ad272, e272, hx272_0, hx272_1⟩ := at_T45 HR0.out x8_1 p272 q272; obtain rfl : ad271 = ad272 := (by injection e272); replace hx272_0 := (HB.out.cell (World.block_lt_of_cell? w _ hx272_0)).trans hx272_0; replace hx272_1 := (HB.out.cell (World.block_lt_of_cell? w _ hx272_1)).trans hx272_1; replace p272 := eq_true p272; replace q272 := eq_true q272) | ((with_reducible refine gate_builtin (b := .append) (xs := #[.tmp 84, .tmp 90]) rfl ?_); (try (refine gate_guard (by rfl) ?_; dsimp only)); at_builtin; refine Kd.R_append (Kd.int .i64) (w0 := w) w.heap.size rfl (.tmp 84) (.tmp 90) 73 2 (.int .i64 0) 8 rfl Try.underlying73 info2 rfl (by decide) (by omega) (.slice (some ad270) y263.length co45) y263 ((rd_T45 l0 x8_1).f0) [.int .i64 ((rd_T45 l0 x8_1).f0)] (fun _ => True) (fun _ => False) rfl rfl ?aP (fun _ hk => hk.elim) ?aF ?aO ?aB ?aS ?aL ?_; (case aP => exact rfl); (case aB => exact (by repeat (first | (with_reducible first | exact HB.out | apply below_alloc | apply pw_below_drewN | apply below_drew1) | exact HB.out))); (case aF => exact (fun _ _ => trivial)); (case aO => exact (by (with_reducible repeat (first | apply Kd.R_alloc | apply Kd.R_drewN | apply Kd.R_drew)); exact HO265.out)); (case aS => exact (below_size (by repeat (first | (with_reducible first | exact HB.out | apply below_alloc | apply pw_below_drewN | apply below_drew1) | exact HB.out)))); (case aL => have := LMc43.out; omega); intro v274 w46 ho hb hg hat; rw [← Ny273.out] at ho; have n0_ := Aside0.mk (hb); have n1_ := Aside0.mk (ho); clear HB; clear HO265; have HB := n0_; have HO275 := n1_; clear n0_ n1_; clear ho hb hg hat)); try go_wp2_with (first | ((with_reducible refine gate_builtin (b := .append) (xs := #[.tmp 63, .tmp 65]) rfl ?_); (try (refine gate_guard (by rfl) ?_; dsimp only)); at_builtin; refine Kd.R_append (Kd.int .i64) (w0 := w) w.heap.size rfl (.tmp 63) (.tmp 65) 73 2 (.int .i64 0) 8 rfl Try.underlying73 info2 rfl (by decide) (by omega) u7 x7_13 a2 [.int .i64 a2] (fun _ => True) (fun _ => False) rfl rfl ?aP (fun _ hk => hk.elim) ?aF ?aO ?aB ?aS ?aL ?_; (case aP => exact rfl); (case aB => exact (by repeat (first | (with_reducible first | exact HB.out | apply below_alloc | apply pw_below_drewN | apply below_drew1) | exact HB.out))); (case aF => exact (fun _ _ => trivial)); (case aO => exact (by (with_reducible repeat (first | apply Kd.R_alloc | apply Kd.R_drewN | apply Kd.R_drew)); exact HO_7.out)); (case aS => exact (below_size (by repeat (first | (with_reducible first | exact HB.out | apply below_alloc | apply pw_below_drewN | apply below_drew1) | exact HB.out)))); (case aL => have := LMc29.out; omega); intro v264 w44 ho hb hg hat; rw [← Ny263.out] at ho; have n0_ := Aside0.mk (hb); have n1_ := Aside0.mk (ho); clear HB; clear HO_7; have HB := n0_; have HO265 := n1_; clear n0_ n1_; clear ho hb hg hat; obtain ⟨Ao45, co45, eo45⟩ := Kd.R_slice HO265.out; subst eo45; have p270 : 0 ≤ ((ji37) : Int) := of_decide_eq_true (by first | (with_reducible assumption) | assumption); have q270 : (ji37) < (y263.length : Int) := of_decide_eq_true (by first | (with_reducible assumption) | assumption); obtain ⟨ad270, e270, hx270_0⟩ := Kd.at_int (Kd.R_reads' HO265.out).2.2 (ji37) p270 q270; cases e270; replace p270 := eq_true p270; replace q270 := eq_true q270; have p271 : 0 ≤ (x8_1 : Int) := of_decide_eq_true (by first | (with_reducible assumption) | assumption); have q271 : x8_1 < (l0.length : Int) := of_decide_eq_true (by first | (with_reducible assumption) | assumption); obtain ⟨ad271, e271, hx271_0, hx271_1⟩ := at_T45 HR0.out x8_1 p271 q271; cases e271; replace hx271_0 := (HB.out.cell (World.block_lt_of_cell? w _ hx271_0)).trans hx271_0; replace hx271_1 := (HB.out.cell (World.block_lt_of_cell? w _ hx271_1)).trans hx271_1; replace p271 := eq_true p271; replace q271 := eq_true q271; have p272 : 0 ≤ (x8_1 : Int) := of_decide_eq_true (by first | (with_reducible assumption) | assumption); have q272 : x8_1 < (l0.length : Int) := of_decide_eq_true (by first | (with_reducible assumption) | assumption); obtain ⟨ad272, e272, hx272_0, hx272_1⟩ := at_T45 HR0.out x8_1 p272 q272; obtain rfl : ad271 = ad272 := (by injection e272); replace hx272_0 := (HB.out.cell (World.block_lt_of_cell? w _ hx272_0)).trans hx272_0; replace hx272_1 := (HB.out.cell (World.block_lt_of_cell? w _ hx272_1)).trans hx272_1; replace p272 := eq_true p272; replace q272 := eq_true q272) | ((with_reducible refine gate_builtin (b := .append) (xs := #[.tmp 84, .tmp 90]) rfl ?_); (try (refine gate_guard (by rfl) ?_; dsimp only)); at_builtin; refine Kd.R_append (Kd.int .i64) (w0 := w) w.heap.size rfl (.tmp 84) (.tmp 90) 73 2 (.int .i64 0) 8 rfl Try.underlying73 info2 rfl (by decide) (by omega) (.slice (some ad270) y263.length co45) y263 ((rd_T45 l0 x8_1).f0) [.int .i64 ((rd_T45 l0 x8_1).f0)] (fun _ => True) (fun _ => False) rfl rfl ?aP (fun _ hk => hk.elim) ?aF ?aO ?aB ?aS ?aL ?_; (case aP => exact rfl); (case aB => exact (by repeat (first | (with_reducible first | exact HB.out | apply below_alloc | apply pw_below_drewN | apply below_drew1) | exact HB.out))); (case aF => exact (fun _ _ => trivial)); (case aO => exact (by (with_reducible repeat (first | apply Kd.R_alloc | apply Kd.R_drewN | apply Kd.R_drew)); exact HO265.out)); (case aS => exact (below_size (by repeat (first | (with_reducible first | exact HB.out | apply below_alloc | apply pw_below_drewN | apply below_drew1) | exact HB.out)))); (case aL => have := LMc43.out; omega); intro v274 w46 ho hb hg hat; rw [← Ny273.out] at ho; have n0_ := Aside0.mk (hb); have n1_ := Aside0.mk (ho); clear HB; clear HO265; have HB := n0_; have HO275 := n1_; clear n0_ n1_; clear ho hb hg hat)))
                                      go_roundg kj17
                                      case measure => have := HK1.out; have := HJ4.out; have := HJ13.out; have := HJ17.out; omega
                                      case rel => exact ⟨(y273), (wrap64 (x8_1 + 1)), (by first | rfl | (simp; done) | (simp [*]; done)), H', ⟨by have := HK1.out; have := HJ4.out; have := HJ13.out; have := HJ17.out; omega⟩, ⟨by (with_reducible repeat (first | apply Kd.R_alloc | apply Kd.R_drewN | apply Kd.R_drew)); exact HO275.out⟩, ⟨by repeat (first | (with_reducible first | exact HB.out | apply below_alloc | apply pw_below_drewN | apply below_drew1) | exact HB.out)⟩⟩
                                    · rw [if_neg c43] at H
                                      exact absurd H (by simp)
                                  · rw [if_neg c42] at H
                                    have c42b0 : decide ((rd y263 (ji37)) < ((rd_T45 l0 x8_1).f0)) = false := decide_eq_false c42
                                    clear c42
                                    have H' := Aside0.mk H
                                    clear H
                                    go_wp2_with (first | ((with_reducible refine gate_builtin (b := .append) (xs := #[.tmp 63, .tmp 65]) rfl ?_); (try (refine gate_guard (by rfl) ?_; dsimp only)); at_builtin; refine Kd.R_append (Kd.int .i64) (w0 := w) w.heap.size rfl (.tmp 63) (.tmp 65) 73 2 (.int .i64 0) 8 rfl Try.underlying73 info2 rfl (by decide) (by omega) u7 x7_13 a2 [.int .i64 a2] (fun _ => True) (fun _ => False) rfl rfl ?aP (fun _ hk => hk.elim) ?aF ?aO ?aB ?aS ?aL ?_; (case aP => exact rfl); (case aB => exact (by repeat (first | (with_reducible first | exact HB.out | apply below_alloc | apply pw_below_drewN | apply below_drew1) | exact HB.out))); (case aF => exact (fun _ _ => trivial)); (case aO => exact (by (with_reducible repeat (first | apply Kd.R_alloc | apply Kd.R_drewN | apply Kd.R_drew)); exact HO_7.out)); (case aS => exact (below_size (by repeat (first | (with_reducible first | exact HB.out | apply below_alloc | apply pw_below_drewN | apply below_drew1) | exact HB.out)))); (case aL => have := LMc29.out; omega); intro v264 w47 ho hb hg hat; rw [← Ny263.out] at ho; have n0_ := Aside0.mk (hb); have n1_ := Aside0.mk (ho); clear HB; clear HO_7; have HB := n0_; have HO265 := n1_; clear n0_ n1_; clear ho hb hg hat; obtain ⟨Ao48, co48, eo48⟩ := Kd.R_slice HO265.out; subst eo48; have p270 : 0 ≤ ((ji37) : Int) := of_decide_eq_true (by first | (with_reducible assumption) | assumption); have q270 : (ji37) < (y263.length : Int) := of_decide_eq_true (by first | (with_reducible assumption) | assumption); obtain ⟨ad270, e270, hx270_0⟩ := Kd.at_int (Kd.R_reads' HO265.out).2.2 (ji37) p270 q270; cases e270; replace p270 := eq_true p270; replace q270 := eq_true q270; have p271 : 0 ≤ (x8_1 : Int) := of_decide_eq_true (by first | (with_reducible assumption) | assumption); have q271 : x8_1 < (l0.length : Int) := of_decide_eq_true (by first | (with_reducible assumption) | assumption); obtain ⟨ad271, e271, hx271_0, hx271_1⟩ := at_T45 HR0.out x8_1 p271 q271; cases e271; replace hx271_0 := (HB.out.cell (World.block_lt_of_cell? w _ hx271_0)).trans hx271_0; replace hx271_1 := (HB.out.cell (World.block_lt_of_cell? w _ hx271_1)).trans hx271_1; replace p271 := eq_true p271; replace q271 := eq_true q271))
                                    repeat (go_quiet (first | ((with_reducible refine gate_builtin (b := .append) (xs := #[.tmp 63, .tmp 65]) rfl ?_); (try (refine gate_guard (by rfl) ?_; dsimp only)); at_builtin; refine Kd.R_append (Kd.int .i64) (w0 := w) w.heap.size rfl (.tmp 63) (.tmp 65) 73 2 (.int .i64 0) 8 rfl Try.underlying73 info2 rfl (by decide) (by omega) u7 x7_13 a2 [.int .i64 a2] (fun _ => True) (fun _ => False) rfl rfl ?aP (fun _ hk => hk.elim) ?aF ?aO ?aB ?aS ?aL ?_; (case aP => exact rfl); (case aB => exact (by repeat (first | (with_reducible first | exact HB.out | apply below_alloc | apply pw_below_drewN | apply below_drew1) | exact HB.out))); (case aF => exact (fun _ _ => trivial)); (case aO => exact (by (with_reducible repeat (first | apply Kd.R_alloc | apply Kd.R_drewN | apply Kd.R_drew)); exact HO_7.out)); (case aS => exact (below_size (by repeat (first | (with_reducible first | exact HB.out | apply below_alloc | apply pw_below_drewN | apply below_drew1) | exact HB.out)))); (case aL => have := LMc29.out; omega); intro v264 w47 ho hb hg hat; rw [← Ny263.out] at ho; have n0_ := Aside0.mk (hb); have n1_ := Aside0.mk (ho); clear HB; clear HO_7; have HB := n0_; have HO265 := n1_; clear n0_ n1_; clear ho hb hg hat; obtain ⟨Ao48, co48, eo48⟩ := Kd.R_slice HO265.out; subst eo48; have p270 : 0 ≤ ((ji37) : Int) := of_decide_eq_true (by first | (with_reducible assumption) | assumption); have q270 : (ji37) < (y263.length : Int) := of_decide_eq_true (by first | (with_reducible assumption) | assumption); obtain ⟨ad270, e270, hx270_0⟩ := Kd.at_int (Kd.R_reads' HO265.out).2.2 (ji37) p270 q270; cases e270; replace p270 := eq_true p270; replace q270 := eq_true q270; have p271 : 0 ≤ (x8_1 : Int) := of_decide_eq_true (by first | (with_reducible assumption) | assumption); have q271 : x8_1 < (l0.length : Int) := of_decide_eq_true (by first | (with_reducible assumption) | assumption); obtain ⟨ad271, e271, hx271_0, hx271_1⟩ := at_T45 HR0.out x8_1 p271 q271; cases e271; replace hx271_0 := (HB.out.cell (World.block_lt_of_cell? w _ hx271_0)).trans hx271_0; replace hx271_1 := (HB.out.cell (World.block_lt_of_cell? w _ hx271_1)).trans hx271_1; replace p271 := eq_true p271; replace q271 := eq_true q271)); try go_wp2_with (first | ((with_reducible refine gate_builtin (b := .append) (xs := #[.tmp 63, .tmp 65]) rfl ?_); (try (refine gate_guard (by rfl) ?_; dsimp only)); at_builtin; refine Kd.R_append (Kd.int .i64) (w0 := w) w.heap.size rfl (.tmp 63) (.tmp 65) 73 2 (.int .i64 0) 8 rfl Try.underlying73 info2 rfl (by decide) (by omega) u7 x7_13 a2 [.int .i64 a2] (fun _ => True) (fun _ => False) rfl rfl ?aP (fun _ hk => hk.elim) ?aF ?aO ?aB ?aS ?aL ?_; (case aP => exact rfl); (case aB => exact (by repeat (first | (with_reducible first | exact HB.out | apply below_alloc | apply pw_below_drewN | apply below_drew1) | exact HB.out))); (case aF => exact (fun _ _ => trivial)); (case aO => exact (by (with_reducible repeat (first | apply Kd.R_alloc | apply Kd.R_drewN | apply Kd.R_drew)); exact HO_7.out)); (case aS => exact (below_size (by repeat (first | (with_reducible first | exact HB.out | apply below_alloc | apply pw_below_drewN | apply below_drew1) | exact HB.out)))); (case aL => have := LMc29.out; omega); intro v264 w47 ho hb hg hat; rw [← Ny263.out] at ho; have n0_ := Aside0.mk (hb); have n1_ := Aside0.mk (ho); clear HB; clear HO_7; have HB := n0_; have HO265 := n1_; clear n0_ n1_; clear ho hb hg hat; obtain ⟨Ao48, co48, eo48⟩ := Kd.R_slice HO265.out; subst eo48; have p270 : 0 ≤ ((ji37) : Int) := of_decide_eq_true (by first | (with_reducible assumption) | assumption); have q270 : (ji37) < (y263.length : Int) := of_decide_eq_true (by first | (with_reducible assumption) | assumption); obtain ⟨ad270, e270, hx270_0⟩ := Kd.at_int (Kd.R_reads' HO265.out).2.2 (ji37) p270 q270; cases e270; replace p270 := eq_true p270; replace q270 := eq_true q270; have p271 : 0 ≤ (x8_1 : Int) := of_decide_eq_true (by first | (with_reducible assumption) | assumption); have q271 : x8_1 < (l0.length : Int) := of_decide_eq_true (by first | (with_reducible assumption) | assumption); obtain ⟨ad271, e271, hx271_0, hx271_1⟩ := at_T45 HR0.out x8_1 p271 q271; cases e271; replace hx271_0 := (HB.out.cell (World.block_lt_of_cell? w _ hx271_0)).trans hx271_0; replace hx271_1 := (HB.out.cell (World.block_lt_of_cell? w _ hx271_1)).trans hx271_1; replace p271 := eq_true p271; replace q271 := eq_true q271)))
                                    go_roundg kj17
                                    case measure => have := HK1.out; have := HJ4.out; have := HJ13.out; have := HJ17.out; omega
                                    case rel => exact ⟨(y263), (wrap64 (x8_1 + 1)), (by first | rfl | (simp; done) | (simp [*]; done)), H', ⟨by have := HK1.out; have := HJ4.out; have := HJ13.out; have := HJ17.out; omega⟩, ⟨by (with_reducible repeat (first | apply Kd.R_alloc | apply Kd.R_drewN | apply Kd.R_drew)); exact HO265.out⟩, ⟨by repeat (first | (with_reducible first | exact HB.out | apply below_alloc | apply pw_below_drewN | apply below_drew1) | exact HB.out)⟩⟩
                                · rw [if_neg c41] at H
                                  exact absurd H (by simp)
                              · rw [if_neg c40] at H
                                exact absurd H (by simp)
                            · rw [if_neg c39] at H
                              exact absurd H (by simp)
                          · rw [if_neg c38] at H
                            exact absurd H (by simp)
                      · rw [if_neg c29] at H
                        exact absurd H (by simp)
                    · replace c28 := Bool.eq_false_iff.mpr c28
                      subst c28
                      have H1 : (if (x7_13.length : Int) = 0 then (if 0 ≤ x8_1 then (if x8_1 < (l0.length : Int) then (if x7_13.length < 17592186044416 then (bailiwickref03_times.l0 kj17 l0 a1 a2 (x7_13 ++ [(rd_T45 l0 x8_1).f0]) (wrap64 (x8_1 + 1))) else (none)) else (none)) else (none)) else (if 0 ≤ (wrap64 ((x7_13.length : Int) - 1)) then (if (wrap64 ((x7_13.length : Int) - 1)) < (x7_13.length : Int) then (if 0 ≤ x8_1 then (if x8_1 < (l0.length : Int) then (if (rd x7_13 (wrap64 ((x7_13.length : Int) - 1))) < ((rd_T45 l0 x8_1).f0) then (if x7_13.length < 17592186044416 then (bailiwickref03_times.l0 kj17 l0 a1 a2 (x7_13 ++ [(rd_T45 l0 x8_1).f0]) (wrap64 (x8_1 + 1))) else (none)) else (bailiwickref03_times.l0 kj17 l0 a1 a2 x7_13 (wrap64 (x8_1 + 1)))) else (none)) else (none)) else (none)) else (none))) = some r := by rw [if_neg (show ¬ (false = true) by decide)] at H; exact H
                      clear H
                      have H := H1
                      clear H1
                      by_cases c49 : (x7_13.length : Int) = 0
                      · rw [if_pos c49] at H
                        have c49b0 : ((x7_13.length : Int) == 0) = true := beq_iff_eq.mpr c49
                        have c49b1 : ((x7_13.length : Int) != 0) = false := bne_eq_false_iff_eq.mpr c49
                        clear c49
                        by_cases c50 : 0 ≤ x8_1
                        · rw [if_pos c50] at H
                          have c50b0 : decide (0 ≤ x8_1) = true := decide_eq_true c50
                          clear c50
                          by_cases c51 : x8_1 < (l0.length : Int)
                          · rw [if_pos c51] at H
                            have c51b0 : decide (x8_1 < (l0.length : Int)) = true := decide_eq_true c51
                            clear c51
                            by_cases c52 : x7_13.length < 17592186044416
                            · rw [if_pos c52] at H
                              have LMc52 := Aside0.mk c52
                              clear c52
                              obtain ⟨y277, hy277⟩ : ∃ y_ : List Int, y_ = (x7_13 ++ [(rd_T45 l0 x8_1).f0]) := ⟨_, rfl⟩
                              replace H : (bailiwickref03_times.l0 kj17 l0 a1 a2 y277 (wrap64 (x8_1 + 1))) = some r := by first | (rw [hy277]; with_reducible exact H) | (have H2_ := (Option.bind_some _ _).symm.trans H; rw [hy277]; with_reducible exact H2_) | (have H2_ := (Option.bind_some _ _).symm.trans H; with_reducible exact H2_) | with_reducible exact H | (rw [hy277]; exact H) | exact H
                              have Ny277 := Aside0.mk hy277
                              clear hy277
                              have H' := Aside0.mk H
                              clear H
                              obtain ⟨Ao53, co53, eo53⟩ := Kd.R_slice HO_7.out
                              subst eo53
                              have p276 : 0 ≤ (x8_1 : Int) := of_decide_eq_true (by first | (with_reducible assumption) | assumption)
                              have q276 : x8_1 < (l0.length : Int) := of_decide_eq_true (by first | (with_reducible assumption) | assumption)
                              obtain ⟨ad276, e276, hx276_0, hx276_1⟩ := at_T45 HR0.out x8_1 p276 q276
                              cases e276
                              replace hx276_0 := (HB.out.cell (World.block_lt_of_cell? w _ hx276_0)).trans hx276_0
                              replace hx276_1 := (HB.out.cell (World.block_lt_of_cell? w _ hx276_1)).trans hx276_1
                              replace p276 := eq_true p276
                              replace q276 := eq_true q276
                              go_wp2_with (first | ((with_reducible refine gate_builtin (b := .append) (xs := #[.tmp 84, .tmp 90]) rfl ?_); (try (refine gate_guard (by rfl) ?_; dsimp only)); at_builtin; refine Kd.R_append (Kd.int .i64) (w0 := w) w.heap.size rfl (.tmp 84) (.tmp 90) 73 2 (.int .i64 0) 8 rfl Try.underlying73 info2 rfl (by decide) (by omega) (.slice Ao53 x7_13.length co53) x7_13 ((rd_T45 l0 x8_1).f0) [.int .i64 ((rd_T45 l0 x8_1).f0)] (fun _ => True) (fun _ => False) rfl rfl ?aP (fun _ hk => hk.elim) ?aF ?aO ?aB ?aS ?aL ?_; (case aP => exact rfl); (case aB => exact (by repeat (first | (with_reducible first | exact HB.out | apply below_alloc | apply pw_below_drewN | apply below_drew1) | exact HB.out))); (case aF => exact (fun _ _ => trivial)); (case aO => exact (by (with_reducible repeat (first | apply Kd.R_alloc | apply Kd.R_drewN | apply Kd.R_drew)); exact HO_7.out)); (case aS => exact (below_size (by repeat (first | (with_reducible first | exact HB.out | apply below_alloc | apply pw_below_drewN | apply below_drew1) | exact HB.out)))); (case aL => have := LMc52.out; omega); intro v278 w54 ho hb hg hat; rw [← Ny277.out] at ho; have n0_ := Aside0.mk (hb); have n1_ := Aside0.mk (ho); clear HB; clear HO_7; have HB := n0_; have HO279 := n1_; clear n0_ n1_; clear ho hb hg hat))
                              repeat (go_quiet (first | ((with_reducible refine gate_builtin (b := .append) (xs := #[.tmp 84, .tmp 90]) rfl ?_); (try (refine gate_guard (by rfl) ?_; dsimp only)); at_builtin; refine Kd.R_append (Kd.int .i64) (w0 := w) w.heap.size rfl (.tmp 84) (.tmp 90) 73 2 (.int .i64 0) 8 rfl Try.underlying73 info2 rfl (by decide) (by omega) (.slice Ao53 x7_13.length co53) x7_13 ((rd_T45 l0 x8_1).f0) [.int .i64 ((rd_T45 l0 x8_1).f0)] (fun _ => True) (fun _ => False) rfl rfl ?aP (fun _ hk => hk.elim) ?aF ?aO ?aB ?aS ?aL ?_; (case aP => exact rfl); (case aB => exact (by repeat (first | (with_reducible first | exact HB.out | apply below_alloc | apply pw_below_drewN | apply below_drew1) | exact HB.out))); (case aF => exact (fun _ _ => trivial)); (case aO => exact (by (with_reducible repeat (first | apply Kd.R_alloc | apply Kd.R_drewN | apply Kd.R_drew)); exact HO_7.out)); (case aS => exact (below_size (by repeat (first | (with_reducible first | exact HB.out | apply below_alloc | apply pw_below_drewN | apply below_drew1) | exact HB.out)))); (case aL => have := LMc52.out; omega); intro v278 w54 ho hb hg hat; rw [← Ny277.out] at ho; have n0_ := Aside0.mk (hb); have n1_ := Aside0.mk (ho); clear HB; clear HO_7; have HB := n0_; have HO279 := n1_; clear n0_ n1_; clear ho hb hg hat)); try go_wp2_with (first | ((with_reducible refine gate_builtin (b := .append) (xs := #[.tmp 84, .tmp 90]) rfl ?_); (try (refine gate_guard (by rfl) ?_; dsimp only)); at_builtin; refine Kd.R_append (Kd.int .i64) (w0 := w) w.heap.size rfl (.tmp 84) (.tmp 90) 73 2 (.int .i64 0) 8 rfl Try.underlying73 info2 rfl (by decide) (by omega) (.slice Ao53 x7_13.length co53) x7_13 ((rd_T45 l0 x8_1).f0) [.int .i64 ((rd_T45 l0 x8_1).f0)] (fun _ => True) (fun _ => False) rfl rfl ?aP (fun _ hk => hk.elim) ?aF ?aO ?aB ?aS ?aL ?_; (case aP => exact rfl); (case aB => exact (by repeat (first | (with_reducible first | exact HB.out | apply below_alloc | apply pw_below_drewN | apply below_drew1) | exact HB.out))); (case aF => exact (fun _ _ => trivial)); (case aO => exact (by (with_reducible repeat (first | apply Kd.R_alloc | apply Kd.R_drewN | apply Kd.R_drew)); exact HO_7.out)); (case aS => exact (below_size (by repeat (first | (with_reducible first | exact HB.out | apply below_alloc | apply pw_below_drewN | apply below_drew1) | exact HB.out)))); (case aL => have := LMc52.out; omega); intro v278 w54 ho hb hg hat; rw [← Ny277.out] at ho; have n0_ := Aside0.mk (hb); have n1_ := Aside0.mk (ho); clear HB; clear HO_7; have HB := n0_; have HO279 := n1_; clear n0_ n1_; clear ho hb hg hat)))
                              go_roundg kj17
                              case measure => have := HK1.out; have := HJ4.out; have := HJ13.out; have := HJ17.out; omega
                              case rel => exact ⟨(y277), (wrap64 (x8_1 + 1)), (by first | rfl | (simp; done) | (simp [*]; done)), H', ⟨by have := HK1.out; have := HJ4.out; have := HJ13.out; have := HJ17.out; omega⟩, ⟨by (with_reducible repeat (first | apply Kd.R_alloc | apply Kd.R_drewN | apply Kd.R_drew)); exact HO279.out⟩, ⟨by repeat (first | (with_reducible first | exact HB.out | apply below_alloc | apply pw_below_drewN | apply below_drew1) | exact HB.out)⟩⟩
                            · rw [if_neg c52] at H
                              exact absurd H (by simp)
                          · rw [if_neg c51] at H
                            exact absurd H (by simp)
                        · rw [if_neg c50] at H
                          exact absurd H (by simp)
                      · rw [if_neg c49] at H
                        have c49b0 : ((x7_13.length : Int) == 0) = false := beq_eq_false_iff_ne.mpr c49
                        have c49b1 : ((x7_13.length : Int) != 0) = true := bne_iff_ne.mpr c49
                        have c49b2 : ¬ (x7_13 = []) := fun h_ => c49 (by rw [h_]; rfl)
                        obtain ⟨ji55, hji55⟩ : ∃ j_ : Int, (wrap64 ((x7_13.length : Int) - 1)) = j_ := ⟨_, rfl⟩
                        replace H : (if 0 ≤ (ji55) then (if (ji55) < (x7_13.length : Int) then (if 0 ≤ x8_1 then (if x8_1 < (l0.length : Int) then (if (rd x7_13 (ji55)) < ((rd_T45 l0 x8_1).f0) then (if x7_13.length < 17592186044416 then (bailiwickref03_times.l0 kj17 l0 a1 a2 (x7_13 ++ [(rd_T45 l0 x8_1).f0]) (wrap64 (x8_1 + 1))) else (none)) else (bailiwickref03_times.l0 kj17 l0 a1 a2 x7_13 (wrap64 (x8_1 + 1)))) else (none)) else (none)) else (none)) else (none)) = some r := by first | (rw [hji55] at H; exact H) | (simp only [hji55] at H ⊢; exact H)
                        have hji55w : (IntKind.i64.wrap ((x7_13.length : Int) - 1)) = ji55 := (i64_w _).trans hji55
                        by_cases c56 : 0 ≤ (ji55)
                        · rw [if_pos c56] at H
                          have c56b0 : decide (0 ≤ (ji55)) = true := decide_eq_true c56
                          clear c56
                          by_cases c57 : (ji55) < (x7_13.length : Int)
                          · rw [if_pos c57] at H
                            have c57b0 : decide ((ji55) < (x7_13.length : Int)) = true := decide_eq_true c57
                            clear c57
                            by_cases c58 : 0 ≤ x8_1
                            · rw [if_pos c58] at H
                              have c58b0 : decide (0 ≤ x8_1) = true := decide_eq_true c58
                              clear c58
                              by_cases c59 : x8_1 < (l0.length : Int)
                              · rw [if_pos c59] at H
                                have c59b0 : decide (x8_1 < (l0.length : Int)) = true := decide_eq_true c59
                                clear c59
                                by_cases c60 : (rd x7_13 (ji55)) < ((rd_T45 l0 x8_1).f0)
                                · rw [if_pos c60] at H
                                  have c60b0 : decide ((rd x7_13 (ji55)) < ((rd_T45 l0 x8_1).f0)) = true := decide_eq_true c60
                                  clear c60
                                  by_cases c61 : x7_13.length < 17592186044416
                                  · rw [if_pos c61] at H
                                    have LMc61 := Aside0.mk c61
                                    clear c61
                                    obtain ⟨y283, hy283⟩ : ∃ y_ : List Int, y_ = (x7_13 ++ [(rd_T45 l0 x8_1).f0]) := ⟨_, rfl⟩
                                    replace H : (bailiwickref03_times.l0 kj17 l0 a1 a2 y283 (wrap64 (x8_1 + 1))) = some r := by first | (rw [hy283]; with_reducible exact H) | (have H2_ := (Option.bind_some _ _).symm.trans H; rw [hy283]; with_reducible exact H2_) | (have H2_ := (Option.bind_some _ _).symm.trans H; with_reducible exact H2_) | with_reducible exact H | (rw [hy283]; exact H) | exact H
                                    have Ny283 := Aside0.mk hy283
                                    clear hy283
                                    have H' := Aside0.mk H
                                    clear H
                                    obtain ⟨Ao62, co62, eo62⟩ := Kd.R_slice HO_7.out
                                    subst eo62
                                    have p280 : 0 ≤ ((ji55) : Int) := of_decide_eq_true (by first | (with_reducible assumption) | assumption)
                                    have q280 : (ji55) < (x7_13.length : Int) := of_decide_eq_true (by first | (with_reducible assumption) | assumption)
                                    obtain ⟨ad280, e280, hx280_0⟩ := Kd.at_int (Kd.R_reads' HO_7.out).2.2 (ji55) p280 q280
                                    cases e280
                                    replace p280 := eq_true p280
                                    replace q280 := eq_true q280
                                    have p281 : 0 ≤ (x8_1 : Int) := of_decide_eq_true (by first | (with_reducible assumption) | assumption)
                                    have q281 : x8_1 < (l0.length : Int) := of_decide_eq_true (by first | (with_reducible assumption) | assumption)
                                    obtain ⟨ad281, e281, hx281_0, hx281_1⟩ := at_T45 HR0.out x8_1 p281 q281
                                    cases e281
                                    replace hx281_0 := (HB.out.cell (World.block_lt_of_cell? w _ hx281_0)).trans hx281_0
                                    replace hx281_1 := (HB.out.cell (World.block_lt_of_cell? w _ hx281_1)).trans hx281_1
                                    replace p281 := eq_true p281
                                    replace q281 := eq_true q281
                                    have p282 : 0 ≤ (x8_1 : Int) := of_decide_eq_true (by first | (with_reducible assumption) | assumption)
                                    have q282 : x8_1 < (l0.length : Int) := of_decide_eq_true (by first | (with_reducible assumption) | assumption)
                                    obtain ⟨ad282, e282, hx282_0, hx282_1⟩ := at_T45 HR0.out x8_1 p282 q282
                                    obtain rfl : ad281 = ad282 := (by injection e282)
                                    replace hx282_0 := (HB.out.cell (World.block_lt_of_cell? w _ hx282_0)).trans hx282_0
                                    replace hx282_1 := (HB.out.cell (World.block_lt_of_cell? w _ hx282_1)).trans hx282_1
                                    replace p282 := eq_true p282
                                    replace q282 := eq_true q282
                                    go_wp2_with (first | ((with_reducible refine gate_builtin (b := .append) (xs := #[.tmp 84, .tmp 90]) rfl ?_); (try (refine gate_guard (by rfl) ?_; dsimp only)); at_builtin; refine Kd.R_append (Kd.int .i64) (w0 := w) w.heap.size rfl (.tmp 84) (.tmp 90) 73 2 (.int .i64 0) 8 rfl Try.underlying73 info2 rfl (by decide) (by omega) (.slice (some ad280) x7_13.length co62) x7_13 ((rd_T45 l0 x8_1).f0) [.int .i64 ((rd_T45 l0 x8_1).f0)] (fun _ => True) (fun _ => False) rfl rfl ?aP (fun _ hk => hk.elim) ?aF ?aO ?aB ?aS ?aL ?_; (case aP => exact rfl); (case aB => exact (by repeat (first | (with_reducible first | exact HB.out | apply below_alloc | apply pw_below_drewN | apply below_drew1) | exact HB.out))); (case aF => exact (fun _ _ => trivial)); (case aO => exact (by (with_reducible repeat (first | apply Kd.R_alloc | apply Kd.R_drewN | apply Kd.R_drew)); exact HO_7.out)); (case aS => exact (below_size (by repeat (first | (with_reducible first | exact HB.out | apply below_alloc | apply pw_below_drewN | apply below_drew1) | exact HB.out)))); (case aL => have := LMc61.out; omega); intro v284 w63 ho hb hg hat; rw [← Ny283.out] at ho; have n0_ := Aside0.mk (hb); have n1_ := Aside0.mk (ho); clear HB; clear HO_7; have HB := n0_; have HO285 := n1_; clear n0_ n1_; clear ho hb hg hat))
                                    repeat (go_quiet (first | ((with_reducible refine gate_builtin (b := .append) (xs := #[.tmp 84, .tmp 90]) rfl ?_); (try (refine gate_guard (by rfl) ?_; dsimp only)); at_builtin; refine Kd.R_append (Kd.int .i64) (w0 := w) w.heap.size rfl (.tmp 84) (.tmp 90) 73 2 (.int .i64 0) 8 rfl Try.underlying73 info2 rfl (by decide) (by omega) (.slice (some ad280) x7_13.length co62) x7_13 ((rd_T45 l0 x8_1).f0) [.int .i64 ((rd_T45 l0 x8_1).f0)] (fun _ => True) (fun _ => False) rfl rfl ?aP (fun _ hk => hk.elim) ?aF ?aO ?aB ?aS ?aL ?_; (case aP => exact rfl); (case aB => exact (by repeat (first | (with_reducible first | exact HB.out | apply below_alloc | apply pw_below_drewN | apply below_drew1) | exact HB.out))); (case aF => exact (fun _ _ => trivial)); (case aO => exact (by (with_reducible repeat (first | apply Kd.R_alloc | apply Kd.R_drewN | apply Kd.R_drew)); exact HO_7.out)); (case aS => exact (below_size (by repeat (first | (with_reducible first | exact HB.out | apply below_alloc | apply pw_below_drewN | apply below_drew1) | exact HB.out)))); (case aL => have := LMc61.out; omega); intro v284 w63 ho hb hg hat; rw [← Ny283.out] at ho; have n0_ := Aside0.mk (hb); have n1_ := Aside0.mk (ho); clear HB; clear HO_7; have HB := n0_; have HO285 := n1_; clear n0_ n1_; clear ho hb hg hat)); try go_wp2_with (first | ((with_reducible refine gate_builtin (b := .append) (xs := #[.tmp 84, .tmp 90]) rfl ?_); (try (refine gate_guard (by rfl) ?_; dsimp only)); at_builtin; refine Kd.R_append (Kd.int .i64) (w0 := w) w.heap.size rfl (.tmp 84) (.tmp 90) 73 2 (.int .i64 0) 8 rfl Try.underlying73 info2 rfl (by decide) (by omega) (.slice (some ad280) x7_13.length co62) x7_13 ((rd_T45 l0 x8_1).f0) [.int .i64 ((rd_T45 l0 x8_1).f0)] (fun _ => True) (fun _ => False) rfl rfl ?aP (fun _ hk => hk.elim) ?aF ?aO ?aB ?aS ?aL ?_; (case aP => exact rfl); (case aB => exact (by repeat (first | (with_reducible first | exact HB.out | apply below_alloc | apply pw_below_drewN | apply below_drew1) | exact HB.out))); (case aF => exact (fun _ _ => trivial)); (case aO => exact (by (with_reducible repeat (first | apply Kd.R_alloc | apply Kd.R_drewN | apply Kd.R_drew)); exact HO_7.out)); (case aS => exact (below_size (by repeat (first | (with_reducible first | exact HB.out | apply below_alloc | apply pw_below_drewN | apply below_drew1) | exact HB.out)))); (case aL => have := LMc61.out; omega); intro v284 w63 ho hb hg hat; rw [← Ny283.out] at ho; have n0_ := Aside0.mk (hb); have n1_ := Aside0.mk (ho); clear HB; clear HO_7; have HB := n0_; have HO285 := n1_; clear n0_ n1_; clear ho hb hg hat)))
                                    go_roundg kj17
                                    case measure => have := HK1.out; have := HJ4.out; have := HJ13.out; have := HJ17.out; omega
                                    case rel => exact ⟨(y283), (wrap64 (x8_1 + 1)), (by first | rfl | (simp; done) | (simp [*]; done)), H', ⟨by have := HK1.out; have := HJ4.out; have := HJ13.out; have := HJ17.out; omega⟩, ⟨by (with_reducible repeat (first | apply Kd.R_alloc | apply Kd.R_drewN | apply Kd.R_drew)); exact HO285.out⟩, ⟨by repeat (first | (with_reducible first | exact HB.out | apply below_alloc | apply pw_below_drewN | apply below_drew1) | exact HB.out)⟩⟩
                                  · rw [if_neg c61] at H
                                    exact absurd H (by simp)
                                · rw [if_neg c60] at H
                                  have c60b0 : decide ((rd x7_13 (ji55)) < ((rd_T45 l0 x8_1).f0)) = false := decide_eq_false c60
                                  clear c60
                                  have H' := Aside0.mk H
                                  clear H
                                  obtain ⟨Ao64, co64, eo64⟩ := Kd.R_slice HO_7.out
                                  subst eo64
                                  have p280 : 0 ≤ ((ji55) : Int) := of_decide_eq_true (by first | (with_reducible assumption) | assumption)
                                  have q280 : (ji55) < (x7_13.length : Int) := of_decide_eq_true (by first | (with_reducible assumption) | assumption)
                                  obtain ⟨ad280, e280, hx280_0⟩ := Kd.at_int (Kd.R_reads' HO_7.out).2.2 (ji55) p280 q280
                                  cases e280
                                  replace p280 := eq_true p280
                                  replace q280 := eq_true q280
                                  have p281 : 0 ≤ (x8_1 : Int) := of_decide_eq_true (by first | (with_reducible assumption) | assumption)
                                  have q281 : x8_1 < (l0.length : Int) := of_decide_eq_true (by first | (with_reducible assumption) | assumption)
                                  obtain ⟨ad281, e281, hx281_0, hx281_1⟩ := at_T45 HR0.out x8_1 p281 q281
                                  cases e281
                                  replace hx281_0 := (HB.out.cell (World.block_lt_of_cell? w _ hx281_0)).trans hx281_0
                                  replace hx281_1 := (HB.out.cell (World.block_lt_of_cell? w _ hx281_1)).trans hx281_1
                                  replace p281 := eq_true p281
                                  replace q281 := eq_true q281
                                  go_wp2
                                  repeat (go_quiet (fail); try go_wp2)
                                  go_roundg kj17
                                  case measure => have := HK1.out; have := HJ4.out; have := HJ13.out; have := HJ17.out; omega
                                  case rel => exact ⟨(x7_13), (wrap64 (x8_1 + 1)), (by first | rfl | (simp; done) | (simp [*]; done)), H', ⟨by have := HK1.out; have := HJ4.out; have := HJ13.out; have := HJ17.out; omega⟩, ⟨by (with_reducible repeat (first | apply Kd.R_alloc | apply Kd.R_drewN | apply Kd.R_drew)); exact HO_7.out⟩, ⟨by repeat (first | (with_reducible first | exact HB.out | apply below_alloc | apply pw_below_drewN | apply below_drew1) | exact HB.out)⟩⟩
                              · rw [if_neg c59] at H
                                exact absurd H (by simp)
                            · rw [if_neg c58] at H
                              exact absurd H (by simp)
                          · rw [if_neg c57] at H
                            exact absurd H (by simp)
                        · rw [if_neg c56] at H
                          exact absurd H (by simp)
      · rw [if_neg c4] at H
        have c4b0 : decide (x8_1 < (l0.length : Int)) = false := decide_eq_false c4
        clear c4
        obtain ⟨ji65, hji65⟩ : ∃ j_ : Int, (wrap64 ((x7_1.length : Int) - 1)) = j_ := ⟨_, rfl⟩
        replace H : (if 0 ≤ (ji65) then (if (ji65) < (x7_1.length : Int) then (if (rd x7_1 (ji65)) < a1 then (if x7_1.length < 17592186044416 then ((some (x7_1 ++ [a1] : List Int)).bind fun y287 => (if 0 ≤ (wrap64 ((y287.length : Int) - 1)) then (if (wrap64 ((y287.length : Int) - 1)) < (y287.length : Int) then (if (rd y287 (wrap64 ((y287.length : Int) - 1))) < a2 then (if y287.length < 17592186044416 then (some (y287 ++ [a2])) else (none)) else (some y287)) else (none)) else (none))) else (none)) else (if (rd x7_1 (ji65)) < a2 then (if x7_1.length < 17592186044416 then (some (x7_1 ++ [a2])) else (none)) else (some x7_1))) else (none)) else (none)) = some r := by first | (rw [hji65] at H; exact H) | (simp only [hji65] at H ⊢; exact H)
        have hji65w : (IntKind.i64.wrap ((x7_1.length : Int) - 1)) = ji65 := (i64_w _).trans hji65
        by_cases c66 : 0 ≤ (ji65)
        · rw [if_pos c66] at H
          have c66b0 : decide (0 ≤ (ji65)) = true := decide_eq_true c66
          clear c66
          by_cases c67 : (ji65) < (x7_1.length : Int)
          · rw [if_pos c67] at H
            have c67b0 : decide ((ji65) < (x7_1.length : Int)) = true := decide_eq_true c67
            clear c67
            by_cases c68 : (rd x7_1 (ji65)) < a1
            · rw [if_pos c68] at H
              have c68b0 : decide ((rd x7_1 (ji65)) < a1) = true := decide_eq_true c68
              clear c68
              by_cases c69 : x7_1.length < 17592186044416
              · rw [if_pos c69] at H
                have LMc69 := Aside0.mk c69
                clear c69
                obtain ⟨y287, hy287⟩ : ∃ y_ : List Int, y_ = (x7_1 ++ [a1]) := ⟨_, rfl⟩
                replace H : (if 0 ≤ (wrap64 ((y287.length : Int) - 1)) then (if (wrap64 ((y287.length : Int) - 1)) < (y287.length : Int) then (if (rd y287 (wrap64 ((y287.length : Int) - 1))) < a2 then (if y287.length < 17592186044416 then (some (y287 ++ [a2])) else (none)) else (some y287)) else (none)) else (none)) = some r := by first | (rw [hy287]; with_reducible exact H) | (have H2_ := (Option.bind_some _ _).symm.trans H; rw [hy287]; with_reducible exact H2_) | (have H2_ := (Option.bind_some _ _).symm.trans H; with_reducible exact H2_) | with_reducible exact H | (rw [hy287]; exact H) | exact H
                have Ny287 := Aside0.mk hy287
                clear hy287
                obtain ⟨ji70, hji70⟩ : ∃ j_ : Int, (wrap64 ((y287.length : Int) - 1)) = j_ := ⟨_, rfl⟩
                replace H : (if 0 ≤ (ji70) then (if (ji70) < (y287.length : Int) then (if (rd y287 (ji70)) < a2 then (if y287.length < 17592186044416 then (some (y287 ++ [a2])) else (none)) else (some y287)) else (none)) else (none)) = some r := by first | (rw [hji70] at H; exact H) | (simp only [hji70] at H ⊢; exact H)
                have hji70w : (IntKind.i64.wrap ((y287.length : Int) - 1)) = ji70 := (i64_w _).trans hji70
                by_cases c71 : 0 ≤ (ji70)
                · rw [if_pos c71] at H
                  have c71b0 : decide (0 ≤ (ji70)) = true := decide_eq_true c71
                  clear c71
                  by_cases c72 : (ji70) < (y287.length : Int)
                  · rw [if_pos c72] at H
                    have c72b0 : decide ((ji70) < (y287.length : Int)) = true := decide_eq_true c72
                    clear c72
                    by_cases c73 : (rd y287 (ji70)) < a2
                    · rw [if_pos c73] at H
                      have c73b0 : decide ((rd y287 (ji70)) < a2) = true := decide_eq_true c73
                      clear c73
                      by_cases c74 : y287.length < 17592186044416
                      · rw [if_pos c74] at H
                        have LMc74 := Aside0.mk c74
                        clear c74
                        obtain ⟨y291, hy291⟩ : ∃ y_ : List Int, y_ = (y287 ++ [a2]) := ⟨_, rfl⟩
                        replace H : (some y291) = some r := by first | (rw [hy291]; with_reducible exact H) | (have H2_ := (Option.bind_some _ _).symm.trans H; rw [hy291]; with_reducible exact H2_) | (have H2_ := (Option.bind_some _ _).symm.trans H; with_reducible exact H2_) | with_reducible exact H | (rw [hy291]; exact H) | exact H
                        have Ny291 := Aside0.mk hy291
                        clear hy291
                        obtain rfl := Option.some.inj H
                        obtain ⟨Ao75, co75, eo75⟩ := Kd.R_slice HO_7.out
                        subst eo75
                        have p286 : 0 ≤ ((ji65) : Int) := of_decide_eq_true (by first | (with_reducible assumption) | assumption)
                        have q286 : (ji65) < (x7_1.length : Int) := of_decide_eq_true (by first | (with_reducible assumption) | assumption)
                        obtain ⟨ad286, e286, hx286_0⟩ := Kd.at_int (Kd.R_reads' HO_7.out).2.2 (ji65) p286 q286
                        cases e286
                        replace p286 := eq_true p286
                        replace q286 := eq_true q286
                        go_wp2_with (first | ((with_reducible refine gate_builtin (b := .append) (xs := #[.tmp 100, .tmp 102]) rfl ?_); (try (refine gate_guard (by rfl) ?_; dsimp only)); at_builtin; refine Kd.R_append (Kd.int .i64) (w0 := w) w.heap.size rfl (.tmp 100) (.tmp 102) 73 2 (.int .i64 0) 8 rfl Try.underlying73 info2 rfl (by decide) (by omega) (.slice (some ad286) x7_1.length co75) x7_1 a1 [.int .i64 a1] (fun _ => True) (fun _ => False) rfl rfl ?aP (fun _ hk => hk.elim) ?aF ?aO ?aB ?aS ?aL ?_; (case aP => exact rfl); (case aB => exact (by repeat (first | (with_reducible first | exact HB.out | apply below_alloc | apply pw_below_drewN | apply below_drew1) | exact HB.out))); (case aF => exact (fun _ _ => trivial)); (case aO => exact (by (with_reducible repeat (first | apply Kd.R_alloc | apply Kd.R_drewN | apply Kd.R_drew)); exact HO_7.out)); (case aS => exact (below_size (by repeat (first | (with_reducible first | exact HB.out | apply below_alloc | apply pw_below_drewN | apply below_drew1) | exact HB.out)))); (case aL => have := LMc69.out; omega); intro v288 w76 ho hb hg hat; rw [← Ny287.out] at ho; have n0_ := Aside0.mk (hb); have n1_ := Aside0.mk (ho); clear HB; clear HO_7; have HB := n0_; have HO289 := n1_; clear n0_ n1_; clear ho hb hg hat; obtain ⟨Ao77, co77, eo77⟩ := Kd.R_slice HO289.out; subst eo77; have p290 : 0 ≤ ((ji70) : Int) := of_decide_eq_true (by first | (with_reducible assumption) | assumption); have q290 : (ji70) < (y287.length : Int) := of_decide_eq_true (by first | (with_reducible assumption) | assumption); obtain ⟨ad290, e290, hx290_0⟩ := Kd.at_int (Kd.R_reads' HO289.out).2.2 (ji70) p290 q290; cases e290; replace p290 := eq_true p290; replace q290 := eq_true q290) | ((with_reducible refine gate_builtin (b := .append) (xs := #[.tmp 112, .tmp 114]) rfl ?_); (try (refine gate_guard (by rfl) ?_; dsimp only)); at_builtin; refine Kd.R_append (Kd.int .i64) (w0 := w) w.heap.size rfl (.tmp 112) (.tmp 114) 73 2 (.int .i64 0) 8 rfl Try.underlying73 info2 rfl (by decide) (by omega) (.slice (some ad290) y287.length co77) y287 a2 [.int .i64 a2] (fun _ => True) (fun _ => False) rfl rfl ?aP (fun _ hk => hk.elim) ?aF ?aO ?aB ?aS ?aL ?_; (case aP => exact rfl); (case aB => exact (by repeat (first | (with_reducible first | exact HB.out | apply below_alloc | apply pw_below_drewN | apply below_drew1) | exact HB.out))); (case aF => exact (fun _ _ => trivial)); (case aO => exact (by (with_reducible repeat (first | apply Kd.R_alloc | apply Kd.R_drewN | apply Kd.R_drew)); exact HO289.out)); (case aS => exact (below_size (by repeat (first | (with_reducible first | exact HB.out | apply below_alloc | apply pw_below_drewN | apply below_drew1) | exact HB.out)))); (case aL => have := LMc74.out; omega); intro v292 w78 ho hb hg hat; rw [← Ny291.out] at ho; have n0_ := Aside0.mk (hb); have n1_ := Aside0.mk (ho); clear HB; clear HO289; have HB := n0_; have HO293 := n1_; clear n0_ n1_; clear ho hb hg hat))
                        repeat (go_quiet (first | ((with_reducible refine gate_builtin (b := .append) (xs := #[.tmp 100, .tmp 102]) rfl ?_); (try (refine gate_guard (by rfl) ?_; dsimp only)); at_builtin; refine Kd.R_append (Kd.int .i64) (w0 := w) w.heap.size rfl (.tmp 100) (.tmp 102) 73 2 (.int .i64 0) 8 rfl Try.underlying73 info2 rfl (by decide) (by omega) (.slice (some ad286) x7_1.length co75) x7_1 a1 [.int .i64 a1] (fun _ => True) (fun _ => False) rfl rfl ?aP (fun _ hk => hk.elim) ?aF ?aO ?aB ?aS ?aL ?_; (case aP => exact rfl); (case aB => exact (by repeat (first | (with_reducible first | exact HB.out | apply below_alloc | apply pw_below_drewN | apply below_drew1) | exact HB.out))); (case aF => exact (fun _ _ => trivial)); (case aO => exact (by (with_reducible repeat (first | apply Kd.R_alloc | apply Kd.R_drewN | apply Kd.R_drew)); exact HO_7.out)); (case aS => exact (below_size (by repeat (first | (with_reducible first | exact HB.out | apply below_alloc | apply pw_below_drewN | apply below_drew1) | exact HB.out)))); (case aL => have := LMc69.out; omega); intro v288 w76 ho hb hg hat; rw [← Ny287.out] at ho; have n0_ := Aside0.mk (hb); have n1_ := Aside0.mk (ho); clear HB; clear HO_7; have HB := n0_; have HO289 := n1_; clear n0_ n1_; clear ho hb hg hat; obtain ⟨Ao77, co77, eo77⟩ := Kd.R_slice HO289.out; subst eo77; have p290 : 0 ≤ ((ji70) : Int) := of_decide_eq_true (by first | (with_reducible assumption) | assumption); have q290 : (ji70) < (y287.length : Int) := of_decide_eq_true (by first | (with_reducible assumption) | assumption); obtain ⟨ad290, e290, hx290_0⟩ := Kd.at_int (Kd.R_reads' HO289.out).2.2 (ji70) p290 q290; cases e290; replace p290 := eq_true p290; replace q290 := eq_true q290) | ((with_reducible refine gate_builtin (b := .append) (xs := #[.tmp 112, .tmp 114]) rfl ?_); (try (refine gate_guard (by rfl) ?_; dsimp only)); at_builtin; refine Kd.R_append (Kd.int .i64) (w0 := w) w.heap.size rfl (.tmp 112) (.tmp 114) 73 2 (.int .i64 0) 8 rfl Try.underlying73 info2 rfl (by decide) (by omega) (.slice (some ad290) y287.length co77) y287 a2 [.int .i64 a2] (fun _ => True) (fun _ => False) rfl rfl ?aP (fun _ hk => hk.elim) ?aF ?aO ?aB ?aS ?aL ?_; (case aP => exact rfl); (case aB => exact (by repeat (first | (with_reducible first | exact HB.out | apply below_alloc | apply pw_below_drewN | apply below_drew1) | exact HB.out))); (case aF => exact (fun _ _ => trivial)); (case aO => exact (by (with_reducible repeat (first | apply Kd.R_alloc | apply Kd.R_drewN | apply Kd.R_drew)); exact HO289.out)); (case aS => exact (below_size (by repeat (first | (with_reducible first | exact HB.out | apply below_alloc | apply pw_below_drewN | apply below_drew1) | exact HB.out)))); (case aL => have := LMc74.out; omega); intro v292 w78 ho hb hg hat; rw [← Ny291.out] at ho; have n0_ := Aside0.mk (hb); have n1_ := Aside0.mk (ho); clear HB; clear HO289; have HB := n0_; have HO293 := n1_; clear n0_ n1_; clear ho hb hg hat)); try go_wp2_with (first | ((with_reducible refine gate_builtin (b := .append) (xs := #[.tmp 100, .tmp 102]) rfl ?_); (try (refine gate_guard (by rfl) ?_; dsimp only)); at_builtin; refine Kd.R_append (Kd.int .i64) (w0 := w) w.heap.size rfl (.tmp 100) (.tmp 102) 73 2 (.int .i64 0) 8 rfl Try.underlying73 info2 rfl (by decide) (by omega) (.slice (some ad286) x7_1.length co75) x7_1 a1 [.int .i64 a1] (fun _ => True) (fun _ => False) rfl rfl ?aP (fun _ hk => hk.elim) ?aF ?aO ?aB ?aS ?aL ?_; (case aP => exact rfl); (case aB => exact (by repeat (first | (with_reducible first | exact HB.out | apply below_alloc | apply pw_below_drewN | apply below_drew1) | exact HB.out))); (case aF => exact (fun _ _ => trivial)); (case aO => exact (by (with_reducible repeat (first | apply Kd.R_alloc | apply Kd.R_drewN | apply Kd.R_drew)); exact HO_7.out)); (case aS => exact (below_size (by repeat (first | (with_reducible first | exact HB.out | apply below_alloc | apply pw_below_drewN | apply below_drew1) | exact HB.out)))); (case aL => have := LMc69.out; omega); intro v288 w76 ho hb hg hat; rw [← Ny287.out] at ho; have n0_ := Aside0.mk (hb); have n1_ := Aside0.mk (ho); clear HB; clear HO_7; have HB := n0_; have HO289 := n1_; clear n0_ n1_; clear ho hb hg hat; obtain ⟨Ao77, co77, eo77⟩ := Kd.R_slice HO289.out; subst eo77; have p290 : 0 ≤ ((ji70) : Int) := of_decide_eq_true (by first | (with_reducible assumption) | assumption); have q290 : (ji70) < (y287.length : Int) := of_decide_eq_true (by first | (with_reducible assumption) | assumption); obtain ⟨ad290, e290, hx290_0⟩ := Kd.at_int (Kd.R_reads' HO289.out).2.2 (ji70) p290 q290; cases e290; replace p290 := eq_true p290; replace q290 := eq_true q290) | ((with_reducible refine gate_builtin (b := .append) (xs := #[.tmp 112, .tmp 114]) rfl ?_); (try (refine gate_guard (by rfl) ?_; dsimp only)); at_builtin; refine Kd.R_append (Kd.int .i64) (w0 := w) w.heap.size rfl (.tmp 112) (.tmp 114) 73 2 (.int .i64 0) 8 rfl Try.underlying73 info2 rfl (by decide) (by omega) (.slice (some ad290) y287.length co77) y287 a2 [.int .i64 a2] (fun _ => True) (fun _ => False) rfl rfl ?aP (fun _ hk => hk.elim) ?aF ?aO ?aB ?aS ?aL ?_; (case aP => exact rfl); (case aB => exact (by repeat (first | (with_reducible first | exact HB.out | apply below_alloc | apply pw_below_drewN | apply below_drew1) | exact HB.out))); (case aF => exact (fun _ _ => trivial)); (case aO => exact (by (with_reducible repeat (first | apply Kd.R_alloc | apply Kd.R_drewN | apply Kd.R_drew)); exact HO289.out)); (case aS => exact (below_size (by repeat (first | (with_reducible first | exact HB.out | apply below_alloc | apply pw_below_drewN | apply below_drew1) | exact HB.out)))); (case aL => have := LMc74.out; omega); intro v292 w78 ho hb hg hat; rw [← Ny291.out] at ho; have n0_ := Aside0.mk (hb); have n1_ := Aside0.mk (ho); clear HB; clear HO289; have HB := n0_; have HO293 := n1_; clear n0_ n1_; clear ho hb hg hat)))
                        go_ret
                        exact ⟨_, by first | rfl | (simp [errW_none, errW_some] <;> rfl) | (simp only [← hji65, ← hji70]; first | rfl | (simp [errW_none, errW_some] <;> rfl)) | (simp [*, errW_none, errW_some] <;> rfl), by (with_reducible repeat (first | apply Kd.R_alloc | apply Kd.R_drewN | apply Kd.R_drew)); exact HO293.out, by repeat (first | (with_reducible first | exact HB.out | apply below_alloc | apply pw_below_drewN | apply below_drew1) | exact HB.out)⟩
                      · rw [if_neg c74] at H
                        exact absurd H (by simp)
                    · rw [if_neg c73] at H
                      have c73b0 : decide ((rd y287 (ji70)) < a2) = false := decide_eq_false c73
                      clear c73
                      obtain rfl := Option.some.inj H
                      obtain ⟨Ao79, co79, eo79⟩ := Kd.R_slice HO_7.out
                      subst eo79
                      have p286 : 0 ≤ ((ji65) : Int) := of_decide_eq_true (by first | (with_reducible assumption) | assumption)
                      have q286 : (ji65) < (x7_1.length : Int) := of_decide_eq_true (by first | (with_reducible assumption) | assumption)
                      obtain ⟨ad286, e286, hx286_0⟩ := Kd.at_int (Kd.R_reads' HO_7.out).2.2 (ji65) p286 q286
                      cases e286
                      replace p286 := eq_true p286
                      replace q286 := eq_true q286
                      go_wp2_with (first | ((with_reducible refine gate_builtin (b := .append) (xs := #[.tmp 100, .tmp 102]) rfl ?_); (try (refine gate_guard (by rfl) ?_; dsimp only)); at_builtin; refine Kd.R_append (Kd.int .i64) (w0 := w) w.heap.size rfl (.tmp 100) (.tmp 102) 73 2 (.int .i64 0) 8 rfl Try.underlying73 info2 rfl (by decide) (by omega) (.slice (some ad286) x7_1.length co79) x7_1 a1 [.int .i64 a1] (fun _ => True) (fun _ => False) rfl rfl ?aP (fun _ hk => hk.elim) ?aF ?aO ?aB ?aS ?aL ?_; (case aP => exact rfl); (case aB => exact (by repeat (first | (with_reducible first | exact HB.out | apply below_alloc | apply pw_below_drewN | apply below_drew1) | exact HB.out))); (case aF => exact (fun _ _ => trivial)); (case aO => exact (by (with_reducible repeat (first | apply Kd.R_alloc | apply Kd.R_drewN | apply Kd.R_drew)); exact HO_7.out)); (case aS => exact (below_size (by repeat (first | (with_reducible first | exact HB.out | apply below_alloc | apply pw_below_drewN | apply below_drew1) | exact HB.out)))); (case aL => have := LMc69.out; omega); intro v288 w80 ho hb hg hat; rw [← Ny287.out] at ho; have n0_ := Aside0.mk (hb); have n1_ := Aside0.mk (ho); clear HB; clear HO_7; have HB := n0_; have HO289 := n1_; clear n0_ n1_; clear ho hb hg hat; obtain ⟨Ao81, co81, eo81⟩ := Kd.R_slice HO289.out; subst eo81; have p290 : 0 ≤ ((ji70) : Int) := of_decide_eq_true (by first | (with_reducible assumption) | assumption); have q290 : (ji70) < (y287.length : Int) := of_decide_eq_true (by first | (with_reducible assumption) | assumption); obtain ⟨ad290, e290, hx290_0⟩ := Kd.at_int (Kd.R_reads' HO289.out).2.2 (ji70) p290 q290; cases e290; replace p290 := eq_true p290; replace q290 := eq_true q290))
                      repeat (go_quiet (first | ((with_reducible refine gate_builtin (b := .append) (xs := #[.tmp 100, .tmp 102]) rfl ?_); (try (refine gate_guard (by rfl) ?_; dsimp only)); at_builtin; refine Kd.R_append (Kd.int .i64) (w0 := w) w.heap.size rfl (.tmp 100) (.tmp 102) 73 2 (.int .i64 0) 8 rfl Try.underlying73 info2 rfl (by decide) (by omega) (.slice (some ad286) x7_1.length co79) x7_1 a1 [.int .i64 a1] (fun _ => True) (fun _ => False) rfl rfl ?aP (fun _ hk => hk.elim) ?aF ?aO ?aB ?aS ?aL ?_; (case aP => exact rfl); (case aB => exact (by repeat (first | (with_reducible first | exact HB.out | apply below_alloc | apply pw_below_drewN | apply below_drew1) | exact HB.out))); (case aF => exact (fun _ _ => trivial)); (case aO => exact (by (with_reducible repeat (first | apply Kd.R_alloc | apply Kd.R_drewN | apply Kd.R_drew)); exact HO_7.out)); (case aS => exact (below_size (by repeat (first | (with_reducible first | exact HB.out | apply below_alloc | apply pw_below_drewN | apply below_drew1) | exact HB.out)))); (case aL => have := LMc69.out; omega); intro v288 w80 ho hb hg hat; rw [← Ny287.out] at ho; have n0_ := Aside0.mk (hb); have n1_ := Aside0.mk (ho); clear HB; clear HO_7; have HB := n0_; have HO289 := n1_; clear n0_ n1_; clear ho hb hg hat; obtain ⟨Ao81, co81, eo81⟩ := Kd.R_slice HO289.out; subst eo81; have p290 : 0 ≤ ((ji70) : Int) := of_decide_eq_true (by first | (with_reducible assumption) | assumption); have q290 : (ji70) < (y287.length : Int) := of_decide_eq_true (by first | (with_reducible assumption) | assumption); obtain ⟨ad290, e290, hx290_0⟩ := Kd.at_int (Kd.R_reads' HO289.out).2.2 (ji70) p290 q290; cases e290; replace p290 := eq_true p290; replace q290 := eq_true q290)); try go_wp2_with (first | ((with_reducible refine gate_builtin (b := .append) (xs := #[.tmp 100, .tmp 102]) rfl ?_); (try (refine gate_guard (by rfl) ?_; dsimp only)); at_builtin; refine Kd.R_append (Kd.int .i64) (w0 := w) w.heap.size rfl (.tmp 100) (.tmp 102) 73 2 (.int .i64 0) 8 rfl Try.underlying73 info2 rfl (by decide) (by omega) (.slice (some ad286) x7_1.length co79) x7_1 a1 [.int .i64 a1] (fun _ => True) (fun _ => False) rfl rfl ?aP (fun _ hk => hk.elim) ?aF ?aO ?aB ?aS ?aL ?_; (case aP => exact rfl); (case aB => exact (by repeat (first | (with_reducible first | exact HB.out | apply below_alloc | apply pw_below_drewN | apply below_drew1) | exact HB.out))); (case aF => exact (fun _ _ => trivial)); (case aO => exact (by (with_reducible repeat (first | apply Kd.R_alloc | apply Kd.R_drewN | apply Kd.R_drew)); exact HO_7.out)); (case aS => exact (below_size (by repeat (first | (with_reducible first | exact HB.out | apply below_alloc | apply pw_below_drewN | apply below_drew1) | exact HB.out)))); (case aL => have := LMc69.out; omega); intro v288 w80 ho hb hg hat; rw [← Ny287.out] at ho; have n0_ := Aside0.mk (hb); have n1_ := Aside0.mk (ho); clear HB; clear HO_7; have HB := n0_; have HO289 := n1_; clear n0_ n1_; clear ho hb hg hat; obtain ⟨Ao81, co81, eo81⟩ := Kd.R_slice HO289.out; subst eo81; have p290 : 0 ≤ ((ji70) : Int) := of_decide_eq_true (by first | (with_reducible assumption) | assumption); have q290 : (ji70) < (y287.length : Int) := of_decide_eq_true (by first | (with_reducible assumption) | assumption); obtain ⟨ad290, e290, hx290_0⟩ := Kd.at_int (Kd.R_reads' HO289.out).2.2 (ji70) p290 q290; cases e290; replace p290 := eq_true p290; replace q290 := eq_true q290)))
                      go_ret
                      exact ⟨_, by first | rfl | (simp [errW_none, errW_some] <;> rfl) | (simp only [← hji65, ← hji70]; first | rfl | (simp [errW_none, errW_some] <;> rfl)) | (simp [*, errW_none, errW_some] <;> rfl), by (with_reducible repeat (first | apply Kd.R_alloc | apply Kd.R_drewN | apply Kd.R_drew)); exact HO289.out, by repeat (first | (with_reducible first | exact HB.out | apply below_alloc | apply pw_below_drewN | apply below_drew1) | exact HB.out)⟩
                  · rw [if_neg c72] at H
                    exact absurd H (by simp)
                · rw [if_neg c71] at H
                  exact absurd H (by simp)
              · rw [if_neg c69] at H
                exact absurd H (by simp)
            · rw [if_neg c68] at H
              have c68b0 : decide ((rd x7_1 (ji65)) < a1) = false := decide_eq_false c68
              clear c68
              by_cases c82 : (rd x7_1 (ji65)) < a2
              · rw [if_pos c82] at H
                have c82b0 : decide ((rd x7_1 (ji65)) < a2) = true := decide_eq_true c82
                clear c82
                by_cases c83 : x7_1.length < 17592186044416
                · rw [if_pos c83] at H
                  have LMc83 := Aside0.mk c83
                  clear c83
                  obtain ⟨y295, hy295⟩ : ∃ y_ : List Int, y_ = (x7_1 ++ [a2]) := ⟨_, rfl⟩
                  replace H : (some y295) = some r := by first | (rw [hy295]; with_reducible exact H) | (have H2_ := (Option.bind_some _ _).symm.trans H; rw [hy295]; with_reducible exact H2_) | (have H2_ := (Option.bind_some _ _).symm.trans H; with_reducible exact H2_) | with_reducible exact H | (rw [hy295]; exact H) | exact H
                  have Ny295 := Aside0.mk hy295
                  clear hy295
                  obtain rfl := Option.some.inj H
                  obtain ⟨Ao84, co84, eo84⟩ := Kd.R_slice HO_7.out
                  subst eo84
                  have p286 : 0 ≤ ((ji65) : Int) := of_decide_eq_true (by first | (with_reducible assumption) | assumption)
                  have q286 : (ji65) < (x7_1.length : Int) := of_decide_eq_true (by first | (with_reducible assumption) | assumption)
                  obtain ⟨ad286, e286, hx286_0⟩ := Kd.at_int (Kd.R_reads' HO_7.out).2.2 (ji65) p286 q286
                  cases e286
                  replace p286 := eq_true p286
                  replace q286 := eq_true q286
                  have p294 : 0 ≤ ((ji65) : Int) := of_decide_eq_true (by first | (with_reducible assumption) | assumption)
                  have q294 : (ji65) < (x7_1.length : Int) := of_decide_eq_true (by first | (with_reducible assumption) | assumption)
                  obtain ⟨ad294, e294, hx294_0⟩ := Kd.at_int (Kd.R_reads' HO_7.out).2.2 (ji65) p294 q294
                  obtain rfl : ad286 = ad294 := (by injection e294)
                  replace p294 := eq_true p294
                  replace q294 := eq_true q294
                  go_wp2_with (first | ((with_reducible refine gate_builtin (b := .append) (xs := #[.tmp 112, .tmp 114]) rfl ?_); (try (refine gate_guard (by rfl) ?_; dsimp only)); at_builtin; refine Kd.R_append (Kd.int .i64) (w0 := w) w.heap.size rfl (.tmp 112) (.tmp 114) 73 2 (.int .i64 0) 8 rfl Try.underlying73 info2 rfl (by decide) (by omega) (.slice (some ad286) x7_1.length co84) x7_1 a2 [.int .i64 a2] (fun _ => True) (fun _ => False) rfl rfl ?aP (fun _ hk => hk.elim) ?aF ?aO ?aB ?aS ?aL ?_; (case aP => exact rfl); (case aB => exact (by repeat (first | (with_reducible first | exact HB.out | apply below_alloc | apply pw_below_drewN | apply below_drew1) | exact HB.out))); (case aF => exact (fun _ _ => trivial)); (case aO => exact (by (with_reducible repeat (first | apply Kd.R_alloc | apply Kd.R_drewN | apply Kd.R_drew)); exact HO_7.out)); (case aS => exact (below_size (by repeat (first | (with_reducible first | exact HB.out | apply below_alloc | apply pw_below_drewN | apply below_drew1) | exact HB.out)))); (case aL => have := LMc83.out; omega); intro v296 w85 ho hb hg hat; rw [← Ny295.out] at ho; have n0_ := Aside0.mk (hb); have n1_ := Aside0.mk (ho); clear HB; clear HO_7; have HB := n0_; have HO297 := n1_; clear n0_ n1_; clear ho hb hg hat))
                  repeat (go_quiet (first | ((with_reducible refine gate_builtin (b := .append) (xs := #[.tmp 112, .tmp 114]) rfl ?_); (try (refine gate_guard (by rfl) ?_; dsimp only)); at_builtin; refine Kd.R_append (Kd.int .i64) (w0 := w) w.heap.size rfl (.tmp 112) (.tmp 114) 73 2 (.int .i64 0) 8 rfl Try.underlying73 info2 rfl (by decide) (by omega) (.slice (some ad286) x7_1.length co84) x7_1 a2 [.int .i64 a2] (fun _ => True) (fun _ => False) rfl rfl ?aP (fun _ hk => hk.elim) ?aF ?aO ?aB ?aS ?aL ?_; (case aP => exact rfl); (case aB => exact (by repeat (first | (with_reducible first | exact HB.out | apply below_alloc | apply pw_below_drewN | apply below_drew1) | exact HB.out))); (case aF => exact (fun _ _ => trivial)); (case aO => exact (by (with_reducible repeat (first | apply Kd.R_alloc | apply Kd.R_drewN | apply Kd.R_drew)); exact HO_7.out)); (case aS => exact (below_size (by repeat (first | (with_reducible first | exact HB.out | apply below_alloc | apply pw_below_drewN | apply below_drew1) | exact HB.out)))); (case aL => have := LMc83.out; omega); intro v296 w85 ho hb hg hat; rw [← Ny295.out] at ho; have n0_ := Aside0.mk (hb); have n1_ := Aside0.mk (ho); clear HB; clear HO_7; have HB := n0_; have HO297 := n1_; clear n0_ n1_; clear ho hb hg hat)); try go_wp2_with (first | ((with_reducible refine gate_builtin (b := .append) (xs := #[.tmp 112, .tmp 114]) rfl ?_); (try (refine gate_guard (by rfl) ?_; dsimp only)); at_builtin; refine Kd.R_append (Kd.int .i64) (w0 := w) w.heap.size rfl (.tmp 112) (.tmp 114) 73 2 (.int .i64 0) 8 rfl Try.underlying73 info2 rfl (by decide) (by omega) (.slice (some ad286) x7_1.length co84) x7_1 a2 [.int .i64 a2] (fun _ => True) (fun _ => False) rfl rfl ?aP (fun _ hk => hk.elim) ?aF ?aO ?aB ?aS ?aL ?_; (case aP => exact rfl); (case aB => exact (by repeat (first | (with_reducible first | exact HB.out | apply below_alloc | apply pw_below_drewN | apply below_drew1) | exact HB.out))); (case aF => exact (fun _ _ => trivial)); (case aO => exact (by (with_reducible repeat (first | apply Kd.R_alloc | apply Kd.R_drewN | apply Kd.R_drew)); exact HO_7.out)); (case aS => exact (below_size (by repeat (first | (with_reducible first | exact HB.out | apply below_alloc | apply pw_below_drewN | apply below_drew1) | exact HB.out)))); (case aL => have := LMc83.out; omega); intro v296 w85 ho hb hg hat; rw [← Ny295.out] at ho; have n0_ := Aside0.mk (hb); have n1_ := Aside0.mk (ho); clear HB; clear HO_7; have HB := n0_; have HO297 := n1_; clear n0_ n1_; clear ho hb hg hat)))
                  go_ret
                  exact ⟨_, by first | rfl | (simp [errW_none, errW_some] <;> rfl) | (simp only [← hji65]; first | rfl | (simp [errW_none, errW_some] <;> rfl)) | (simp [*, errW_none, errW_some] <;> rfl), by (with_reducible repeat (first | apply Kd.R_alloc | apply Kd.R_drewN | apply Kd.R_drew)); exact HO297.out, by repeat (first | (with_reducible first | exact HB.out | apply below_alloc | apply pw_below_drewN | apply below_drew1) | exact HB.out)⟩
                · rw [if_neg c83] at H
                  exact absurd H (by simp)
              · rw [if_neg c82] at H
                have c82b0 : decide ((rd x7_1 (ji65)) < a2) = false := decide_eq_false c82
                clear c82
                obtain rfl := Option.some.inj H
                obtain ⟨Ao86, co86, eo86⟩ := Kd.R_slice HO_7.out
                subst eo86
                have p286 : 0 ≤ ((ji65) : Int) := of_decide_eq_true (by first | (with_reducible assumption) | assumption)
                have q286 : (ji65) < (x7_1.length : Int) := of_decide_eq_true (by first | (with_reducible assumption) | assumption)
                obtain ⟨ad286, e286, hx286_0⟩ := Kd.at_int (Kd.R_reads' HO_7.out).2.2 (ji65) p286 q286
                cases e286
                replace p286 := eq_true p286
                replace q286 := eq_true q286
                have p294 : 0 ≤ ((ji65) : Int) := of_decide_eq_true (by first | (with_reducible assumption) | assumption)
                have q294 : (ji65) < (x7_1.length : Int) := of_decide_eq_true (by first | (with_reducible assumption) | assumption)
                obtain ⟨ad294, e294, hx294_0⟩ := Kd.at_int (Kd.R_reads' HO_7.out).2.2 (ji65) p294 q294
                obtain rfl : ad286 = ad294 := (by injection e294)
                replace p294 := eq_true p294
                replace q294 := eq_true q294
                go_wp2
                repeat (go_quiet (fail); try go_wp2)
                go_ret
                exact ⟨_, by first | rfl | (simp [errW_none, errW_some] <;> rfl) | (simp only [← hji65]; first | rfl | (simp [errW_none, errW_some] <;> rfl)) | (simp [*, errW_none, errW_some] <;> rfl), by (with_reducible repeat (first | apply Kd.R_alloc | apply Kd.R_drewN | apply Kd.R_drew)); exact HO_7.out, by repeat (first | (with_reducible first | exact HB.out | apply below_alloc | apply pw_below_drewN | apply below_drew1) | exact HB.out)⟩
          · rw [if_neg c67] at H
            exact absurd H (by simp)
        · rw [if_neg c66] at H
          exact absurd H (by simp)

end Go.Proofs.Ytimllhflecippaa.F
