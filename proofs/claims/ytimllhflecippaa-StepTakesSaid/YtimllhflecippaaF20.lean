-- Written by gprint.py (this repo's own driver over the kit's printer); Lean checks it.
import Derived.Test.YtimllhflecippaaF0
import Derived.Test.YtimllhflecippaaF9
import Derived.Test.YtimllhflecippaaF19
namespace Go.Proofs.Ytimllhflecippaa.F
open Go.RowKit Go.Proofs.YtimllhflecippaaW.PrintWords Go.Proofs.YtimllhflecippaaW.PrintLast Go.Proofs.YtimllhflecippaaW.PrintMore
attribute [local go_sem] max2_int min2_int max_two min_two max_three min_three max_four min_four   -- for this text's walks alone
set_option linter.unusedVariables false
set_option linter.unusedSimpArgs false

/-! ### bailiwickref03_change: function 55 -/
mutual
def bailiwickref03_change.l0 : Nat → List (S45) → Int → Int → Int → List Int → List (S45) → Int → Option ((List (S45)) × Int)
  | 0, _, _, _, _, _, _, _ => none
  | k + 1, x0, x1, x2, x3, x10, x11, x12 => if x12 < (x10.length : Int) then (if 0 ≤ x12 then ((bailiwickref03_at.f k x0 (rd x10 x12)).bind fun t302 => (if (rd x10 x12) ≥ x1 then (bailiwickref03_change.j1 k x0 x1 x2 x3 x10 x11 x12 t302 (decide ((rd x10 x12) < x2))) else (bailiwickref03_change.j1 k x0 x1 x2 x3 x10 x11 x12 t302 false))) else (none)) else (if (x11.length : Int) > 1024 then (some (x0, 4)) else (some (x11, 0)))
def bailiwickref03_change.j1 : Nat → List (S45) → Int → Int → Int → List Int → List (S45) → Int → Int → Bool → Option ((List (S45)) × Int)
  | 0, _, _, _, _, _, _, _, _, _ => none
  | k + 1, x0, x1, x2, x3, x10, x11, x12, x13, x43 => if x43 = true then (if (x11.length : Int) = 0 then (if 0 ≤ x12 then (if x12 < (x10.length : Int) then (if x11.length < 8796093022208 then (bailiwickref03_change.l0 k x0 x1 x2 x3 x10 (x11 ++ [(⟨rd x10 x12, wrap64 (x13 + x3)⟩ : S45)]) (wrap64 (x12 + 1))) else (none)) else (none)) else (none)) else (if 0 ≤ (wrap64 ((x11.length : Int) - 1)) then (if (wrap64 ((x11.length : Int) - 1)) < (x11.length : Int) then (if ((rd_T45 x11 (wrap64 ((x11.length : Int) - 1))).f1) = (wrap64 (x13 + x3)) then (bailiwickref03_change.l0 k x0 x1 x2 x3 x10 x11 (wrap64 (x12 + 1))) else (if 0 ≤ x12 then (if x12 < (x10.length : Int) then (if x11.length < 8796093022208 then (bailiwickref03_change.l0 k x0 x1 x2 x3 x10 (x11 ++ [(⟨rd x10 x12, wrap64 (x13 + x3)⟩ : S45)]) (wrap64 (x12 + 1))) else (none)) else (none)) else (none))) else (none)) else (none))) else (if (x11.length : Int) = 0 then (if 0 ≤ x12 then (if x12 < (x10.length : Int) then (if x11.length < 8796093022208 then (bailiwickref03_change.l0 k x0 x1 x2 x3 x10 (x11 ++ [(⟨rd x10 x12, x13⟩ : S45)]) (wrap64 (x12 + 1))) else (none)) else (none)) else (none)) else (if 0 ≤ (wrap64 ((x11.length : Int) - 1)) then (if (wrap64 ((x11.length : Int) - 1)) < (x11.length : Int) then (if ((rd_T45 x11 (wrap64 ((x11.length : Int) - 1))).f1) = x13 then (bailiwickref03_change.l0 k x0 x1 x2 x3 x10 x11 (wrap64 (x12 + 1))) else (if 0 ≤ x12 then (if x12 < (x10.length : Int) then (if x11.length < 8796093022208 then (bailiwickref03_change.l0 k x0 x1 x2 x3 x10 (x11 ++ [(⟨rd x10 x12, x13⟩ : S45)]) (wrap64 (x12 + 1))) else (none)) else (none)) else (none))) else (none)) else (none)))
end
def bailiwickref03_change.f (k : Nat) (l0 : List (S45)) (a1 : Int) (a2 : Int) (a3 : Int) : Option ((List (S45)) × Int) := (bailiwickref03_times.f k l0 a1 a2).bind fun t298 => (bailiwickref03_change.l0 k l0 a1 a2 a3 t298 ([] : List (S45)) 0)
theorem bailiwickref03_change.mono_l : ∀ k, (∀ y0 y1 y2 y3 y4 y5 y6, LeO (bailiwickref03_change.l0 k y0 y1 y2 y3 y4 y5 y6) (bailiwickref03_change.l0 (k + 1) y0 y1 y2 y3 y4 y5 y6)) ∧ (∀ y0 y1 y2 y3 y4 y5 y6 y7 y8, LeO (bailiwickref03_change.j1 k y0 y1 y2 y3 y4 y5 y6 y7 y8) (bailiwickref03_change.j1 (k + 1) y0 y1 y2 y3 y4 y5 y6 y7 y8))
  | 0 => ⟨fun _ _ _ _ _ _ _ r h => by simp [bailiwickref03_change.l0] at h, fun _ _ _ _ _ _ _ _ _ r h => by simp [bailiwickref03_change.j1] at h⟩
  | k + 1 => by
    obtain ⟨ih0, ih1⟩ := bailiwickref03_change.mono_l k
    refine ⟨?_, ?_⟩
    · intro y0 y1 y2 y3 y4 y5 y6
      unfold bailiwickref03_change.l0
      repeat' first
      | (with_reducible exact ih0 _ _ _ _ _ _ _)
      | (with_reducible exact ih1 _ _ _ _ _ _ _ _ _)
      | (with_reducible exact bailiwickref03_at.mono _ _ _)
      | (with_reducible exact bailiwickref03_times.mono _ _ _ _)
      | (with_reducible exact LeO.refl _)
      | (with_reducible exact LeO.none _)
      | (with_reducible refine LeO.ite ?_ ?_)
      | (with_reducible refine LeO.bind ?_ (fun _ => ?_))
      | exact ih0 _ _ _ _ _ _ _
      | exact ih1 _ _ _ _ _ _ _ _ _
      | exact bailiwickref03_at.mono _ _ _
      | exact bailiwickref03_times.mono _ _ _ _
      | exact LeO.none _
      | refine LeO.ite ?_ ?_
      | refine LeO.bind ?_ (fun _ => ?_)
    · intro y0 y1 y2 y3 y4 y5 y6 y7 y8
      unfold bailiwickref03_change.j1
      repeat' first
      | (with_reducible exact ih0 _ _ _ _ _ _ _)
      | (with_reducible exact ih1 _ _ _ _ _ _ _ _ _)
      | (with_reducible exact bailiwickref03_at.mono _ _ _)
      | (with_reducible exact bailiwickref03_times.mono _ _ _ _)
      | (with_reducible exact LeO.refl _)
      | (with_reducible exact LeO.none _)
      | (with_reducible refine LeO.ite ?_ ?_)
      | (with_reducible refine LeO.bind ?_ (fun _ => ?_))
      | exact ih0 _ _ _ _ _ _ _
      | exact ih1 _ _ _ _ _ _ _ _ _
      | exact bailiwickref03_at.mono _ _ _
      | exact bailiwickref03_times.mono _ _ _ _
      | exact LeO.none _
      | refine LeO.ite ?_ ?_
      | refine LeO.bind ?_ (fun _ => ?_)
theorem bailiwickref03_change.mono : ∀ a0 a1 a2 a3 k, LeO (bailiwickref03_change.f k a0 a1 a2 a3) (bailiwickref03_change.f (k + 1) a0 a1 a2 a3) := by
  intro a0 a1 a2 a3 k
  obtain ⟨ih0, ih1⟩ := bailiwickref03_change.mono_l k
  unfold bailiwickref03_change.f
  repeat' first
      | (with_reducible exact ih0 _ _ _ _ _ _ _)
      | (with_reducible exact ih1 _ _ _ _ _ _ _ _ _)
      | (with_reducible exact bailiwickref03_at.mono _ _ _)
      | (with_reducible exact bailiwickref03_times.mono _ _ _ _)
      | (with_reducible exact LeO.refl _)
      | (with_reducible exact LeO.none _)
      | (with_reducible refine LeO.ite ?_ ?_)
      | (with_reducible refine LeO.bind ?_ (fun _ => ?_))
      | exact ih0 _ _ _ _ _ _ _
      | exact ih1 _ _ _ _ _ _ _ _ _
      | exact bailiwickref03_at.mono _ _ _
      | exact bailiwickref03_times.mono _ _ _ _
      | exact LeO.none _
      | refine LeO.ite ?_ ?_
      | refine LeO.bind ?_ (fun _ => ?_)
set_option maxHeartbeats 8000000 in
set_option maxRecDepth 100000 in
theorem bailiwickref03_change.calls (k : Nat) (P0_ : Nat → Prop) (u9000_ : Value) (l0 : List (S45)) (a1 : Int) (a2 : Int) (a3 : Int) (r1 : List (S45)) (r2 : Int) (w0 w : World) (hB : Below w0.heap.size w0 w) (ho0 : Kd.R k45 45 w w0.heap.size P0_ u9000_ l0) (h : bailiwickref03_change.f k l0 a1 a2 a3 = some (r1, r2)) :
    Calls Try.prog 55 #[u9000_, .int .i64 a1, .int .i64 a2, .int .i64 a3] w fun e w' => ∃ v0_ : Value, e = .returned (.tuple #[v0_, .int .i64 r2]) ∧ Kd.R k45 45 w' w0.heap.size (fun k_ => (P0_ k_ ∨ w.heap.size ≤ k_)) v0_ r1 ∧ Below w0.heap.size w0 w' ∧ Kept w w' (fun k_ => P0_ k_) := by
  have hu45 := Try.underlying45
  have HO0 := Aside0.mk (show Kd.R k45 45 w w0.heap.size (fun k_ => (P0_ k_ ∨ w.heap.size ≤ k_)) u9000_ l0 from Kd.R_mono ho0 (fun k_ hk => (.inl hk)))
  have HK := Aside0.mk (Kept.refl w (fun k_ => P0_ k_))
  have HW0 := Aside0.mk hB.size
  have HB := Aside0.mk hB
  clear hB
  have H : ((bailiwickref03_times.f k l0 a1 a2).bind fun t298 => (bailiwickref03_change.l0 k l0 a1 a2 a3 t298 ([] : List (S45)) 0)) = some (r1, r2) := h
  clear h
  replace H := Option.bind_eq_some_iff.mp H
  obtain ⟨t298, A50, H⟩ := H
  replace H : (bailiwickref03_change.l0 k l0 a1 a2 a3 t298 ([] : List (S45)) 0) = some (r1, r2) := H
  have A5 := Aside0.mk A50
  clear A50
  have H' := Aside0.mk H
  clear H
  obtain ⟨Ao6, co6, eo6⟩ := Kd.R_slice HO0.out
  subst eo6
  go_enter Try.func55, Try.ntmps55
  go_wp2_with (first | ((with_reducible refine gate_callee (f := 66) rfl ?_); refine goesL_ (some 17) rfl rfl Try.func66 (by kernel_rfl) rfl #[.slice Ao6 l0.length co6, .int .i64 a1, .int .i64 a2] rfl (by (try simp only [List.map_toArray, List.map_cons, List.map_nil]); first | done | rfl | (simp only [List.length_drop, List.length_take]; rfl)) ?_; (with_reducible refine (bailiwickref03_times.calls k _ _ l0 a1 a2 t298 _ ?side1 ?side2 A5.out).mono ?_); (case side1 => repeat (first | exact (Kd.R_reads' HO0.out).2.2 | (with_reducible refine Kd.C_alloc ?_ _) | (with_reducible refine Kd.C_drewN ?_ _) | (with_reducible refine Kd.C_drew ?_))); (case side2 => exact (Kd.R_reads' HO0.out).2.1); rintro e w7 ⟨v299, rfl, ho0, hb⟩; refine ⟨_, rfl, ?_⟩; have n0_ := Aside0.mk (Kd.R_below (by (with_reducible repeat (first | apply Kd.R_alloc | apply Kd.R_drewN | apply Kd.R_drew)); exact HO0.out) hb); have n1_ := Aside0.mk (Kd.R_lower (Kd.R_newM (M := fun k_ => (P0_ k_ ∨ w.heap.size ≤ k_)) ho0 (by first | exact HK.out.1 | exact (show Kept w _ (fun k_ => P0_ k_) from by repeat (first | (with_reducible first | exact HK.out | apply Kept.alloc | apply Kept.drewN | apply Kept.drew) | exact HK.out)).1) (fun k_ h_ => .inr h_)) (below_size (by repeat (first | (with_reducible first | exact HB.out | apply below_alloc | apply pw_below_drewN | apply below_drew1) | exact HB.out)))); have n2_ := Aside0.mk (Kept.below (S := (fun k_ => P0_ k_)) (by repeat (first | (with_reducible first | exact HK.out | apply Kept.alloc | apply Kept.drewN | apply Kept.drew) | exact HK.out)) hb); have n3_ := Aside0.mk (below_step (by repeat (first | (with_reducible first | exact HB.out | apply below_alloc | apply pw_below_drewN | apply below_drew1) | exact HB.out)) hb); clear HO0; clear HK; clear HB; have HO0 := n0_; have HO300 := n1_; have HK := n2_; have HB := n3_; clear n0_ n1_ n2_ n3_; (try clear hb); (try clear hb2); (try clear hk); (try clear hi); (try clear ho0)))
  go_loopg [11, 12] k (fun kq v11 v12 w' => ∃ (x11_1 : List (S45)) (x12_1 : Int), v12 = .int .i64 x12_1 ∧ Aside0 (bailiwickref03_change.l0 kq l0 a1 a2 a3 t298 x11_1 x12_1 = some (r1, r2)) ∧ Aside0 (kq ≤ k) ∧ Aside0 (Kd.R k45 45 w' w0.heap.size (fun k_ => (P0_ k_ ∨ w.heap.size ≤ k_) ∧ some k_ ≠ (v11 : Value).ownBlock) (.slice Ao6 l0.length co6) l0) ∧ Aside0 (Kd.R (Kd.int .i64) 2 w' w0.heap.size (fun k_ => (P0_ k_ ∨ w.heap.size ≤ k_)) v299 t298) ∧ Aside0 (Kd.R k45 45 w' w0.heap.size (fun k_ => (P0_ k_ ∨ w.heap.size ≤ k_) ∧ some k_ ≠ ((.slice Ao6 l0.length co6) : Value).ownBlock) v11 x11_1) ∧ Aside0 (Kept w w' (fun k_ => P0_ k_)) ∧ Aside0 (Below w0.heap.size w0 w'))
  case atStart => exact ⟨(([] : List (S45))), (0), (by first | rfl | (simp; done) | (simp [*]; done)), H', ⟨Nat.le_refl _⟩, ⟨by (with_reducible repeat (first | apply Kd.R_alloc | apply Kd.R_drewN | apply Kd.R_drew)); exact Kd.R_mono HO0.out (fun _ hk => ⟨hk, (by simp [Value.ownBlock])⟩)⟩, ⟨by (with_reducible repeat (first | apply Kd.R_alloc | apply Kd.R_drewN | apply Kd.R_drew)); exact Kd.R_mono HO300.out (fun _ hk => hk.1)⟩, ⟨by first | exact Kd.R_nil _ _ _ _ _ | exact Kd.N_nil _ _ _ _ _ | exact Kd.V_nil _ _ _ _ _ | exact Kd.Q_nil _ _ _ _ _ | exact Kd.S_nil _ _ _ _ _⟩, ⟨by repeat (first | (with_reducible first | exact HK.out | apply Kept.alloc | apply Kept.drewN | apply Kept.drew) | exact HK.out)⟩, ⟨by repeat (first | (with_reducible first | exact HB.out | apply below_alloc | apply pw_below_drewN | apply below_drew1) | exact HB.out)⟩⟩
  case round =>
    clear H'
    try clear p2
    try clear c5
    try clear c6
    obtain ⟨x11_1, x12_1, rfl, HA, HK1, HO_0, HO_10, HO_11, HK, HB⟩ := hrel
    cases gk with
    | zero => exact absurd HA.out (by simp [bailiwickref03_change.l0])
    | succ k1 =>
      have H := HA.out
      clear HA
      simp only [bailiwickref03_change.l0] at H
      by_cases c8 : x12_1 < (t298.length : Int)
      · rw [if_pos c8] at H
        have c8b0 : decide (x12_1 < (t298.length : Int)) = true := decide_eq_true c8
        clear c8
        by_cases c9 : 0 ≤ x12_1
        · rw [if_pos c9] at H
          have c9b0 : decide (0 ≤ x12_1) = true := decide_eq_true c9
          clear c9
          replace H := Option.bind_eq_some_iff.mp H
          obtain ⟨t302, A100, H⟩ := H
          replace H : (if (rd t298 x12_1) ≥ a1 then (bailiwickref03_change.j1 k1 l0 a1 a2 a3 t298 x11_1 x12_1 t302 (decide ((rd t298 x12_1) < a2))) else (bailiwickref03_change.j1 k1 l0 a1 a2 a3 t298 x11_1 x12_1 t302 false)) = some (r1, r2) := H
          have A10 := Aside0.mk A100
          clear A100
          have HC11 := Aside0.mk H
          clear H
          obtain ⟨Ao12, co12, eo12⟩ := Kd.R_slice HO_10.out
          subst eo12
          have p301 : 0 ≤ (x12_1 : Int) := of_decide_eq_true (by first | (with_reducible assumption) | assumption)
          have q301 : x12_1 < (t298.length : Int) := of_decide_eq_true (by first | (with_reducible assumption) | assumption)
          obtain ⟨ad301, e301, hx301_0⟩ := Kd.at_int (Kd.R_reads' HO_10.out).2.2 x12_1 p301 q301
          cases e301
          replace p301 := eq_true p301
          replace q301 := eq_true q301
          go_upto_region 7 with (first | ((with_reducible refine gate_callee (f := 57) rfl ?_); refine goesL_ (some 29) rfl rfl Try.func57 (by kernel_rfl) rfl #[.slice Ao6 l0.length co6, .int .i64 (rd t298 x12_1)] rfl (by (try simp only [List.map_toArray, List.map_cons, List.map_nil]); first | done | rfl | (simp only [List.length_drop, List.length_take]; rfl)) ?_; (with_reducible refine (bailiwickref03_at.calls k1 _ _ l0 (rd t298 x12_1) t302 _ ?side1 ?side2 A10.out).mono ?_); (case side1 => repeat (first | exact (Kd.R_reads' HO_0.out).2.2 | (with_reducible refine Kd.C_alloc ?_ _) | (with_reducible refine Kd.C_drewN ?_ _) | (with_reducible refine Kd.C_drew ?_))); (case side2 => exact (Kd.R_reads' HO_0.out).2.1); rintro e w' ⟨rfl, ⟨nd, rfl⟩⟩; refine ⟨_, rfl, ?_⟩))
          (try simp only [Act.put, List.setIfInBounds_toArray, List.set_cons_zero, List.set_cons_succ])
          go_cut [43] (fun v43 wc => ∃ (kq : Nat) (x43_10 : Bool), v43 = .bool x43_10 ∧ Aside0 (bailiwickref03_change.j1 kq l0 a1 a2 a3 t298 x11_1 x12_1 t302 x43_10 = some (r1, r2)) ∧ Aside0 (kq ≤ k1) ∧ Aside0 (Kd.R k45 45 wc w0.heap.size (fun k_ => (P0_ k_ ∨ w.heap.size ≤ k_) ∧ some k_ ≠ (u11 : Value).ownBlock) (.slice Ao6 l0.length co6) l0) ∧ Aside0 (Kd.R (Kd.int .i64) 2 wc w0.heap.size (fun k_ => (P0_ k_ ∨ w.heap.size ≤ k_)) (.slice (some ad301) t298.length co12) t298) ∧ Aside0 (Kd.R k45 45 wc w0.heap.size (fun k_ => (P0_ k_ ∨ w.heap.size ≤ k_) ∧ some k_ ≠ ((.slice Ao6 l0.length co6) : Value).ownBlock) u11 x11_1) ∧ Aside0 (Kept w wc (fun k_ => P0_ k_)) ∧ Aside0 (Below w0.heap.size w0 wc))
          case first =>
            have H := HC11.out
            clear HC11
            by_cases c13 : (rd t298 x12_1) ≥ a1
            · rw [if_pos c13] at H
              have c13b0 : decide (a1 ≤ (rd t298 x12_1)) = true := decide_eq_true c13
              clear c13
              (first | rw [c13b0] | (simp only [i64_w, i32_w]; rw [c13b0]) | skip)
              have H' := Aside0.mk H
              clear H
              have p303 : 0 ≤ (x12_1 : Int) := of_decide_eq_true (by first | (with_reducible assumption) | assumption)
              have q303 : x12_1 < (t298.length : Int) := of_decide_eq_true (by first | (with_reducible assumption) | assumption)
              obtain ⟨ad303, e303, hx303_0⟩ := Kd.at_int (Kd.R_reads' HO_10.out).2.2 x12_1 p303 q303
              obtain rfl : ad301 = ad303 := (by injection e303)
              replace p303 := eq_true p303
              replace q303 := eq_true q303
              have p304 : 0 ≤ (x12_1 : Int) := of_decide_eq_true (by first | (with_reducible assumption) | assumption)
              have q304 : x12_1 < (t298.length : Int) := of_decide_eq_true (by first | (with_reducible assumption) | assumption)
              obtain ⟨ad304, e304, hx304_0⟩ := Kd.at_int (Kd.R_reads' HO_10.out).2.2 x12_1 p304 q304
              obtain rfl : ad301 = ad304 := (by injection e304)
              replace p304 := eq_true p304
              replace q304 := eq_true q304
              go_wp2
              go_meet
              case rel => exact ⟨_, (decide ((rd t298 x12_1) < a2)), (by first | rfl | (simp; done) | (simp [*]; done)), H', ⟨by have := HK1.out; first | omega | exact Nat.le_refl _⟩, ⟨by (with_reducible repeat (first | apply Kd.R_alloc | apply Kd.R_drewN | apply Kd.R_drew)); exact HO_0.out⟩, ⟨by (with_reducible repeat (first | apply Kd.R_alloc | apply Kd.R_drewN | apply Kd.R_drew)); exact HO_10.out⟩, ⟨by (with_reducible repeat (first | apply Kd.R_alloc | apply Kd.R_drewN | apply Kd.R_drew)); exact HO_11.out⟩, ⟨by repeat (first | (with_reducible first | exact HK.out | apply Kept.alloc | apply Kept.drewN | apply Kept.drew) | exact HK.out)⟩, ⟨by repeat (first | (with_reducible first | exact HB.out | apply below_alloc | apply pw_below_drewN | apply below_drew1) | exact HB.out)⟩⟩
            · rw [if_neg c13] at H
              have c13b0 : decide (a1 ≤ (rd t298 x12_1)) = false := decide_eq_false c13
              clear c13
              (first | rw [c13b0] | (simp only [i64_w, i32_w]; rw [c13b0]) | skip)
              have H' := Aside0.mk H
              clear H
              have p303 : 0 ≤ (x12_1 : Int) := of_decide_eq_true (by first | (with_reducible assumption) | assumption)
              have q303 : x12_1 < (t298.length : Int) := of_decide_eq_true (by first | (with_reducible assumption) | assumption)
              obtain ⟨ad303, e303, hx303_0⟩ := Kd.at_int (Kd.R_reads' HO_10.out).2.2 x12_1 p303 q303
              obtain rfl : ad301 = ad303 := (by injection e303)
              replace p303 := eq_true p303
              replace q303 := eq_true q303
              go_wp2
              go_meet
              case rel => exact ⟨_, (false), (by first | rfl | (simp; done) | (simp [*]; done)), H', ⟨by have := HK1.out; first | omega | exact Nat.le_refl _⟩, ⟨by (with_reducible repeat (first | apply Kd.R_alloc | apply Kd.R_drewN | apply Kd.R_drew)); exact HO_0.out⟩, ⟨by (with_reducible repeat (first | apply Kd.R_alloc | apply Kd.R_drewN | apply Kd.R_drew)); exact HO_10.out⟩, ⟨by (with_reducible repeat (first | apply Kd.R_alloc | apply Kd.R_drewN | apply Kd.R_drew)); exact HO_11.out⟩, ⟨by repeat (first | (with_reducible first | exact HK.out | apply Kept.alloc | apply Kept.drewN | apply Kept.drew) | exact HK.out)⟩, ⟨by repeat (first | (with_reducible first | exact HB.out | apply below_alloc | apply pw_below_drewN | apply below_drew1) | exact HB.out)⟩⟩
          case rest =>
            clear HC11
            try clear c1
            try clear p2
            try clear p3
            try clear q3
            try clear hx3
            try clear c5
            try clear c6
            try clear c8
            try clear c8b0
            try clear c9
            try clear c9b0
            try clear c13
            try clear c13b0
            try clear hx301_0
            try clear hx303_0
            try clear hx304_0
            try clear p2
            try clear p301
            try clear p303
            try clear p304
            try clear q301
            try clear q303
            try clear q304
            obtain ⟨kq, x43_10, rfl, HA, HJ10, HO_0, HO_10, HO_11, HK, HB⟩ := hcut
            cases kq with
            | zero => exact absurd HA.out (by simp [bailiwickref03_change.j1])
            | succ kj10 =>
              have H := HA.out
              clear HA
              simp only [bailiwickref03_change.j1] at H
              by_cases c14 : x43_10 = true
              · subst c14
                have H1 : (if (x11_1.length : Int) = 0 then (if 0 ≤ x12_1 then (if x12_1 < (t298.length : Int) then (if x11_1.length < 8796093022208 then (bailiwickref03_change.l0 kj10 l0 a1 a2 a3 t298 (x11_1 ++ [(⟨rd t298 x12_1, wrap64 (t302 + a3)⟩ : S45)]) (wrap64 (x12_1 + 1))) else (none)) else (none)) else (none)) else (if 0 ≤ (wrap64 ((x11_1.length : Int) - 1)) then (if (wrap64 ((x11_1.length : Int) - 1)) < (x11_1.length : Int) then (if ((rd_T45 x11_1 (wrap64 ((x11_1.length : Int) - 1))).f1) = (wrap64 (t302 + a3)) then (bailiwickref03_change.l0 kj10 l0 a1 a2 a3 t298 x11_1 (wrap64 (x12_1 + 1))) else (if 0 ≤ x12_1 then (if x12_1 < (t298.length : Int) then (if x11_1.length < 8796093022208 then (bailiwickref03_change.l0 kj10 l0 a1 a2 a3 t298 (x11_1 ++ [(⟨rd t298 x12_1, wrap64 (t302 + a3)⟩ : S45)]) (wrap64 (x12_1 + 1))) else (none)) else (none)) else (none))) else (none)) else (none))) = some (r1, r2) := by rw [if_pos rfl] at H; exact H
                clear H
                have H := H1
                clear H1
                by_cases c15 : (x11_1.length : Int) = 0
                · rw [if_pos c15] at H
                  have c15b0 : ((x11_1.length : Int) == 0) = true := beq_iff_eq.mpr c15
                  have c15b1 : ((x11_1.length : Int) != 0) = false := bne_eq_false_iff_eq.mpr c15
                  clear c15
                  by_cases c16 : 0 ≤ x12_1
                  · rw [if_pos c16] at H
                    have c16b0 : decide (0 ≤ x12_1) = true := decide_eq_true c16
                    clear c16
                    by_cases c17 : x12_1 < (t298.length : Int)
                    · rw [if_pos c17] at H
                      have c17b0 : decide (x12_1 < (t298.length : Int)) = true := decide_eq_true c17
                      clear c17
                      by_cases c18 : x11_1.length < 8796093022208
                      · rw [if_pos c18] at H
                        have LMc18 := Aside0.mk c18
                        clear c18
                        obtain ⟨y306, hy306⟩ : ∃ y_ : List (S45), y_ = (x11_1 ++ [(⟨rd t298 x12_1, wrap64 (t302 + a3)⟩ : S45)]) := ⟨_, rfl⟩
                        replace H : (bailiwickref03_change.l0 kj10 l0 a1 a2 a3 t298 y306 (wrap64 (x12_1 + 1))) = some (r1, r2) := by first | (rw [hy306]; with_reducible exact H) | (have H2_ := (Option.bind_some _ _).symm.trans H; rw [hy306]; with_reducible exact H2_) | (have H2_ := (Option.bind_some _ _).symm.trans H; with_reducible exact H2_) | with_reducible exact H | (rw [hy306]; exact H) | exact H
                        have Ny306 := Aside0.mk hy306
                        clear hy306
                        have H' := Aside0.mk H
                        clear H
                        obtain ⟨Ao19, co19, eo19⟩ := Kd.R_slice HO_11.out
                        subst eo19
                        have p305 : 0 ≤ (x12_1 : Int) := of_decide_eq_true (by first | (with_reducible assumption) | assumption)
                        have q305 : x12_1 < (t298.length : Int) := of_decide_eq_true (by first | (with_reducible assumption) | assumption)
                        obtain ⟨ad305, e305, hx305_0⟩ := Kd.at_int (Kd.R_reads' HO_10.out).2.2 x12_1 p305 q305
                        obtain rfl : ad301 = ad305 := (by injection e305)
                        replace p305 := eq_true p305
                        replace q305 := eq_true q305
                        go_wp2_with (first | ((with_reducible refine gate_builtin (b := .append) (xs := #[.tmp 61, .tmp 68]) rfl ?_); (try (refine gate_guard (by rfl) ?_; dsimp only)); at_builtin; refine Kd.R_append k45 (w0 := w0) w0.heap.size rfl (.tmp 61) (.tmp 68) 22 45 (.agg #[(.int .i64 0), (.int .i64 0)]) 16 rfl Try.underlying22 info45 rfl (by decide) (by omega) (.slice Ao19 x11_1.length co19) x11_1 (⟨rd t298 x12_1, wrap64 (t302 + a3)⟩ : S45) [.int .i64 (rd t298 x12_1), .int .i64 (wrap64 (t302 + a3))] (fun k_ => (P0_ k_ ∨ w.heap.size ≤ k_) ∧ some k_ ≠ (.slice Ao6 l0.length co6 : Value).ownBlock) (fun _ => False) rfl rfl ?aP (fun _ hk => hk.elim) ?aF ?aO ?aB ?aS ?aL ?_; (case aP => exact k45_mkM _ _ _ (⟨rd t298 x12_1, wrap64 (t302 + a3)⟩ : S45)); (case aB => exact (by repeat (first | (with_reducible first | exact HB.out | apply below_alloc | apply pw_below_drewN | apply below_drew1) | exact HB.out))); (case aF => exact (fun k_ hk => ⟨(.inr (Nat.le_trans (by first | exact HK.out.1 | exact (show Kept w _ (fun k_ => P0_ k_) from by repeat (first | (with_reducible first | exact HK.out | apply Kept.alloc | apply Kept.drewN | apply Kept.drew) | exact HK.out)).1) hk)), Kd.fresh' (Kd.R_lt (by (with_reducible repeat (first | apply Kd.R_alloc | apply Kd.R_drewN | apply Kd.R_drew)); exact HO_0.out)) k_ hk⟩)); (case aO => exact (by (with_reducible repeat (first | apply Kd.R_alloc | apply Kd.R_drewN | apply Kd.R_drew)); exact HO_11.out)); (case aS => exact (below_size (by repeat (first | (with_reducible first | exact HB.out | apply below_alloc | apply pw_below_drewN | apply below_drew1) | exact HB.out)))); (case aL => have := LMc18.out; omega); intro v307 w20 ho hb hg hat; rw [← Ny306.out] at ho; have n0_ := Aside0.mk (Kd.R_after (ok := (fun k_ => (P0_ k_ ∨ w.heap.size ≤ k_))) (by (with_reducible repeat (first | apply Kd.R_alloc | apply Kd.R_drewN | apply Kd.R_drew)); exact HO_0.out) hg hat); have n1_ := Aside0.mk (Kd.R_over' (by (with_reducible repeat (first | apply Kd.R_alloc | apply Kd.R_drewN | apply Kd.R_drew)); exact HO_10.out) (Kd.R_typed (by (with_reducible repeat (first | apply Kd.R_alloc | apply Kd.R_drewN | apply Kd.R_drew)); exact HO_11.out)) (by decide) hg); have n2_ := Aside0.mk (hb); have n3_ := Aside0.mk (Kept.of_grown (S := (fun k_ => P0_ k_)) hg (by repeat (first | (with_reducible first | exact HK.out | apply Kept.alloc | apply Kept.drewN | apply Kept.drew) | exact HK.out)) (fun k_ e_ => (HO_11.out.1 k_ e_).1)); have n4_ := Aside0.mk (ho); clear HO_0; clear HO_10; clear HB; clear HK; clear HO_11; have HO_0 := n0_; have HO_10 := n1_; have HB := n2_; have HK := n3_; have HO308 := n4_; clear n0_ n1_ n2_ n3_ n4_; clear ho hb hg hat))
                        go_roundg kj10
                        case measure => have := HK1.out; have := HJ10.out; omega
                        case rel => exact ⟨(y306), (wrap64 (x12_1 + 1)), (by first | rfl | (simp; done) | (simp [*]; done)), H', ⟨by have := HK1.out; have := HJ10.out; omega⟩, ⟨by (with_reducible repeat (first | apply Kd.R_alloc | apply Kd.R_drewN | apply Kd.R_drew)); exact HO_0.out⟩, ⟨by (with_reducible repeat (first | apply Kd.R_alloc | apply Kd.R_drewN | apply Kd.R_drew)); exact HO_10.out⟩, ⟨by (with_reducible repeat (first | apply Kd.R_alloc | apply Kd.R_drewN | apply Kd.R_drew)); exact HO308.out⟩, ⟨by repeat (first | (with_reducible first | exact HK.out | apply Kept.alloc | apply Kept.drewN | apply Kept.drew) | exact HK.out)⟩, ⟨by repeat (first | (with_reducible first | exact HB.out | apply below_alloc | apply pw_below_drewN | apply below_drew1) | exact HB.out)⟩⟩
                      · rw [if_neg c18] at H
                        exact absurd H (by simp)
                    · rw [if_neg c17] at H
                      exact absurd H (by simp)
                  · rw [if_neg c16] at H
                    exact absurd H (by simp)
                · rw [if_neg c15] at H
                  have c15b0 : ((x11_1.length : Int) == 0) = false := beq_eq_false_iff_ne.mpr c15
                  have c15b1 : ((x11_1.length : Int) != 0) = true := bne_iff_ne.mpr c15
                  have c15b2 : ¬ (x11_1 = []) := fun h_ => c15 (by rw [h_]; rfl)
                  obtain ⟨ji21, hji21⟩ : ∃ j_ : Int, (wrap64 ((x11_1.length : Int) - 1)) = j_ := ⟨_, rfl⟩
                  replace H : (if 0 ≤ (ji21) then (if (ji21) < (x11_1.length : Int) then (if ((rd_T45 x11_1 (ji21)).f1) = (wrap64 (t302 + a3)) then (bailiwickref03_change.l0 kj10 l0 a1 a2 a3 t298 x11_1 (wrap64 (x12_1 + 1))) else (if 0 ≤ x12_1 then (if x12_1 < (t298.length : Int) then (if x11_1.length < 8796093022208 then (bailiwickref03_change.l0 kj10 l0 a1 a2 a3 t298 (x11_1 ++ [(⟨rd t298 x12_1, wrap64 (t302 + a3)⟩ : S45)]) (wrap64 (x12_1 + 1))) else (none)) else (none)) else (none))) else (none)) else (none)) = some (r1, r2) := by first | (rw [hji21] at H; exact H) | (simp only [hji21] at H ⊢; exact H)
                  have hji21w : (IntKind.i64.wrap ((x11_1.length : Int) - 1)) = ji21 := (i64_w _).trans hji21
                  by_cases c22 : 0 ≤ (ji21)
                  · rw [if_pos c22] at H
                    have c22b0 : decide (0 ≤ (ji21)) = true := decide_eq_true c22
                    clear c22
                    by_cases c23 : (ji21) < (x11_1.length : Int)
                    · rw [if_pos c23] at H
                      have c23b0 : decide ((ji21) < (x11_1.length : Int)) = true := decide_eq_true c23
                      clear c23
                      by_cases c24 : ((rd_T45 x11_1 (ji21)).f1) = (wrap64 (t302 + a3))
                      · rw [if_pos c24] at H
                        have c24b0 : (((rd_T45 x11_1 (ji21)).f1) == (wrap64 (t302 + a3))) = true := beq_iff_eq.mpr c24
                        have c24b1 : (((rd_T45 x11_1 (ji21)).f1) != (wrap64 (t302 + a3))) = false := bne_eq_false_iff_eq.mpr c24
                        clear c24
                        have H' := Aside0.mk H
                        clear H
                        obtain ⟨Ao25, co25, eo25⟩ := Kd.R_slice HO_11.out
                        subst eo25
                        have p309 : 0 ≤ ((ji21) : Int) := of_decide_eq_true (by first | (with_reducible assumption) | assumption)
                        have q309 : (ji21) < (x11_1.length : Int) := of_decide_eq_true (by first | (with_reducible assumption) | assumption)
                        obtain ⟨ad309, e309, hx309_0, hx309_1⟩ := at_T45 (Kd.R_reads' HO_11.out).2.2 (ji21) p309 q309
                        cases e309
                        replace p309 := eq_true p309
                        replace q309 := eq_true q309
                        go_wp2
                        go_roundg kj10
                        case measure => have := HK1.out; have := HJ10.out; omega
                        case rel => exact ⟨(x11_1), (wrap64 (x12_1 + 1)), (by first | rfl | (simp; done) | (simp [*]; done)), H', ⟨by have := HK1.out; have := HJ10.out; omega⟩, ⟨by (with_reducible repeat (first | apply Kd.R_alloc | apply Kd.R_drewN | apply Kd.R_drew)); exact HO_0.out⟩, ⟨by (with_reducible repeat (first | apply Kd.R_alloc | apply Kd.R_drewN | apply Kd.R_drew)); exact HO_10.out⟩, ⟨by (with_reducible repeat (first | apply Kd.R_alloc | apply Kd.R_drewN | apply Kd.R_drew)); exact HO_11.out⟩, ⟨by repeat (first | (with_reducible first | exact HK.out | apply Kept.alloc | apply Kept.drewN | apply Kept.drew) | exact HK.out)⟩, ⟨by repeat (first | (with_reducible first | exact HB.out | apply below_alloc | apply pw_below_drewN | apply below_drew1) | exact HB.out)⟩⟩
                      · rw [if_neg c24] at H
                        have c24b0 : (((rd_T45 x11_1 (ji21)).f1) == (wrap64 (t302 + a3))) = false := beq_eq_false_iff_ne.mpr c24
                        have c24b1 : (((rd_T45 x11_1 (ji21)).f1) != (wrap64 (t302 + a3))) = true := bne_iff_ne.mpr c24
                        by_cases c26 : 0 ≤ x12_1
                        · rw [if_pos c26] at H
                          have c26b0 : decide (0 ≤ x12_1) = true := decide_eq_true c26
                          clear c26
                          by_cases c27 : x12_1 < (t298.length : Int)
                          · rw [if_pos c27] at H
                            have c27b0 : decide (x12_1 < (t298.length : Int)) = true := decide_eq_true c27
                            clear c27
                            by_cases c28 : x11_1.length < 8796093022208
                            · rw [if_pos c28] at H
                              have LMc28 := Aside0.mk c28
                              clear c28
                              obtain ⟨y311, hy311⟩ : ∃ y_ : List (S45), y_ = (x11_1 ++ [(⟨rd t298 x12_1, wrap64 (t302 + a3)⟩ : S45)]) := ⟨_, rfl⟩
                              replace H : (bailiwickref03_change.l0 kj10 l0 a1 a2 a3 t298 y311 (wrap64 (x12_1 + 1))) = some (r1, r2) := by first | (rw [hy311]; with_reducible exact H) | (have H2_ := (Option.bind_some _ _).symm.trans H; rw [hy311]; with_reducible exact H2_) | (have H2_ := (Option.bind_some _ _).symm.trans H; with_reducible exact H2_) | with_reducible exact H | (rw [hy311]; exact H) | exact H
                              have Ny311 := Aside0.mk hy311
                              clear hy311
                              have H' := Aside0.mk H
                              clear H
                              obtain ⟨Ao29, co29, eo29⟩ := Kd.R_slice HO_11.out
                              subst eo29
                              have p309 : 0 ≤ ((ji21) : Int) := of_decide_eq_true (by first | (with_reducible assumption) | assumption)
                              have q309 : (ji21) < (x11_1.length : Int) := of_decide_eq_true (by first | (with_reducible assumption) | assumption)
                              obtain ⟨ad309, e309, hx309_0, hx309_1⟩ := at_T45 (Kd.R_reads' HO_11.out).2.2 (ji21) p309 q309
                              cases e309
                              replace p309 := eq_true p309
                              replace q309 := eq_true q309
                              have p310 : 0 ≤ (x12_1 : Int) := of_decide_eq_true (by first | (with_reducible assumption) | assumption)
                              have q310 : x12_1 < (t298.length : Int) := of_decide_eq_true (by first | (with_reducible assumption) | assumption)
                              obtain ⟨ad310, e310, hx310_0⟩ := Kd.at_int (Kd.R_reads' HO_10.out).2.2 x12_1 p310 q310
                              obtain rfl : ad301 = ad310 := (by injection e310)
                              replace p310 := eq_true p310
                              replace q310 := eq_true q310
                              go_wp2_with (first | ((with_reducible refine gate_builtin (b := .append) (xs := #[.tmp 61, .tmp 68]) rfl ?_); (try (refine gate_guard (by rfl) ?_; dsimp only)); at_builtin; refine Kd.R_append k45 (w0 := w0) w0.heap.size rfl (.tmp 61) (.tmp 68) 22 45 (.agg #[(.int .i64 0), (.int .i64 0)]) 16 rfl Try.underlying22 info45 rfl (by decide) (by omega) (.slice (some ad309) x11_1.length co29) x11_1 (⟨rd t298 x12_1, wrap64 (t302 + a3)⟩ : S45) [.int .i64 (rd t298 x12_1), .int .i64 (wrap64 (t302 + a3))] (fun k_ => (P0_ k_ ∨ w.heap.size ≤ k_) ∧ some k_ ≠ (.slice Ao6 l0.length co6 : Value).ownBlock) (fun _ => False) rfl rfl ?aP (fun _ hk => hk.elim) ?aF ?aO ?aB ?aS ?aL ?_; (case aP => exact k45_mkM _ _ _ (⟨rd t298 x12_1, wrap64 (t302 + a3)⟩ : S45)); (case aB => exact (by repeat (first | (with_reducible first | exact HB.out | apply below_alloc | apply pw_below_drewN | apply below_drew1) | exact HB.out))); (case aF => exact (fun k_ hk => ⟨(.inr (Nat.le_trans (by first | exact HK.out.1 | exact (show Kept w _ (fun k_ => P0_ k_) from by repeat (first | (with_reducible first | exact HK.out | apply Kept.alloc | apply Kept.drewN | apply Kept.drew) | exact HK.out)).1) hk)), Kd.fresh' (Kd.R_lt (by (with_reducible repeat (first | apply Kd.R_alloc | apply Kd.R_drewN | apply Kd.R_drew)); exact HO_0.out)) k_ hk⟩)); (case aO => exact (by (with_reducible repeat (first | apply Kd.R_alloc | apply Kd.R_drewN | apply Kd.R_drew)); exact HO_11.out)); (case aS => exact (below_size (by repeat (first | (with_reducible first | exact HB.out | apply below_alloc | apply pw_below_drewN | apply below_drew1) | exact HB.out)))); (case aL => have := LMc28.out; omega); intro v312 w30 ho hb hg hat; rw [← Ny311.out] at ho; have n0_ := Aside0.mk (Kd.R_after (ok := (fun k_ => (P0_ k_ ∨ w.heap.size ≤ k_))) (by (with_reducible repeat (first | apply Kd.R_alloc | apply Kd.R_drewN | apply Kd.R_drew)); exact HO_0.out) hg hat); have n1_ := Aside0.mk (Kd.R_over' (by (with_reducible repeat (first | apply Kd.R_alloc | apply Kd.R_drewN | apply Kd.R_drew)); exact HO_10.out) (Kd.R_typed (by (with_reducible repeat (first | apply Kd.R_alloc | apply Kd.R_drewN | apply Kd.R_drew)); exact HO_11.out)) (by decide) hg); have n2_ := Aside0.mk (hb); have n3_ := Aside0.mk (Kept.of_grown (S := (fun k_ => P0_ k_)) hg (by repeat (first | (with_reducible first | exact HK.out | apply Kept.alloc | apply Kept.drewN | apply Kept.drew) | exact HK.out)) (fun k_ e_ => (HO_11.out.1 k_ e_).1)); have n4_ := Aside0.mk (ho); clear HO_0; clear HO_10; clear HB; clear HK; clear HO_11; have HO_0 := n0_; have HO_10 := n1_; have HB := n2_; have HK := n3_; have HO313 := n4_; clear n0_ n1_ n2_ n3_ n4_; clear ho hb hg hat))
                              go_roundg kj10
                              case measure => have := HK1.out; have := HJ10.out; omega
                              case rel => exact ⟨(y311), (wrap64 (x12_1 + 1)), (by first | rfl | (simp; done) | (simp [*]; done)), H', ⟨by have := HK1.out; have := HJ10.out; omega⟩, ⟨by (with_reducible repeat (first | apply Kd.R_alloc | apply Kd.R_drewN | apply Kd.R_drew)); exact HO_0.out⟩, ⟨by (with_reducible repeat (first | apply Kd.R_alloc | apply Kd.R_drewN | apply Kd.R_drew)); exact HO_10.out⟩, ⟨by (with_reducible repeat (first | apply Kd.R_alloc | apply Kd.R_drewN | apply Kd.R_drew)); exact HO313.out⟩, ⟨by repeat (first | (with_reducible first | exact HK.out | apply Kept.alloc | apply Kept.drewN | apply Kept.drew) | exact HK.out)⟩, ⟨by repeat (first | (with_reducible first | exact HB.out | apply below_alloc | apply pw_below_drewN | apply below_drew1) | exact HB.out)⟩⟩
                            · rw [if_neg c28] at H
                              exact absurd H (by simp)
                          · rw [if_neg c27] at H
                            exact absurd H (by simp)
                        · rw [if_neg c26] at H
                          exact absurd H (by simp)
                    · rw [if_neg c23] at H
                      exact absurd H (by simp)
                  · rw [if_neg c22] at H
                    exact absurd H (by simp)
              · replace c14 := Bool.eq_false_iff.mpr c14
                subst c14
                have H1 : (if (x11_1.length : Int) = 0 then (if 0 ≤ x12_1 then (if x12_1 < (t298.length : Int) then (if x11_1.length < 8796093022208 then (bailiwickref03_change.l0 kj10 l0 a1 a2 a3 t298 (x11_1 ++ [(⟨rd t298 x12_1, t302⟩ : S45)]) (wrap64 (x12_1 + 1))) else (none)) else (none)) else (none)) else (if 0 ≤ (wrap64 ((x11_1.length : Int) - 1)) then (if (wrap64 ((x11_1.length : Int) - 1)) < (x11_1.length : Int) then (if ((rd_T45 x11_1 (wrap64 ((x11_1.length : Int) - 1))).f1) = t302 then (bailiwickref03_change.l0 kj10 l0 a1 a2 a3 t298 x11_1 (wrap64 (x12_1 + 1))) else (if 0 ≤ x12_1 then (if x12_1 < (t298.length : Int) then (if x11_1.length < 8796093022208 then (bailiwickref03_change.l0 kj10 l0 a1 a2 a3 t298 (x11_1 ++ [(⟨rd t298 x12_1, t302⟩ : S45)]) (wrap64 (x12_1 + 1))) else (none)) else (none)) else (none))) else (none)) else (none))) = some (r1, r2) := by rw [if_neg (show ¬ (false = true) by decide)] at H; exact H
                clear H
                have H := H1
                clear H1
                by_cases c31 : (x11_1.length : Int) = 0
                · rw [if_pos c31] at H
                  have c31b0 : ((x11_1.length : Int) == 0) = true := beq_iff_eq.mpr c31
                  have c31b1 : ((x11_1.length : Int) != 0) = false := bne_eq_false_iff_eq.mpr c31
                  clear c31
                  by_cases c32 : 0 ≤ x12_1
                  · rw [if_pos c32] at H
                    have c32b0 : decide (0 ≤ x12_1) = true := decide_eq_true c32
                    clear c32
                    by_cases c33 : x12_1 < (t298.length : Int)
                    · rw [if_pos c33] at H
                      have c33b0 : decide (x12_1 < (t298.length : Int)) = true := decide_eq_true c33
                      clear c33
                      by_cases c34 : x11_1.length < 8796093022208
                      · rw [if_pos c34] at H
                        have LMc34 := Aside0.mk c34
                        clear c34
                        obtain ⟨y315, hy315⟩ : ∃ y_ : List (S45), y_ = (x11_1 ++ [(⟨rd t298 x12_1, t302⟩ : S45)]) := ⟨_, rfl⟩
                        replace H : (bailiwickref03_change.l0 kj10 l0 a1 a2 a3 t298 y315 (wrap64 (x12_1 + 1))) = some (r1, r2) := by first | (rw [hy315]; with_reducible exact H) | (have H2_ := (Option.bind_some _ _).symm.trans H; rw [hy315]; with_reducible exact H2_) | (have H2_ := (Option.bind_some _ _).symm.trans H; with_reducible exact H2_) | with_reducible exact H | (rw [hy315]; exact H) | exact H
                        have Ny315 := Aside0.mk hy315
                        clear hy315
                        have H' := Aside0.mk H
                        clear H
                        obtain ⟨Ao35, co35, eo35⟩ := Kd.R_slice HO_11.out
                        subst eo35
                        have p314 : 0 ≤ (x12_1 : Int) := of_decide_eq_true (by first | (with_reducible assumption) | assumption)
                        have q314 : x12_1 < (t298.length : Int) := of_decide_eq_true (by first | (with_reducible assumption) | assumption)
                        obtain ⟨ad314, e314, hx314_0⟩ := Kd.at_int (Kd.R_reads' HO_10.out).2.2 x12_1 p314 q314
                        obtain rfl : ad301 = ad314 := (by injection e314)
                        replace p314 := eq_true p314
                        replace q314 := eq_true q314
                        go_wp2_with (first | ((with_reducible refine gate_builtin (b := .append) (xs := #[.tmp 61, .tmp 68]) rfl ?_); (try (refine gate_guard (by rfl) ?_; dsimp only)); at_builtin; refine Kd.R_append k45 (w0 := w0) w0.heap.size rfl (.tmp 61) (.tmp 68) 22 45 (.agg #[(.int .i64 0), (.int .i64 0)]) 16 rfl Try.underlying22 info45 rfl (by decide) (by omega) (.slice Ao35 x11_1.length co35) x11_1 (⟨rd t298 x12_1, t302⟩ : S45) [.int .i64 (rd t298 x12_1), .int .i64 t302] (fun k_ => (P0_ k_ ∨ w.heap.size ≤ k_) ∧ some k_ ≠ (.slice Ao6 l0.length co6 : Value).ownBlock) (fun _ => False) rfl rfl ?aP (fun _ hk => hk.elim) ?aF ?aO ?aB ?aS ?aL ?_; (case aP => exact k45_mkM _ _ _ (⟨rd t298 x12_1, t302⟩ : S45)); (case aB => exact (by repeat (first | (with_reducible first | exact HB.out | apply below_alloc | apply pw_below_drewN | apply below_drew1) | exact HB.out))); (case aF => exact (fun k_ hk => ⟨(.inr (Nat.le_trans (by first | exact HK.out.1 | exact (show Kept w _ (fun k_ => P0_ k_) from by repeat (first | (with_reducible first | exact HK.out | apply Kept.alloc | apply Kept.drewN | apply Kept.drew) | exact HK.out)).1) hk)), Kd.fresh' (Kd.R_lt (by (with_reducible repeat (first | apply Kd.R_alloc | apply Kd.R_drewN | apply Kd.R_drew)); exact HO_0.out)) k_ hk⟩)); (case aO => exact (by (with_reducible repeat (first | apply Kd.R_alloc | apply Kd.R_drewN | apply Kd.R_drew)); exact HO_11.out)); (case aS => exact (below_size (by repeat (first | (with_reducible first | exact HB.out | apply below_alloc | apply pw_below_drewN | apply below_drew1) | exact HB.out)))); (case aL => have := LMc34.out; omega); intro v316 w36 ho hb hg hat; rw [← Ny315.out] at ho; have n0_ := Aside0.mk (Kd.R_after (ok := (fun k_ => (P0_ k_ ∨ w.heap.size ≤ k_))) (by (with_reducible repeat (first | apply Kd.R_alloc | apply Kd.R_drewN | apply Kd.R_drew)); exact HO_0.out) hg hat); have n1_ := Aside0.mk (Kd.R_over' (by (with_reducible repeat (first | apply Kd.R_alloc | apply Kd.R_drewN | apply Kd.R_drew)); exact HO_10.out) (Kd.R_typed (by (with_reducible repeat (first | apply Kd.R_alloc | apply Kd.R_drewN | apply Kd.R_drew)); exact HO_11.out)) (by decide) hg); have n2_ := Aside0.mk (hb); have n3_ := Aside0.mk (Kept.of_grown (S := (fun k_ => P0_ k_)) hg (by repeat (first | (with_reducible first | exact HK.out | apply Kept.alloc | apply Kept.drewN | apply Kept.drew) | exact HK.out)) (fun k_ e_ => (HO_11.out.1 k_ e_).1)); have n4_ := Aside0.mk (ho); clear HO_0; clear HO_10; clear HB; clear HK; clear HO_11; have HO_0 := n0_; have HO_10 := n1_; have HB := n2_; have HK := n3_; have HO317 := n4_; clear n0_ n1_ n2_ n3_ n4_; clear ho hb hg hat))
                        go_roundg kj10
                        case measure => have := HK1.out; have := HJ10.out; omega
                        case rel => exact ⟨(y315), (wrap64 (x12_1 + 1)), (by first | rfl | (simp; done) | (simp [*]; done)), H', ⟨by have := HK1.out; have := HJ10.out; omega⟩, ⟨by (with_reducible repeat (first | apply Kd.R_alloc | apply Kd.R_drewN | apply Kd.R_drew)); exact HO_0.out⟩, ⟨by (with_reducible repeat (first | apply Kd.R_alloc | apply Kd.R_drewN | apply Kd.R_drew)); exact HO_10.out⟩, ⟨by (with_reducible repeat (first | apply Kd.R_alloc | apply Kd.R_drewN | apply Kd.R_drew)); exact HO317.out⟩, ⟨by repeat (first | (with_reducible first | exact HK.out | apply Kept.alloc | apply Kept.drewN | apply Kept.drew) | exact HK.out)⟩, ⟨by repeat (first | (with_reducible first | exact HB.out | apply below_alloc | apply pw_below_drewN | apply below_drew1) | exact HB.out)⟩⟩
                      · rw [if_neg c34] at H
                        exact absurd H (by simp)
                    · rw [if_neg c33] at H
                      exact absurd H (by simp)
                  · rw [if_neg c32] at H
                    exact absurd H (by simp)
                · rw [if_neg c31] at H
                  have c31b0 : ((x11_1.length : Int) == 0) = false := beq_eq_false_iff_ne.mpr c31
                  have c31b1 : ((x11_1.length : Int) != 0) = true := bne_iff_ne.mpr c31
                  have c31b2 : ¬ (x11_1 = []) := fun h_ => c31 (by rw [h_]; rfl)
                  obtain ⟨ji37, hji37⟩ : ∃ j_ : Int, (wrap64 ((x11_1.length : Int) - 1)) = j_ := ⟨_, rfl⟩
                  replace H : (if 0 ≤ (ji37) then (if (ji37) < (x11_1.length : Int) then (if ((rd_T45 x11_1 (ji37)).f1) = t302 then (bailiwickref03_change.l0 kj10 l0 a1 a2 a3 t298 x11_1 (wrap64 (x12_1 + 1))) else (if 0 ≤ x12_1 then (if x12_1 < (t298.length : Int) then (if x11_1.length < 8796093022208 then (bailiwickref03_change.l0 kj10 l0 a1 a2 a3 t298 (x11_1 ++ [(⟨rd t298 x12_1, t302⟩ : S45)]) (wrap64 (x12_1 + 1))) else (none)) else (none)) else (none))) else (none)) else (none)) = some (r1, r2) := by first | (rw [hji37] at H; exact H) | (simp only [hji37] at H ⊢; exact H)
                  have hji37w : (IntKind.i64.wrap ((x11_1.length : Int) - 1)) = ji37 := (i64_w _).trans hji37
                  by_cases c38 : 0 ≤ (ji37)
                  · rw [if_pos c38] at H
                    have c38b0 : decide (0 ≤ (ji37)) = true := decide_eq_true c38
                    clear c38
                    by_cases c39 : (ji37) < (x11_1.length : Int)
                    · rw [if_pos c39] at H
                      have c39b0 : decide ((ji37) < (x11_1.length : Int)) = true := decide_eq_true c39
                      clear c39
                      by_cases c40 : ((rd_T45 x11_1 (ji37)).f1) = t302
                      · rw [if_pos c40] at H
                        have c40b0 : (((rd_T45 x11_1 (ji37)).f1) == t302) = true := beq_iff_eq.mpr c40
                        have c40b1 : (((rd_T45 x11_1 (ji37)).f1) != t302) = false := bne_eq_false_iff_eq.mpr c40
                        clear c40
                        have H' := Aside0.mk H
                        clear H
                        obtain ⟨Ao41, co41, eo41⟩ := Kd.R_slice HO_11.out
                        subst eo41
                        have p318 : 0 ≤ ((ji37) : Int) := of_decide_eq_true (by first | (with_reducible assumption) | assumption)
                        have q318 : (ji37) < (x11_1.length : Int) := of_decide_eq_true (by first | (with_reducible assumption) | assumption)
                        obtain ⟨ad318, e318, hx318_0, hx318_1⟩ := at_T45 (Kd.R_reads' HO_11.out).2.2 (ji37) p318 q318
                        cases e318
                        replace p318 := eq_true p318
                        replace q318 := eq_true q318
                        go_wp2
                        go_roundg kj10
                        case measure => have := HK1.out; have := HJ10.out; omega
                        case rel => exact ⟨(x11_1), (wrap64 (x12_1 + 1)), (by first | rfl | (simp; done) | (simp [*]; done)), H', ⟨by have := HK1.out; have := HJ10.out; omega⟩, ⟨by (with_reducible repeat (first | apply Kd.R_alloc | apply Kd.R_drewN | apply Kd.R_drew)); exact HO_0.out⟩, ⟨by (with_reducible repeat (first | apply Kd.R_alloc | apply Kd.R_drewN | apply Kd.R_drew)); exact HO_10.out⟩, ⟨by (with_reducible repeat (first | apply Kd.R_alloc | apply Kd.R_drewN | apply Kd.R_drew)); exact HO_11.out⟩, ⟨by repeat (first | (with_reducible first | exact HK.out | apply Kept.alloc | apply Kept.drewN | apply Kept.drew) | exact HK.out)⟩, ⟨by repeat (first | (with_reducible first | exact HB.out | apply below_alloc | apply pw_below_drewN | apply below_drew1) | exact HB.out)⟩⟩
                      · rw [if_neg c40] at H
                        have c40b0 : (((rd_T45 x11_1 (ji37)).f1) == t302) = false := beq_eq_false_iff_ne.mpr c40
                        have c40b1 : (((rd_T45 x11_1 (ji37)).f1) != t302) = true := bne_iff_ne.mpr c40
                        by_cases c42 : 0 ≤ x12_1
                        · rw [if_pos c42] at H
                          have c42b0 : decide (0 ≤ x12_1) = true := decide_eq_true c42
                          clear c42
                          by_cases c43 : x12_1 < (t298.length : Int)
                          · rw [if_pos c43] at H
                            have c43b0 : decide (x12_1 < (t298.length : Int)) = true := decide_eq_true c43
                            clear c43
                            by_cases c44 : x11_1.length < 8796093022208
                            · rw [if_pos c44] at H
                              have LMc44 := Aside0.mk c44
                              clear c44
                              obtain ⟨y320, hy320⟩ : ∃ y_ : List (S45), y_ = (x11_1 ++ [(⟨rd t298 x12_1, t302⟩ : S45)]) := ⟨_, rfl⟩
                              replace H : (bailiwickref03_change.l0 kj10 l0 a1 a2 a3 t298 y320 (wrap64 (x12_1 + 1))) = some (r1, r2) := by first | (rw [hy320]; with_reducible exact H) | (have H2_ := (Option.bind_some _ _).symm.trans H; rw [hy320]; with_reducible exact H2_) | (have H2_ := (Option.bind_some _ _).symm.trans H; with_reducible exact H2_) | with_reducible exact H | (rw [hy320]; exact H) | exact H
                              have Ny320 := Aside0.mk hy320
                              clear hy320
                              have H' := Aside0.mk H
                              clear H
                              obtain ⟨Ao45, co45, eo45⟩ := Kd.R_slice HO_11.out
                              subst eo45
                              have p318 : 0 ≤ ((ji37) : Int) := of_decide_eq_true (by first | (with_reducible assumption) | assumption)
                              have q318 : (ji37) < (x11_1.length : Int) := of_decide_eq_true (by first | (with_reducible assumption) | assumption)
                              obtain ⟨ad318, e318, hx318_0, hx318_1⟩ := at_T45 (Kd.R_reads' HO_11.out).2.2 (ji37) p318 q318
                              cases e318
                              replace p318 := eq_true p318
                              replace q318 := eq_true q318
                              have p319 : 0 ≤ (x12_1 : Int) := of_decide_eq_true (by first | (with_reducible assumption) | assumption)
                              have q319 : x12_1 < (t298.length : Int) := of_decide_eq_true (by first | (with_reducible assumption) | assumption)
                              obtain ⟨ad319, e319, hx319_0⟩ := Kd.at_int (Kd.R_reads' HO_10.out).2.2 x12_1 p319 q319
                              obtain rfl : ad301 = ad319 := (by injection e319)
                              replace p319 := eq_true p319
                              replace q319 := eq_true q319
                              go_wp2_with (first | ((with_reducible refine gate_builtin (b := .append) (xs := #[.tmp 61, .tmp 68]) rfl ?_); (try (refine gate_guard (by rfl) ?_; dsimp only)); at_builtin; refine Kd.R_append k45 (w0 := w0) w0.heap.size rfl (.tmp 61) (.tmp 68) 22 45 (.agg #[(.int .i64 0), (.int .i64 0)]) 16 rfl Try.underlying22 info45 rfl (by decide) (by omega) (.slice (some ad318) x11_1.length co45) x11_1 (⟨rd t298 x12_1, t302⟩ : S45) [.int .i64 (rd t298 x12_1), .int .i64 t302] (fun k_ => (P0_ k_ ∨ w.heap.size ≤ k_) ∧ some k_ ≠ (.slice Ao6 l0.length co6 : Value).ownBlock) (fun _ => False) rfl rfl ?aP (fun _ hk => hk.elim) ?aF ?aO ?aB ?aS ?aL ?_; (case aP => exact k45_mkM _ _ _ (⟨rd t298 x12_1, t302⟩ : S45)); (case aB => exact (by repeat (first | (with_reducible first | exact HB.out | apply below_alloc | apply pw_below_drewN | apply below_drew1) | exact HB.out))); (case aF => exact (fun k_ hk => ⟨(.inr (Nat.le_trans (by first | exact HK.out.1 | exact (show Kept w _ (fun k_ => P0_ k_) from by repeat (first | (with_reducible first | exact HK.out | apply Kept.alloc | apply Kept.drewN | apply Kept.drew) | exact HK.out)).1) hk)), Kd.fresh' (Kd.R_lt (by (with_reducible repeat (first | apply Kd.R_alloc | apply Kd.R_drewN | apply Kd.R_drew)); exact HO_0.out)) k_ hk⟩)); (case aO => exact (by (with_reducible repeat (first | apply Kd.R_alloc | apply Kd.R_drewN | apply Kd.R_drew)); exact HO_11.out)); (case aS => exact (below_size (by repeat (first | (with_reducible first | exact HB.out | apply below_alloc | apply pw_below_drewN | apply below_drew1) | exact HB.out)))); (case aL => have := LMc44.out; omega); intro v321 w46 ho hb hg hat; rw [← Ny320.out] at ho; have n0_ := Aside0.mk (Kd.R_after (ok := (fun k_ => (P0_ k_ ∨ w.heap.size ≤ k_))) (by (with_reducible repeat (first | apply Kd.R_alloc | apply Kd.R_drewN | apply Kd.R_drew)); exact HO_0.out) hg hat); have n1_ := Aside0.mk (Kd.R_over' (by (with_reducible repeat (first | apply Kd.R_alloc | apply Kd.R_drewN | apply Kd.R_drew)); exact HO_10.out) (Kd.R_typed (by (with_reducible repeat (first | apply Kd.R_alloc | apply Kd.R_drewN | apply Kd.R_drew)); exact HO_11.out)) (by decide) hg); have n2_ := Aside0.mk (hb); have n3_ := Aside0.mk (Kept.of_grown (S := (fun k_ => P0_ k_)) hg (by repeat (first | (with_reducible first | exact HK.out | apply Kept.alloc | apply Kept.drewN | apply Kept.drew) | exact HK.out)) (fun k_ e_ => (HO_11.out.1 k_ e_).1)); have n4_ := Aside0.mk (ho); clear HO_0; clear HO_10; clear HB; clear HK; clear HO_11; have HO_0 := n0_; have HO_10 := n1_; have HB := n2_; have HK := n3_; have HO322 := n4_; clear n0_ n1_ n2_ n3_ n4_; clear ho hb hg hat))
                              go_roundg kj10
                              case measure => have := HK1.out; have := HJ10.out; omega
                              case rel => exact ⟨(y320), (wrap64 (x12_1 + 1)), (by first | rfl | (simp; done) | (simp [*]; done)), H', ⟨by have := HK1.out; have := HJ10.out; omega⟩, ⟨by (with_reducible repeat (first | apply Kd.R_alloc | apply Kd.R_drewN | apply Kd.R_drew)); exact HO_0.out⟩, ⟨by (with_reducible repeat (first | apply Kd.R_alloc | apply Kd.R_drewN | apply Kd.R_drew)); exact HO_10.out⟩, ⟨by (with_reducible repeat (first | apply Kd.R_alloc | apply Kd.R_drewN | apply Kd.R_drew)); exact HO322.out⟩, ⟨by repeat (first | (with_reducible first | exact HK.out | apply Kept.alloc | apply Kept.drewN | apply Kept.drew) | exact HK.out)⟩, ⟨by repeat (first | (with_reducible first | exact HB.out | apply below_alloc | apply pw_below_drewN | apply below_drew1) | exact HB.out)⟩⟩
                            · rw [if_neg c44] at H
                              exact absurd H (by simp)
                          · rw [if_neg c43] at H
                            exact absurd H (by simp)
                        · rw [if_neg c42] at H
                          exact absurd H (by simp)
                    · rw [if_neg c39] at H
                      exact absurd H (by simp)
                  · rw [if_neg c38] at H
                    exact absurd H (by simp)
        · rw [if_neg c9] at H
          exact absurd H (by simp)
      · rw [if_neg c8] at H
        have c8b0 : decide (x12_1 < (t298.length : Int)) = false := decide_eq_false c8
        clear c8
        by_cases c47 : (x11_1.length : Int) > 1024
        · rw [if_pos c47] at H
          have c47b0 : decide (1024 < (x11_1.length : Int)) = true := decide_eq_true c47
          have c47b1 : decide (1024 < x11_1.length) = true := decide_eq_true (by omega)
          clear c47
          simp only [Option.some.injEq, Prod.mk.injEq] at H
          obtain ⟨rfl, rfl⟩ := H
          obtain ⟨Ao48, co48, eo48⟩ := Kd.R_slice HO_10.out
          subst eo48
          obtain ⟨Ao49, co49, eo49⟩ := Kd.R_slice HO_11.out
          subst eo49
          go_wp2
          go_ret2
          exact ⟨_, by first | rfl | (simp [errW_none, errW_some] <;> rfl) | (simp [*, errW_none, errW_some] <;> rfl), by (with_reducible repeat (first | apply Kd.R_alloc | apply Kd.R_drewN | apply Kd.R_drew)); exact Kd.R_mono HO_0.out (fun _ hk => hk.1), by repeat (first | (with_reducible first | exact HB.out | apply below_alloc | apply pw_below_drewN | apply below_drew1) | exact HB.out), by repeat (first | (with_reducible first | exact HK.out | apply Kept.alloc | apply Kept.drewN | apply Kept.drew) | exact HK.out)⟩
        · rw [if_neg c47] at H
          have c47b0 : decide (1024 < (x11_1.length : Int)) = false := decide_eq_false c47
          have c47b1 : decide (1024 < x11_1.length) = false := decide_eq_false (by omega)
          clear c47
          simp only [Option.some.injEq, Prod.mk.injEq] at H
          obtain ⟨rfl, rfl⟩ := H
          obtain ⟨Ao50, co50, eo50⟩ := Kd.R_slice HO_10.out
          subst eo50
          obtain ⟨Ao51, co51, eo51⟩ := Kd.R_slice HO_11.out
          subst eo51
          go_wp2
          go_ret2
          exact ⟨_, by first | rfl | (simp [errW_none, errW_some] <;> rfl) | (simp [*, errW_none, errW_some] <;> rfl), by (with_reducible repeat (first | apply Kd.R_alloc | apply Kd.R_drewN | apply Kd.R_drew)); exact Kd.R_mono HO_11.out (fun _ hk => hk.1), by repeat (first | (with_reducible first | exact HB.out | apply below_alloc | apply pw_below_drewN | apply below_drew1) | exact HB.out), by repeat (first | (with_reducible first | exact HK.out | apply Kept.alloc | apply Kept.drewN | apply Kept.drew) | exact HK.out)⟩

end Go.Proofs.Ytimllhflecippaa.F
