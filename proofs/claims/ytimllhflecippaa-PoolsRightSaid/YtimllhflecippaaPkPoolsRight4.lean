/- The texts of the law PoolsRight, without what it does not use, laid together: part 4. -/
import Derived.Test.YtimllhflecippaaPkPoolsRight1
import Derived.Test.YtimllhflecippaaPkPoolsRight2
import Derived.Test.YtimllhflecippaaPkPoolsRight3
import Derived.Test.YtimllhflecippaaProg
import Derived.WalkSpells
import Derived.Below
import Derived.Deep.Draws
import Derived.Deep.AppendLies
import Derived.Maps.AppendAt
import Derived.OwnWalk
import Derived.Laws.BytesArg
import Derived.Laws.MakeOwn
import Derived.Laws.OwnMore
import Derived.Deep.OwnRows
import Derived.Tactics
import Derived.Lib.ConvBytes
import Derived.Laws.Slices
import Derived.WalkKit
import Derived.KernelRfl
import Derived.RowKit3
import Derived.Deep.LoopGhost
import Derived.Deep.QuietTactic
import Derived.BigQuiet
import Derived.WideLaws
import Derived.Deep.DeepCutAuto
import Derived.Deep.CutBlock
import Derived.Deep.RegionHeld3
import Derived.Laws.Rows
import Derived.Lib.AppendStr
import Derived.ArgAppend
import Derived.Laws.IdiomCopy
import Derived.RowKit
import Derived.OrdersHeld
import Derived.Laws.BitsLemmas
import Derived.Laws.StructEq
import Derived.Laws.Strings

section
namespace Go.Proofs.Ytimllhflecippaa.F
open Go.RowKit Go.Proofs.YtimllhflecippaaW.PrintWords Go.Proofs.YtimllhflecippaaW.PrintLast Go.Proofs.YtimllhflecippaaW.PrintMore
attribute [local go_sem] max2_int min2_int max_two min_two
set_option linter.unusedVariables false
set_option linter.unusedSimpArgs false

mutual
def pools_First.j0 : Nat → List (List (S45)) → Int → Int → List Int → Bool → Option (Int × Bool)
 | 0, _, _, _, _, _ => none
 | k + 1, x0, x1, x2, x3, x25 => if x25 = true then (some (0, false)) else (pools_First.l0 k x0 x2 x3 x1)
def pools_First.l0 : Nat → List (List (S45)) → Int → List Int → Int → Option (Int × Bool)
 | 0, _, _, _, _ => none
 | k + 1, x0, x2, x3, x10 => pools_First.l1 k x0 x2 x3 x10 x10 x0 (x0.length : Int) 0
def pools_First.l1 : Nat → List (List (S45)) → Int → List Int → Int → Int → List (List (S45)) → Int → Int → Option (Int × Bool)
 | 0, _, _, _, _, _, _, _, _ => none
 | k + 1, x0, x2, x3, x10, x11, x28, x29, x30 => if x30 < x29 then (if 0 ≤ x30 then (if x30 < (x28.length : Int) then (if x30 < (x3.length : Int) then ((step_First.f k (rd_L2 x28 x30) x10 x2 (rd x3 x30)).bind fun bt387 => (if bt387.2 = true then (pools_First.l1 k x0 x2 x3 x10 (mx x11 bt387.1) x28 x29 (wrap64 (x30 + 1))) else (some (0, false)))) else (none)) else (none)) else (none)) else (if x11 = x10 then (some (x10, true)) else (pools_First.l0 k x0 x2 x3 x11))
end
def pools_First.f (k : Nat) (l0 : List (List (S45))) (a1 : Int) (a2 : Int) (l3 : List Int) : Option (Int × Bool) := (pools_Right.f k l0).bind fun t384 => (if t384 = true then (pools_First.j0 k l0 a1 a2 l3 ((l3.length : Int) != (l0.length : Int))) else (pools_First.j0 k l0 a1 a2 l3 true))
theorem pools_First.mono_l : ∀ k, (∀ y0 y1 y2 y3 y4, LeO (pools_First.j0 k y0 y1 y2 y3 y4) (pools_First.j0 (k + 1) y0 y1 y2 y3 y4)) ∧ (∀ y0 y1 y2 y3, LeO (pools_First.l0 k y0 y1 y2 y3) (pools_First.l0 (k + 1) y0 y1 y2 y3)) ∧ (∀ y0 y1 y2 y3 y4 y5 y6 y7, LeO (pools_First.l1 k y0 y1 y2 y3 y4 y5 y6 y7) (pools_First.l1 (k + 1) y0 y1 y2 y3 y4 y5 y6 y7))
 | 0 => ⟨fun _ _ _ _ _ r h => by simp [pools_First.j0] at h, fun _ _ _ _ r h => by simp [pools_First.l0] at h, fun _ _ _ _ _ _ _ _ r h => by simp [pools_First.l1] at h⟩
 | k + 1 => by
  obtain ⟨ih0, ih1, ih2⟩ := pools_First.mono_l k
  refine ⟨?_, ?_, ?_⟩
  ·intro y0 y1 y2 y3 y4
   unfold pools_First.j0
   repeat' first
   | (with_reducible exact ih0 _ _ _ _ _)
   | (with_reducible exact ih1 _ _ _ _)
   | (with_reducible exact ih2 _ _ _ _ _ _ _ _)
   | (with_reducible exact pools_Right.mono _ _)
   | (with_reducible exact step_First.mono _ _ _ _ _)
   | (with_reducible exact LeO.refl _)
   | (with_reducible exact LeO.none _)
   | (with_reducible refine LeO.ite ?_ ?_)
   | (with_reducible refine LeO.bind ?_ (fun _ => ?_))
   | exact ih0 _ _ _ _ _
   | exact ih1 _ _ _ _
   | exact ih2 _ _ _ _ _ _ _ _
   | exact pools_Right.mono _ _
   | exact step_First.mono _ _ _ _ _
   | exact LeO.none _
   | refine LeO.ite ?_ ?_
   | refine LeO.bind ?_ (fun _ => ?_)
  ·intro y0 y1 y2 y3
   unfold pools_First.l0
   repeat' first
   | (with_reducible exact ih0 _ _ _ _ _)
   | (with_reducible exact ih1 _ _ _ _)
   | (with_reducible exact ih2 _ _ _ _ _ _ _ _)
   | (with_reducible exact pools_Right.mono _ _)
   | (with_reducible exact step_First.mono _ _ _ _ _)
   | (with_reducible exact LeO.refl _)
   | (with_reducible exact LeO.none _)
   | (with_reducible refine LeO.ite ?_ ?_)
   | (with_reducible refine LeO.bind ?_ (fun _ => ?_))
   | exact ih0 _ _ _ _ _
   | exact ih1 _ _ _ _
   | exact ih2 _ _ _ _ _ _ _ _
   | exact pools_Right.mono _ _
   | exact step_First.mono _ _ _ _ _
   | exact LeO.none _
   | refine LeO.ite ?_ ?_
   | refine LeO.bind ?_ (fun _ => ?_)
  ·intro y0 y1 y2 y3 y4 y5 y6 y7
   unfold pools_First.l1
   repeat' first
   | (with_reducible exact ih0 _ _ _ _ _)
   | (with_reducible exact ih1 _ _ _ _)
   | (with_reducible exact ih2 _ _ _ _ _ _ _ _)
   | (with_reducible exact pools_Right.mono _ _)
   | (with_reducible exact step_First.mono _ _ _ _ _)
   | (with_reducible exact LeO.refl _)
   | (with_reducible exact LeO.none _)
   | (with_reducible refine LeO.ite ?_ ?_)
   | (with_reducible refine LeO.bind ?_ (fun _ => ?_))
   | exact ih0 _ _ _ _ _
   | exact ih1 _ _ _ _
   | exact ih2 _ _ _ _ _ _ _ _
   | exact pools_Right.mono _ _
   | exact step_First.mono _ _ _ _ _
   | exact LeO.none _
   | refine LeO.ite ?_ ?_
   | refine LeO.bind ?_ (fun _ => ?_)
theorem pools_First.mono : ∀ a0 a1 a2 a3 k, LeO (pools_First.f k a0 a1 a2 a3) (pools_First.f (k + 1) a0 a1 a2 a3) := by
 intro a0 a1 a2 a3 k
 obtain ⟨ih0, ih1, ih2⟩ := pools_First.mono_l k
 unfold pools_First.f
 repeat' first
   | (with_reducible exact ih0 _ _ _ _ _)
   | (with_reducible exact ih1 _ _ _ _)
   | (with_reducible exact ih2 _ _ _ _ _ _ _ _)
   | (with_reducible exact pools_Right.mono _ _)
   | (with_reducible exact step_First.mono _ _ _ _ _)
   | (with_reducible exact LeO.refl _)
   | (with_reducible exact LeO.none _)
   | (with_reducible refine LeO.ite ?_ ?_)
   | (with_reducible refine LeO.bind ?_ (fun _ => ?_))
   | exact ih0 _ _ _ _ _
   | exact ih1 _ _ _ _
   | exact ih2 _ _ _ _ _ _ _ _
   | exact pools_Right.mono _ _
   | exact step_First.mono _ _ _ _ _
   | exact LeO.none _
   | refine LeO.ite ?_ ?_
   | refine LeO.bind ?_ (fun _ => ?_)
set_option maxHeartbeats 8000000 in
set_option maxRecDepth 100000 in
theorem pools_First.calls (k : Nat) (A0 : Option Addr) (c0 : Nat) (l0 : List (List (S45))) (a1 : Int) (a2 : Int) (A3 : Option Addr) (c3 : Nat) (l3 : List Int) (r1 : Int) (r2 : Bool) (w : World) (hr0 : Kd.C (Kd.slice 45 k45) w A0 l0.length l0) (hc0 : l0.length ≤ c0) (hr3 : Kd.C (Kd.int .i64) w A3 l3.length l3) (hc3 : l3.length ≤ c3) (h : pools_First.f k l0 a1 a2 l3 = some (r1, r2)) :
  Calls Try.prog 40 #[.slice A0 l0.length c0, .int .i64 a1, .int .i64 a2, .slice A3 l3.length c3] w fun e w' => e = .returned (.tuple #[.int .i64 r1, .bool r2]) ∧ Below w.heap.size w w' := by
 have HR0 := Aside0.mk hr0
 have HC0 := Aside0.mk hc0
 clear hr0 hc0
 have HR3 := Aside0.mk hr3
 have HC3 := Aside0.mk hc3
 clear hr3 hc3
 have HB := Aside0.mk (Below.refl w.heap.size w)
 have H : ((pools_Right.f k l0).bind fun t384 => (if t384 = true then (pools_First.j0 k l0 a1 a2 l3 ((l3.length : Int) != (l0.length : Int))) else (pools_First.j0 k l0 a1 a2 l3 true))) = some (r1, r2) := h
 clear h
 have HC5 := Aside0.mk H
 clear H
 go_enter Try.func40, Try.ntmps40
 go_upto_region 1 with (fail)
 go_cut [25] (fun v25 wc => ∃ (kq : Nat) (x25_4 : Bool), v25 = .bool x25_4 ∧ Aside0 (pools_First.j0 kq l0 a1 a2 l3 x25_4 = some (r1, r2)) ∧ Aside0 (kq ≤ k) ∧ Aside0 (Below w.heap.size w wc))
 case first =>
  have H := HC5.out
  clear HC5
  replace H := Option.bind_eq_some_iff.mp H
  obtain ⟨t384, A60, H⟩ := H
  replace H : (if t384 = true then (pools_First.j0 k l0 a1 a2 l3 ((l3.length : Int) != (l0.length : Int))) else (pools_First.j0 k l0 a1 a2 l3 true)) = some (r1, r2) := H
  have A6 := Aside0.mk A60
  clear A60
  by_cases c7 : t384 = true
  ·subst c7
   have H1 : (pools_First.j0 k l0 a1 a2 l3 ((l3.length : Int) != (l0.length : Int))) = some (r1, r2) := by rw [if_pos rfl] at H; exact H
   clear H
   have H := H1
   clear H1
   have H' := Aside0.mk H
   clear H
   go_wp2_with (first | ((with_reducible refine gate_callee (f := 36) rfl ?_); refine goesL_ (some 17) rfl rfl Try.func36 (by kernel_rfl) rfl #[.slice A0 l0.length c0] rfl (by (try simp only [List.map_toArray, List.map_cons, List.map_nil]); first | done | rfl | (simp only [List.length_drop, List.length_take]; rfl)) ?_; (with_reducible refine (pools_Right.calls k _ _ l0 true _ ?side1 ?side2 A6.out).mono ?_); (case side1 => repeat (first | exact (Kd.C_below HR0.out HB.out) | (with_reducible refine Kd.C_alloc ?_ _) | (with_reducible refine Kd.C_drewN ?_ _) | (with_reducible refine Kd.C_drew ?_))); (case side2 => exact HC0.out); rintro e w8 ⟨rfl, hb⟩; refine ⟨_, rfl, ?_⟩; have n0_ := Aside0.mk (below_step (by repeat (first | (with_reducible first | exact HB.out | apply below_alloc | apply pw_below_drewN | apply below_drew1) | exact HB.out)) hb); clear HB; have HB := n0_; clear n0_; (try clear hb); (try clear hb2); (try clear hk); (try clear hi)))
   go_meet
   case rel => exact ⟨_, (((l3.length : Int) != (l0.length : Int))), (by first | rfl | (simp; done) | (simp [*]; done)), H', ⟨by first | omega | exact Nat.le_refl _⟩, ⟨by repeat (first | (with_reducible first | exact HB.out | apply below_alloc | apply pw_below_drewN | apply below_drew1) | exact HB.out)⟩⟩
  ·replace c7 := Bool.eq_false_iff.mpr c7
   subst c7
   have H1 : (pools_First.j0 k l0 a1 a2 l3 true) = some (r1, r2) := by rw [if_neg (show ¬ (false = true) by decide)] at H; exact H
   clear H
   have H := H1
   clear H1
   have H' := Aside0.mk H
   clear H
   go_wp2_with (first | ((with_reducible refine gate_callee (f := 36) rfl ?_); refine goesL_ (some 17) rfl rfl Try.func36 (by kernel_rfl) rfl #[.slice A0 l0.length c0] rfl (by (try simp only [List.map_toArray, List.map_cons, List.map_nil]); first | done | rfl | (simp only [List.length_drop, List.length_take]; rfl)) ?_; (with_reducible refine (pools_Right.calls k _ _ l0 false _ ?side1 ?side2 A6.out).mono ?_); (case side1 => repeat (first | exact (Kd.C_below HR0.out HB.out) | (with_reducible refine Kd.C_alloc ?_ _) | (with_reducible refine Kd.C_drewN ?_ _) | (with_reducible refine Kd.C_drew ?_))); (case side2 => exact HC0.out); rintro e w9 ⟨rfl, hb⟩; refine ⟨_, rfl, ?_⟩; have n0_ := Aside0.mk (below_step (by repeat (first | (with_reducible first | exact HB.out | apply below_alloc | apply pw_below_drewN | apply below_drew1) | exact HB.out)) hb); clear HB; have HB := n0_; clear n0_; (try clear hb); (try clear hb2); (try clear hk); (try clear hi)))
   go_meet
   case rel => exact ⟨_, (true), (by first | rfl | (simp; done) | (simp [*]; done)), H', ⟨by first | omega | exact Nat.le_refl _⟩, ⟨by repeat (first | (with_reducible first | exact HB.out | apply below_alloc | apply pw_below_drewN | apply below_drew1) | exact HB.out)⟩⟩
 case rest =>
  clear HC5
  try clear p2
  try clear c3
  try clear c4
  try clear c7
  obtain ⟨kq, x25_4, rfl, HA, HJ4, HB⟩ := hcut
  cases kq with
  | zero => exact absurd HA.out (by simp [pools_First.j0])
  | succ kj4 =>
   have H := HA.out
   clear HA
   simp only [pools_First.j0] at H
   by_cases c10 : x25_4 = true
   ·subst c10
    have H1 : (some (0, false)) = some (r1, r2) := by rw [if_pos rfl] at H; exact H
    clear H
    have H := H1
    clear H1
    simp only [Option.some.injEq, Prod.mk.injEq] at H
    obtain ⟨rfl, rfl⟩ := H
    go_wp2
    go_ret2
    exact ⟨by first | rfl | (simp [errW_none, errW_some] <;> rfl) | (simp [*, errW_none, errW_some] <;> rfl), by repeat (first | (with_reducible first | exact HB.out | apply below_alloc | apply pw_below_drewN | apply below_drew1) | exact HB.out)⟩
   ·replace c10 := Bool.eq_false_iff.mpr c10
    subst c10
    have H1 : (pools_First.l0 kj4 l0 a2 l3 a1) = some (r1, r2) := by rw [if_neg (show ¬ (false = true) by decide)] at H; exact H
    clear H
    have H := H1
    clear H1
    have H' := Aside0.mk H
    clear H
    go_wp2
    go_loopg [10] kj4 (fun kq v10 w' => ∃ (x10_2 : Int), v10 = .int .i64 x10_2 ∧ Aside0 (pools_First.l0 kq l0 a2 l3 x10_2 = some (r1, r2)) ∧ Aside0 (kq ≤ kj4) ∧ Aside0 (Below w.heap.size w w'))
    case atStart => exact ⟨(a1), (by first | rfl | (simp; done) | (simp [*]; done)), H', ⟨Nat.le_refl _⟩, ⟨by repeat (first | (with_reducible first | exact HB.out | apply below_alloc | apply pw_below_drewN | apply below_drew1) | exact HB.out)⟩⟩
    case round =>
     clear H'
     try clear c1
     try clear p2
     try clear c3
     try clear c4
     try clear c7
     try clear c10
     try clear p2
     obtain ⟨x10_2, rfl, HA, HK2, HB⟩ := hrel
     cases gk with
     | zero => exact absurd HA.out (by simp [pools_First.l0])
     | succ k2 =>
      have H := HA.out
      clear HA
      simp only [pools_First.l0] at H
      have H' := Aside0.mk H
      clear H
      go_wp2
      go_loopg [11, 30] k2 (fun kq v11 v30 w' => ∃ (x11_3 : Int) (x30_3 : Int), v11 = .int .i64 x11_3 ∧ v30 = .int .i64 x30_3 ∧ Aside0 (pools_First.l1 kq l0 a2 l3 x10_2 x11_3 l0 (l0.length : Int) x30_3 = some (r1, r2)) ∧ Aside0 (kq ≤ k2) ∧ Aside0 (Below w.heap.size w w'))
      case atStart => exact ⟨(x10_2), (0), (by first | rfl | (simp; done) | (simp [*]; done)), (by first | rfl | (simp; done) | (simp [*]; done)), H', ⟨Nat.le_refl _⟩, ⟨by repeat (first | (with_reducible first | exact HB.out | apply below_alloc | apply pw_below_drewN | apply below_drew1) | exact HB.out)⟩⟩
      case round =>
       clear H'
       try clear c1
       try clear p2
       try clear c3
       try clear c4
       try clear c7
       try clear c10
       try clear p2
       obtain ⟨x11_3, x30_3, rfl, rfl, HA, HK3, HB⟩ := hrel
       cases gk with
       | zero => exact absurd HA.out (by simp [pools_First.l1])
       | succ k3 =>
        have H := HA.out
        clear HA
        simp only [pools_First.l1] at H
        by_cases c11 : x30_3 < (l0.length : Int)
        ·rw [if_pos c11] at H
         have c11b0 : decide (x30_3 < (l0.length : Int)) = true := decide_eq_true c11
         clear c11
         by_cases c12 : 0 ≤ x30_3
         ·rw [if_pos c12] at H
          have c12b0 : decide (0 ≤ x30_3) = true := decide_eq_true c12
          clear c12
          by_cases c13 : x30_3 < (l0.length : Int)
          ·rw [if_pos c13] at H
           have c13b0 : decide (x30_3 < (l0.length : Int)) = true := decide_eq_true c13
           clear c13
           by_cases c14 : x30_3 < (l3.length : Int)
           ·rw [if_pos c14] at H
            have c14b0 : decide (x30_3 < (l3.length : Int)) = true := decide_eq_true c14
            clear c14
            replace H := Option.bind_eq_some_iff.mp H
            obtain ⟨⟨t387, t388⟩, A150, H⟩ := H
            replace H : (if t388 = true then (pools_First.l1 k3 l0 a2 l3 x10_2 (mx x11_3 t387) l0 (l0.length : Int) (wrap64 (x30_3 + 1))) else (some (0, false))) = some (r1, r2) := H
            have A15 := Aside0.mk A150
            clear A150
            by_cases c16 : t388 = true
            ·subst c16
             have H1 : (pools_First.l1 k3 l0 a2 l3 x10_2 (mx x11_3 t387) l0 (l0.length : Int) (wrap64 (x30_3 + 1))) = some (r1, r2) := by rw [if_pos rfl] at H; exact H
             clear H
             have H := H1
             clear H1
             obtain ⟨ji17, hji17⟩ : ∃ j_ : Int, (mx x11_3 t387) = j_ := ⟨_, rfl⟩
             replace H : (pools_First.l1 k3 l0 a2 l3 x10_2 ji17 l0 (l0.length : Int) (wrap64 (x30_3 + 1))) = some (r1, r2) := by first | (rw [hji17] at H; exact H) | (simp only [hji17] at H ⊢; exact H)
             (try rw [hji17] at A15)
             have hji17_ : (if x11_3 < t387 then t387 else x11_3) = ji17 := hji17
             have H' := Aside0.mk H
             clear H
             have p385 : 0 ≤ (x30_3 : Int) := of_decide_eq_true (by first | (with_reducible assumption) | assumption)
             have q385 : x30_3 < (l0.length : Int) := of_decide_eq_true (by first | (with_reducible assumption) | assumption)
             obtain ⟨ad385, A385_0, c385_0, e385, hx385_0, hl385_0, hi385_0⟩ := at_L2 HR0.out x30_3 p385 q385
             cases e385
             replace hx385_0 := (HB.out.cell (World.block_lt_of_cell? w _ hx385_0)).trans hx385_0
             have HR385_0 := Aside0.mk hi385_0
             have HC385_0 := Aside0.mk hl385_0
             clear hi385_0 hl385_0
             replace p385 := eq_true p385
             replace q385 := eq_true q385
             have p386 : 0 ≤ (x30_3 : Int) := of_decide_eq_true (by first | (with_reducible assumption) | assumption)
             have q386 : x30_3 < (l3.length : Int) := of_decide_eq_true (by first | (with_reducible assumption) | assumption)
             obtain ⟨ad386, e386, hx386_0⟩ := Kd.at_int HR3.out x30_3 p386 q386
             cases e386
             replace hx386_0 := (HB.out.cell (World.block_lt_of_cell? w _ hx386_0)).trans hx386_0
             replace p386 := eq_true p386
             replace q386 := eq_true q386
             go_wp2_with (first | ((with_reducible refine gate_callee (f := 15) rfl ?_); refine goesL_ (some 43) rfl rfl Try.func15 (by kernel_rfl) rfl #[.slice A385_0 (rd_L2 l0 x30_3).length c385_0, .int .i64 x10_2, .int .i64 a2, .int .i64 (rd l3 x30_3)] rfl (by (try simp only [List.map_toArray, List.map_cons, List.map_nil]); first | done | rfl | (simp only [List.length_drop, List.length_take]; rfl)) ?_; (with_reducible refine (step_First.calls k3 _ _ (rd_L2 l0 x30_3) x10_2 a2 (rd l3 x30_3) t387 true _ ?side1 ?side2 A15.out).mono ?_); (case side1 => repeat (first | exact (Kd.C_below HR385_0.out HB.out) | (with_reducible refine Kd.C_alloc ?_ _) | (with_reducible refine Kd.C_drewN ?_ _) | (with_reducible refine Kd.C_drew ?_))); (case side2 => exact HC385_0.out); rintro e w18 ⟨rfl, hb⟩; refine ⟨_, rfl, ?_⟩; have n0_ := Aside0.mk (below_step (by repeat (first | (with_reducible first | exact HB.out | apply below_alloc | apply pw_below_drewN | apply below_drew1) | exact HB.out)) hb); clear HB; have HB := n0_; clear n0_; (try clear hb); (try clear hb2); (try clear hk); (try clear hi)))
             go_roundg k3
             case measure => have := HJ4.out; have := HK2.out; have := HK3.out; omega
             case rel => exact ⟨(ji17), (wrap64 (x30_3 + 1)), (by first | rfl | (simp; done) | (simp only [← hji17] <;> (first | rfl | simp)) | (simp [*]; done)), (by first | rfl | (simp; done) | (simp [*]; done)), H', ⟨by have := HJ4.out; have := HK2.out; have := HK3.out; omega⟩, ⟨by repeat (first | (with_reducible first | exact HB.out | apply below_alloc | apply pw_below_drewN | apply below_drew1) | exact HB.out)⟩⟩
            ·replace c16 := Bool.eq_false_iff.mpr c16
             subst c16
             have H1 : (some (0, false)) = some (r1, r2) := by rw [if_neg (show ¬ (false = true) by decide)] at H; exact H
             clear H
             have H := H1
             clear H1
             simp only [Option.some.injEq, Prod.mk.injEq] at H
             obtain ⟨rfl, rfl⟩ := H
             have p385 : 0 ≤ (x30_3 : Int) := of_decide_eq_true (by first | (with_reducible assumption) | assumption)
             have q385 : x30_3 < (l0.length : Int) := of_decide_eq_true (by first | (with_reducible assumption) | assumption)
             obtain ⟨ad385, A385_0, c385_0, e385, hx385_0, hl385_0, hi385_0⟩ := at_L2 HR0.out x30_3 p385 q385
             cases e385
             replace hx385_0 := (HB.out.cell (World.block_lt_of_cell? w _ hx385_0)).trans hx385_0
             have HR385_0 := Aside0.mk hi385_0
             have HC385_0 := Aside0.mk hl385_0
             clear hi385_0 hl385_0
             replace p385 := eq_true p385
             replace q385 := eq_true q385
             have p386 : 0 ≤ (x30_3 : Int) := of_decide_eq_true (by first | (with_reducible assumption) | assumption)
             have q386 : x30_3 < (l3.length : Int) := of_decide_eq_true (by first | (with_reducible assumption) | assumption)
             obtain ⟨ad386, e386, hx386_0⟩ := Kd.at_int HR3.out x30_3 p386 q386
             cases e386
             replace hx386_0 := (HB.out.cell (World.block_lt_of_cell? w _ hx386_0)).trans hx386_0
             replace p386 := eq_true p386
             replace q386 := eq_true q386
             go_wp2_with (first | ((with_reducible refine gate_callee (f := 15) rfl ?_); refine goesL_ (some 43) rfl rfl Try.func15 (by kernel_rfl) rfl #[.slice A385_0 (rd_L2 l0 x30_3).length c385_0, .int .i64 x10_2, .int .i64 a2, .int .i64 (rd l3 x30_3)] rfl (by (try simp only [List.map_toArray, List.map_cons, List.map_nil]); first | done | rfl | (simp only [List.length_drop, List.length_take]; rfl)) ?_; (with_reducible refine (step_First.calls k3 _ _ (rd_L2 l0 x30_3) x10_2 a2 (rd l3 x30_3) t387 false _ ?side1 ?side2 A15.out).mono ?_); (case side1 => repeat (first | exact (Kd.C_below HR385_0.out HB.out) | (with_reducible refine Kd.C_alloc ?_ _) | (with_reducible refine Kd.C_drewN ?_ _) | (with_reducible refine Kd.C_drew ?_))); (case side2 => exact HC385_0.out); rintro e w19 ⟨rfl, hb⟩; refine ⟨_, rfl, ?_⟩; have n0_ := Aside0.mk (below_step (by repeat (first | (with_reducible first | exact HB.out | apply below_alloc | apply pw_below_drewN | apply below_drew1) | exact HB.out)) hb); clear HB; have HB := n0_; clear n0_; (try clear hb); (try clear hb2); (try clear hk); (try clear hi)))
             go_ret2
             exact ⟨by first | rfl | (simp [errW_none, errW_some] <;> rfl) | (simp [*, errW_none, errW_some] <;> rfl), by repeat (first | (with_reducible first | exact HB.out | apply below_alloc | apply pw_below_drewN | apply below_drew1) | exact HB.out)⟩
           ·rw [if_neg c14] at H
            exact absurd H (by simp)
          ·rw [if_neg c13] at H
           exact absurd H (by simp)
         ·rw [if_neg c12] at H
          exact absurd H (by simp)
        ·rw [if_neg c11] at H
         have c11b0 : decide (x30_3 < (l0.length : Int)) = false := decide_eq_false c11
         clear c11
         by_cases c20 : x11_3 = x10_2
         ·rw [if_pos c20] at H
          have c20b0 : (x11_3 == x10_2) = true := beq_iff_eq.mpr c20
          have c20b1 : (x11_3 != x10_2) = false := bne_eq_false_iff_eq.mpr c20
          clear c20
          simp only [Option.some.injEq, Prod.mk.injEq] at H
          obtain ⟨rfl, rfl⟩ := H
          go_wp2
          go_ret2
          exact ⟨by first | rfl | (simp [errW_none, errW_some] <;> rfl) | (simp [*, errW_none, errW_some] <;> rfl), by repeat (first | (with_reducible first | exact HB.out | apply below_alloc | apply pw_below_drewN | apply below_drew1) | exact HB.out)⟩
         ·rw [if_neg c20] at H
          have c20b0 : (x11_3 == x10_2) = false := beq_eq_false_iff_ne.mpr c20
          have c20b1 : (x11_3 != x10_2) = true := bne_iff_ne.mpr c20
          have H' := Aside0.mk H
          clear H
          go_wp2
          go_roundg k3
          case measure => have := HJ4.out; have := HK2.out; have := HK3.out; omega
          case rel => exact ⟨(x11_3), (by first | rfl | (simp; done) | (simp [*]; done)), H', ⟨by have := HJ4.out; have := HK2.out; have := HK3.out; omega⟩, ⟨by repeat (first | (with_reducible first | exact HB.out | apply below_alloc | apply pw_below_drewN | apply below_drew1) | exact HB.out)⟩⟩

end Go.Proofs.Ytimllhflecippaa.F
end

section
namespace Go.Proofs.Ytimllhflecippaa.F
open Go.RowKit Go.Proofs.YtimllhflecippaaW.PrintWords Go.Proofs.YtimllhflecippaaW.PrintLast Go.Proofs.YtimllhflecippaaW.PrintMore
attribute [local go_sem] max2_int min2_int max_two min_two
set_option linter.unusedVariables false
set_option linter.unusedSimpArgs false

mutual
def step_Give.j0 : Nat → List (S45) → Int → Int → Int → Bool → Option ((List (S45)) × Int)
 | 0, _, _, _, _, _ => none
 | k + 1, x0, x1, x2, x3, x20 => if x20 = true then ((slices_Clone_api_Step_api_Step.f x0).bind fun t309 => (some (t309, 1))) else ((step_place.f k x0 x1).bind fun t312 => (step_Give.l0 k x0 x1 x2 x3 t312))
def step_Give.l0 : Nat → List (S45) → Int → Int → Int → Int → Option ((List (S45)) × Int)
 | 0, _, _, _, _, _ => none
 | k + 1, x0, x1, x2, x3, x10 => if x10 < (x0.length : Int) then (if 0 ≤ x10 then (step_Give.j2 k x0 x1 x2 x3 x10 (decide (((rd_T45 x0 x10).f0) < x2))) else (none)) else (step_Give.j2 k x0 x1 x2 x3 x10 false)
def step_Give.j2 : Nat → List (S45) → Int → Int → Int → Int → Bool → Option ((List (S45)) × Int)
 | 0, _, _, _, _, _, _ => none
 | k + 1, x0, x1, x2, x3, x10, x38 => if x38 = true then (if 0 ≤ x10 then (if x10 < (x0.length : Int) then (if (wrap64 (((rd_T45 x0 x10).f1) + x3)) > 1048576 then ((slices_Clone_api_Step_api_Step.f x0).bind fun t315 => (some (t315, 9))) else (step_Give.l0 k x0 x1 x2 x3 (wrap64 (x10 + 1)))) else (none)) else (none)) else ((step_change.f x0 x1 x2 x3).bind fun bt318 => (some (bt318.1, bt318.2)))
end
def step_Give.f (k : Nat) (l0 : List (S45)) (a1 : Int) (a2 : Int) (a3 : Int) : Option ((List (S45)) × Int) := (step_may.f k l0 a1 a2).bind fun t307 => (if t307 = true then ((step_amount.f a3).bind fun t308 => (step_Give.j0 k l0 a1 a2 a3 (!t308))) else (step_Give.j0 k l0 a1 a2 a3 true))
set_option maxHeartbeats 8000000 in
set_option maxRecDepth 100000 in
theorem step_Give.calls (k : Nat) (A0 : Option Addr) (c0 : Nat) (l0 : List (S45)) (a1 : Int) (a2 : Int) (a3 : Int) (r1 : List (S45)) (r2 : Int) (w : World) (hr0 : Kd.C k45 w A0 l0.length l0) (hc0 : l0.length ≤ c0) (h : step_Give.f k l0 a1 a2 a3 = some (r1, r2)) :
  Calls Try.prog 25 #[.slice A0 l0.length c0, .int .i64 a1, .int .i64 a2, .int .i64 a3] w fun e w' => ∃ v0_ : Value, e = .returned (.tuple #[v0_, .int .i64 r2]) ∧ Kd.R k45 45 w' w.heap.size (fun _ => True) v0_ r1 ∧ Below w.heap.size w w' := by
 have HR0 := Aside0.mk hr0
 have HC0 := Aside0.mk hc0
 clear hr0 hc0
 have HB := Aside0.mk (Below.refl w.heap.size w)
 have H : ((step_may.f k l0 a1 a2).bind fun t307 => (if t307 = true then ((step_amount.f a3).bind fun t308 => (step_Give.j0 k l0 a1 a2 a3 (!t308))) else (step_Give.j0 k l0 a1 a2 a3 true))) = some (r1, r2) := h
 clear h
 have HC5 := Aside0.mk H
 clear H
 go_enter Try.func25, Try.ntmps25
 go_upto_region 1 with (fail)
 go_cut [20] (fun v20 wc => ∃ (kq : Nat) (x20_4 : Bool), v20 = .bool x20_4 ∧ Aside0 (step_Give.j0 kq l0 a1 a2 a3 x20_4 = some (r1, r2)) ∧ Aside0 (kq ≤ k) ∧ Aside0 (Below w.heap.size w wc))
 case first =>
  have H := HC5.out
  clear HC5
  replace H := Option.bind_eq_some_iff.mp H
  obtain ⟨t307, A60, H⟩ := H
  replace H : (if t307 = true then ((step_amount.f a3).bind fun t308 => (step_Give.j0 k l0 a1 a2 a3 (!t308))) else (step_Give.j0 k l0 a1 a2 a3 true)) = some (r1, r2) := H
  have A6 := Aside0.mk A60
  clear A60
  by_cases c7 : t307 = true
  ·subst c7
   have H1 : ((step_amount.f a3).bind fun t308 => (step_Give.j0 k l0 a1 a2 a3 (!t308))) = some (r1, r2) := by rw [if_pos rfl] at H; exact H
   clear H
   have H := H1
   clear H1
   replace H := Option.bind_eq_some_iff.mp H
   obtain ⟨t308, A80, H⟩ := H
   replace H : (step_Give.j0 k l0 a1 a2 a3 (!t308)) = some (r1, r2) := H
   have A8 := Aside0.mk A80
   clear A80
   have H' := Aside0.mk H
   clear H
   go_wp2_with (first | ((with_reducible refine gate_callee (f := 50) rfl ?_); refine goesL_ (some 14) rfl rfl Try.func50 (by kernel_rfl) rfl #[.slice A0 l0.length c0, .int .i64 a1, .int .i64 a2] rfl (by (try simp only [List.map_toArray, List.map_cons, List.map_nil]); first | done | rfl | (simp only [List.length_drop, List.length_take]; rfl)) ?_; (with_reducible refine (step_may.calls k _ _ l0 a1 a2 true _ ?side1 ?side2 A6.out).mono ?_); (case side1 => repeat (first | exact (Kd.C_below HR0.out HB.out) | (with_reducible refine Kd.C_alloc ?_ _) | (with_reducible refine Kd.C_drewN ?_ _) | (with_reducible refine Kd.C_drew ?_))); (case side2 => exact HC0.out); rintro e w9 ⟨rfl, hb⟩; refine ⟨_, rfl, ?_⟩; have n0_ := Aside0.mk (below_step (by repeat (first | (with_reducible first | exact HB.out | apply below_alloc | apply pw_below_drewN | apply below_drew1) | exact HB.out)) hb); clear HB; have HB := n0_; clear n0_; (try clear hb); (try clear hb2); (try clear hk); (try clear hi)) | (go_at_call 47; (with_reducible refine (step_amount.calls a3 t308 _ A8.out).mono ?_); rintro e w' ⟨rfl, ⟨nd, rfl⟩⟩))
   go_meet
   case rel => exact ⟨_, (!t308), (by first | rfl | (simp; done) | (simp [*]; done)), H', ⟨by first | omega | exact Nat.le_refl _⟩, ⟨by repeat (first | (with_reducible first | exact HB.out | apply below_alloc | apply pw_below_drewN | apply below_drew1) | exact HB.out)⟩⟩
  ·replace c7 := Bool.eq_false_iff.mpr c7
   subst c7
   have H1 : (step_Give.j0 k l0 a1 a2 a3 true) = some (r1, r2) := by rw [if_neg (show ¬ (false = true) by decide)] at H; exact H
   clear H
   have H := H1
   clear H1
   have H' := Aside0.mk H
   clear H
   go_wp2_with (first | ((with_reducible refine gate_callee (f := 50) rfl ?_); refine goesL_ (some 14) rfl rfl Try.func50 (by kernel_rfl) rfl #[.slice A0 l0.length c0, .int .i64 a1, .int .i64 a2] rfl (by (try simp only [List.map_toArray, List.map_cons, List.map_nil]); first | done | rfl | (simp only [List.length_drop, List.length_take]; rfl)) ?_; (with_reducible refine (step_may.calls k _ _ l0 a1 a2 false _ ?side1 ?side2 A6.out).mono ?_); (case side1 => repeat (first | exact (Kd.C_below HR0.out HB.out) | (with_reducible refine Kd.C_alloc ?_ _) | (with_reducible refine Kd.C_drewN ?_ _) | (with_reducible refine Kd.C_drew ?_))); (case side2 => exact HC0.out); rintro e w10 ⟨rfl, hb⟩; refine ⟨_, rfl, ?_⟩; have n0_ := Aside0.mk (below_step (by repeat (first | (with_reducible first | exact HB.out | apply below_alloc | apply pw_below_drewN | apply below_drew1) | exact HB.out)) hb); clear HB; have HB := n0_; clear n0_; (try clear hb); (try clear hb2); (try clear hk); (try clear hi)))
   go_meet
   case rel => exact ⟨_, (true), (by first | rfl | (simp; done) | (simp [*]; done)), H', ⟨by first | omega | exact Nat.le_refl _⟩, ⟨by repeat (first | (with_reducible first | exact HB.out | apply below_alloc | apply pw_below_drewN | apply below_drew1) | exact HB.out)⟩⟩
 case rest =>
  clear HC5
  try clear c2
  try clear p2
  try clear c5
  try clear c7
  obtain ⟨kq, x20_4, rfl, HA, HJ4, HB⟩ := hcut
  cases kq with
  | zero => exact absurd HA.out (by simp [step_Give.j0])
  | succ kj4 =>
   have H := HA.out
   clear HA
   simp only [step_Give.j0] at H
   by_cases c11 : x20_4 = true
   ·subst c11
    have H1 : ((slices_Clone_api_Step_api_Step.f l0).bind fun t309 => (some (t309, 1))) = some (r1, r2) := by rw [if_pos rfl] at H; exact H
    clear H
    have H := H1
    clear H1
    replace H := Option.bind_eq_some_iff.mp H
    obtain ⟨t309, A120, H⟩ := H
    replace H : (some (t309, 1)) = some (r1, r2) := H
    have A12 := Aside0.mk A120
    clear A120
    simp only [Option.some.injEq, Prod.mk.injEq] at H
    obtain ⟨rfl, rfl⟩ := H
    go_wp2_with (first | ((with_reducible refine gate_callee (f := 53) rfl ?_); refine goesL_ (some 22) rfl rfl Try.func53 (by kernel_rfl) rfl #[.slice A0 l0.length c0] rfl (by (try simp only [List.map_toArray, List.map_cons, List.map_nil]); first | done | rfl | (simp only [List.length_drop, List.length_take]; rfl)) ?_; (with_reducible refine (slices_Clone_api_Step_api_Step.calls _ _ l0 t309 _ ?side1 ?side2 A12.out).mono ?_); (case side1 => repeat (first | exact (Kd.C_below HR0.out HB.out) | (with_reducible refine Kd.C_alloc ?_ _) | (with_reducible refine Kd.C_drewN ?_ _) | (with_reducible refine Kd.C_drew ?_))); (case side2 => exact HC0.out); rintro e w13 ⟨v310, rfl, ho0, hb⟩; refine ⟨_, rfl, ?_⟩; have n0_ := Aside0.mk (Kd.R_lower ho0 (below_size (by repeat (first | (with_reducible first | exact HB.out | apply below_alloc | apply pw_below_drewN | apply below_drew1) | exact HB.out)))); have n1_ := Aside0.mk (below_step (by repeat (first | (with_reducible first | exact HB.out | apply below_alloc | apply pw_below_drewN | apply below_drew1) | exact HB.out)) hb); clear HB; have HO311 := n0_; have HB := n1_; clear n0_ n1_; (try clear hb); (try clear hb2); (try clear hk); (try clear hi); (try clear ho0)))
    go_ret2
    exact ⟨_, by first | rfl | (simp [errW_none, errW_some] <;> rfl) | (simp [*, errW_none, errW_some] <;> rfl), by (with_reducible repeat (first | apply Kd.R_alloc | apply Kd.R_drewN | apply Kd.R_drew)); exact HO311.out, by repeat (first | (with_reducible first | exact HB.out | apply below_alloc | apply pw_below_drewN | apply below_drew1) | exact HB.out)⟩
   ·replace c11 := Bool.eq_false_iff.mpr c11
    subst c11
    have H1 : ((step_place.f kj4 l0 a1).bind fun t312 => (step_Give.l0 kj4 l0 a1 a2 a3 t312)) = some (r1, r2) := by rw [if_neg (show ¬ (false = true) by decide)] at H; exact H
    clear H
    have H := H1
    clear H1
    replace H := Option.bind_eq_some_iff.mp H
    obtain ⟨t312, A140, H⟩ := H
    replace H : (step_Give.l0 kj4 l0 a1 a2 a3 t312) = some (r1, r2) := H
    have A14 := Aside0.mk A140
    clear A140
    have H' := Aside0.mk H
    clear H
    go_wp2_with (first | ((with_reducible refine gate_callee (f := 48) rfl ?_); refine goesL_ (some 25) rfl rfl Try.func48 (by kernel_rfl) rfl #[.slice A0 l0.length c0, .int .i64 a1] rfl (by (try simp only [List.map_toArray, List.map_cons, List.map_nil]); first | done | rfl | (simp only [List.length_drop, List.length_take]; rfl)) ?_; (with_reducible refine (step_place.calls kj4 _ _ l0 a1 t312 _ ?side1 ?side2 A14.out).mono ?_); (case side1 => repeat (first | exact (Kd.C_below HR0.out HB.out) | (with_reducible refine Kd.C_alloc ?_ _) | (with_reducible refine Kd.C_drewN ?_ _) | (with_reducible refine Kd.C_drew ?_))); (case side2 => exact HC0.out); rintro e w15 ⟨rfl, hb⟩; refine ⟨_, rfl, ?_⟩; have n0_ := Aside0.mk (below_step (by repeat (first | (with_reducible first | exact HB.out | apply below_alloc | apply pw_below_drewN | apply below_drew1) | exact HB.out)) hb); clear HB; have HB := n0_; clear n0_; (try clear hb); (try clear hb2); (try clear hk); (try clear hi)))
    go_loopg [10] kj4 (fun kq v10 w' => ∃ (x10_2 : Int), v10 = .int .i64 x10_2 ∧ Aside0 (step_Give.l0 kq l0 a1 a2 a3 x10_2 = some (r1, r2)) ∧ Aside0 (kq ≤ kj4) ∧ Aside0 (Below w.heap.size w w'))
    case atStart => exact ⟨(t312), (by first | rfl | (simp; done) | (simp [*]; done)), H', ⟨Nat.le_refl _⟩, ⟨by repeat (first | (with_reducible first | exact HB.out | apply below_alloc | apply pw_below_drewN | apply below_drew1) | exact HB.out)⟩⟩
    case round =>
     clear H'
     try clear c1
     try clear c2
     try clear p2
     try clear c4
     try clear c5
     try clear c7
     try clear c11
     try clear p2
     obtain ⟨x10_2, rfl, HA, HK2, HB⟩ := hrel
     cases gk with
     | zero => exact absurd HA.out (by simp [step_Give.l0])
     | succ k2 =>
      have H := HA.out
      clear HA
      simp only [step_Give.l0] at H
      have HC16 := Aside0.mk H
      clear H
      go_upto_region 4 with (fail)
      go_cut [38] (fun v38 wc => ∃ (kq : Nat) (x38_15 : Bool), v38 = .bool x38_15 ∧ Aside0 (step_Give.j2 kq l0 a1 a2 a3 x10_2 x38_15 = some (r1, r2)) ∧ Aside0 (kq ≤ k2) ∧ Aside0 (Below w.heap.size w wc))
      case first =>
       have H := HC16.out
       clear HC16
       by_cases c17 : x10_2 < (l0.length : Int)
       ·rw [if_pos c17] at H
        have c17b0 : decide (x10_2 < (l0.length : Int)) = true := decide_eq_true c17
        clear c17
        (first | rw [c17b0] | (simp only [i64_w, i32_w]; rw [c17b0]) | skip)
        by_cases c18 : 0 ≤ x10_2
        ·rw [if_pos c18] at H
         have c18b0 : decide (0 ≤ x10_2) = true := decide_eq_true c18
         clear c18
         have H' := Aside0.mk H
         clear H
         have p313 : 0 ≤ (x10_2 : Int) := of_decide_eq_true (by first | (with_reducible assumption) | assumption)
         have q313 : x10_2 < (l0.length : Int) := of_decide_eq_true (by first | (with_reducible assumption) | assumption)
         obtain ⟨ad313, e313, hx313_0, hx313_1⟩ := at_T45 HR0.out x10_2 p313 q313
         cases e313
         replace hx313_0 := (HB.out.cell (World.block_lt_of_cell? w _ hx313_0)).trans hx313_0
         replace hx313_1 := (HB.out.cell (World.block_lt_of_cell? w _ hx313_1)).trans hx313_1
         replace p313 := eq_true p313
         replace q313 := eq_true q313
         go_wp2
         go_meet
         case rel => exact ⟨_, (decide (((rd_T45 l0 x10_2).f0) < a2)), (by first | rfl | (simp; done) | (simp [*]; done)), H', ⟨by have := HJ4.out; have := HK2.out; first | omega | exact Nat.le_refl _⟩, ⟨by repeat (first | (with_reducible first | exact HB.out | apply below_alloc | apply pw_below_drewN | apply below_drew1) | exact HB.out)⟩⟩
        ·rw [if_neg c18] at H
         exact absurd H (by simp)
       ·rw [if_neg c17] at H
        have c17b0 : decide (x10_2 < (l0.length : Int)) = false := decide_eq_false c17
        clear c17
        (first | rw [c17b0] | (simp only [i64_w, i32_w]; rw [c17b0]) | skip)
        have H' := Aside0.mk H
        clear H
        go_wp2
        go_meet
        case rel => exact ⟨_, (false), (by first | rfl | (simp; done) | (simp [*]; done)), H', ⟨by have := HJ4.out; have := HK2.out; first | omega | exact Nat.le_refl _⟩, ⟨by repeat (first | (with_reducible first | exact HB.out | apply below_alloc | apply pw_below_drewN | apply below_drew1) | exact HB.out)⟩⟩
      case rest =>
       clear HC16
       try clear c1
       try clear c2
       try clear p2
       try clear p3
       try clear q3
       try clear hx3
       try clear c4
       try clear c5
       try clear c7
       try clear c11
       try clear c17
       try clear c17b0
       try clear c18
       try clear c18b0
       try clear hx313_0
       try clear hx313_1
       try clear p2
       try clear p313
       try clear q313
       obtain ⟨kq, x38_15, rfl, HA, HJ15, HB⟩ := hcut
       cases kq with
       | zero => exact absurd HA.out (by simp [step_Give.j2])
       | succ kj15 =>
        have H := HA.out
        clear HA
        simp only [step_Give.j2] at H
        by_cases c19 : x38_15 = true
        ·subst c19
         have H1 : (if 0 ≤ x10_2 then (if x10_2 < (l0.length : Int) then (if (wrap64 (((rd_T45 l0 x10_2).f1) + a3)) > 1048576 then ((slices_Clone_api_Step_api_Step.f l0).bind fun t315 => (some (t315, 9))) else (step_Give.l0 kj15 l0 a1 a2 a3 (wrap64 (x10_2 + 1)))) else (none)) else (none)) = some (r1, r2) := by rw [if_pos rfl] at H; exact H
         clear H
         have H := H1
         clear H1
         by_cases c20 : 0 ≤ x10_2
         ·rw [if_pos c20] at H
          have c20b0 : decide (0 ≤ x10_2) = true := decide_eq_true c20
          clear c20
          by_cases c21 : x10_2 < (l0.length : Int)
          ·rw [if_pos c21] at H
           have c21b0 : decide (x10_2 < (l0.length : Int)) = true := decide_eq_true c21
           clear c21
           by_cases c22 : (wrap64 (((rd_T45 l0 x10_2).f1) + a3)) > 1048576
           ·rw [if_pos c22] at H
            have c22b0 : decide (1048576 < (wrap64 (((rd_T45 l0 x10_2).f1) + a3))) = true := decide_eq_true c22
            clear c22
            replace H := Option.bind_eq_some_iff.mp H
            obtain ⟨t315, A230, H⟩ := H
            replace H : (some (t315, 9)) = some (r1, r2) := H
            have A23 := Aside0.mk A230
            clear A230
            simp only [Option.some.injEq, Prod.mk.injEq] at H
            obtain ⟨rfl, rfl⟩ := H
            have p314 : 0 ≤ (x10_2 : Int) := of_decide_eq_true (by first | (with_reducible assumption) | assumption)
            have q314 : x10_2 < (l0.length : Int) := of_decide_eq_true (by first | (with_reducible assumption) | assumption)
            obtain ⟨ad314, e314, hx314_0, hx314_1⟩ := at_T45 HR0.out x10_2 p314 q314
            cases e314
            replace hx314_0 := (HB.out.cell (World.block_lt_of_cell? w _ hx314_0)).trans hx314_0
            replace hx314_1 := (HB.out.cell (World.block_lt_of_cell? w _ hx314_1)).trans hx314_1
            replace p314 := eq_true p314
            replace q314 := eq_true q314
            go_wp2_with (first | ((with_reducible refine gate_callee (f := 53) rfl ?_); refine goesL_ (some 50) rfl rfl Try.func53 (by kernel_rfl) rfl #[.slice (some ad314) l0.length c0] rfl (by (try simp only [List.map_toArray, List.map_cons, List.map_nil]); first | done | rfl | (simp only [List.length_drop, List.length_take]; rfl)) ?_; (with_reducible refine (slices_Clone_api_Step_api_Step.calls _ _ l0 t315 _ ?side1 ?side2 A23.out).mono ?_); (case side1 => repeat (first | exact (Kd.C_below HR0.out HB.out) | (with_reducible refine Kd.C_alloc ?_ _) | (with_reducible refine Kd.C_drewN ?_ _) | (with_reducible refine Kd.C_drew ?_))); (case side2 => exact HC0.out); rintro e w24 ⟨v316, rfl, ho0, hb⟩; refine ⟨_, rfl, ?_⟩; have n0_ := Aside0.mk (Kd.R_lower ho0 (below_size (by repeat (first | (with_reducible first | exact HB.out | apply below_alloc | apply pw_below_drewN | apply below_drew1) | exact HB.out)))); have n1_ := Aside0.mk (below_step (by repeat (first | (with_reducible first | exact HB.out | apply below_alloc | apply pw_below_drewN | apply below_drew1) | exact HB.out)) hb); clear HB; have HO317 := n0_; have HB := n1_; clear n0_ n1_; (try clear hb); (try clear hb2); (try clear hk); (try clear hi); (try clear ho0)))
            go_ret2
            exact ⟨_, by first | rfl | (simp [errW_none, errW_some] <;> rfl) | (simp [*, errW_none, errW_some] <;> rfl), by (with_reducible repeat (first | apply Kd.R_alloc | apply Kd.R_drewN | apply Kd.R_drew)); exact HO317.out, by repeat (first | (with_reducible first | exact HB.out | apply below_alloc | apply pw_below_drewN | apply below_drew1) | exact HB.out)⟩
           ·rw [if_neg c22] at H
            have c22b0 : decide (1048576 < (wrap64 (((rd_T45 l0 x10_2).f1) + a3))) = false := decide_eq_false c22
            clear c22
            have H' := Aside0.mk H
            clear H
            have p314 : 0 ≤ (x10_2 : Int) := of_decide_eq_true (by first | (with_reducible assumption) | assumption)
            have q314 : x10_2 < (l0.length : Int) := of_decide_eq_true (by first | (with_reducible assumption) | assumption)
            obtain ⟨ad314, e314, hx314_0, hx314_1⟩ := at_T45 HR0.out x10_2 p314 q314
            cases e314
            replace hx314_0 := (HB.out.cell (World.block_lt_of_cell? w _ hx314_0)).trans hx314_0
            replace hx314_1 := (HB.out.cell (World.block_lt_of_cell? w _ hx314_1)).trans hx314_1
            replace p314 := eq_true p314
            replace q314 := eq_true q314
            go_wp2
            go_roundg kj15
            case measure => have := HJ4.out; have := HK2.out; have := HJ15.out; omega
            case rel => exact ⟨(wrap64 (x10_2 + 1)), (by first | rfl | (simp; done) | (simp [*]; done)), H', ⟨by have := HJ4.out; have := HK2.out; have := HJ15.out; omega⟩, ⟨by repeat (first | (with_reducible first | exact HB.out | apply below_alloc | apply pw_below_drewN | apply below_drew1) | exact HB.out)⟩⟩
          ·rw [if_neg c21] at H
           exact absurd H (by simp)
         ·rw [if_neg c20] at H
          exact absurd H (by simp)
        ·replace c19 := Bool.eq_false_iff.mpr c19
         subst c19
         have H1 : ((step_change.f l0 a1 a2 a3).bind fun bt318 => (some (bt318.1, bt318.2))) = some (r1, r2) := by rw [if_neg (show ¬ (false = true) by decide)] at H; exact H
         clear H
         have H := H1
         clear H1
         replace H := Option.bind_eq_some_iff.mp H
         obtain ⟨⟨t318, t319⟩, A250, H⟩ := H
         replace H : (some (t318, t319)) = some (r1, r2) := H
         have A25 := Aside0.mk A250
         clear A250
         simp only [Option.some.injEq, Prod.mk.injEq] at H
         obtain ⟨rfl, rfl⟩ := H
         go_wp2_with (first | ((with_reducible refine gate_callee (f := 54) rfl ?_); refine goesL_ (some 55) rfl rfl Try.func54 (by kernel_rfl) rfl #[.slice A0 l0.length c0, .int .i64 a1, .int .i64 a2, .int .i64 a3] rfl (by (try simp only [List.map_toArray, List.map_cons, List.map_nil]); first | done | rfl | (simp only [List.length_drop, List.length_take]; rfl)) ?_; (with_reducible refine (step_change.calls _ _ l0 a1 a2 a3 t318 t319 _ ?side1 ?side2 A25.out).mono ?_); (case side1 => repeat (first | exact (Kd.C_below HR0.out HB.out) | (with_reducible refine Kd.C_alloc ?_ _) | (with_reducible refine Kd.C_drewN ?_ _) | (with_reducible refine Kd.C_drew ?_))); (case side2 => exact HC0.out); rintro e w26 ⟨v320, rfl, ho0, hb⟩; refine ⟨_, rfl, ?_⟩; have n0_ := Aside0.mk (Kd.R_lower ho0 (below_size (by repeat (first | (with_reducible first | exact HB.out | apply below_alloc | apply pw_below_drewN | apply below_drew1) | exact HB.out)))); have n1_ := Aside0.mk (below_step (by repeat (first | (with_reducible first | exact HB.out | apply below_alloc | apply pw_below_drewN | apply below_drew1) | exact HB.out)) hb); clear HB; have HO321 := n0_; have HB := n1_; clear n0_ n1_; (try clear hb); (try clear hb2); (try clear hk); (try clear hi); (try clear ho0)))
         go_ret2
         exact ⟨_, by first | rfl | (simp [errW_none, errW_some] <;> rfl) | (simp [*, errW_none, errW_some] <;> rfl), by (with_reducible repeat (first | apply Kd.R_alloc | apply Kd.R_drewN | apply Kd.R_drew)); exact HO321.out, by repeat (first | (with_reducible first | exact HB.out | apply below_alloc | apply pw_below_drewN | apply below_drew1) | exact HB.out)⟩

end Go.Proofs.Ytimllhflecippaa.F
end

section
namespace Go.Proofs.Ytimllhflecippaa.F
open Go.RowKit Go.Proofs.YtimllhflecippaaW.PrintWords Go.Proofs.YtimllhflecippaaW.PrintLast Go.Proofs.YtimllhflecippaaW.PrintMore
attribute [local go_sem] max2_int min2_int max_two min_two
set_option linter.unusedVariables false
set_option linter.unusedSimpArgs false

mutual
def pools_each_at_step_Give.j0 : Nat → List (List (S45)) → Int → Int → List Int → Bool → Option ((List (List (S45))) × Int)
 | 0, _, _, _, _, _ => none
 | k + 1, x0, x1, x2, x3, x26 => if x26 = true then ((pools_clone.f k x0).bind fun t457 => (some (t457, 1))) else (pools_each_at_step_Give.l0 k x0 x1 x2 x3 ([] : List (List (S45))) x0 (x0.length : Int) 0)
def pools_each_at_step_Give.l0 : Nat → List (List (S45)) → Int → Int → List Int → List (List (S45)) → List (List (S45)) → Int → Int → Option ((List (List (S45))) × Int)
 | 0, _, _, _, _, _, _, _, _ => none
 | k + 1, x0, x1, x2, x3, x12, x29, x30, x31 => if x31 < x30 then (if 0 ≤ x31 then (if x31 < (x29.length : Int) then (if x31 < (x3.length : Int) then ((step_Give.f k (rd_L2 x29 x31) x1 x2 (rd x3 x31)).bind fun bt462 => (if bt462.2 = 0 then (if x12.length < 5864062014805 then (pools_each_at_step_Give.l0 k x0 x1 x2 x3 (x12 ++ [bt462.1]) x29 x30 (wrap64 (x31 + 1))) else (none)) else ((pools_clone.f k x0).bind fun t469 => (some (t469, bt462.2))))) else (none)) else (none)) else (none)) else (some (x12, 0))
end
def pools_each_at_step_Give.f (k : Nat) (l0 : List (List (S45))) (a1 : Int) (a2 : Int) (l3 : List Int)  : Option ((List (List (S45))) × Int) := (pools_Right.f k l0).bind fun t456 => (if t456 = true then (pools_each_at_step_Give.j0 k l0 a1 a2 l3 ((l3.length : Int) != (l0.length : Int))) else (pools_each_at_step_Give.j0 k l0 a1 a2 l3 true))
set_option maxHeartbeats 8000000 in
set_option maxRecDepth 100000 in
theorem pools_each_at_step_Give.calls (k : Nat) (A0 : Option Addr) (c0 : Nat) (l0 : List (List (S45))) (a1 : Int) (a2 : Int) (A3 : Option Addr) (c3 : Nat) (l3 : List Int)  (r1 : List (List (S45))) (r2 : Int) (w : World) (hr0 : Kd.C (Kd.slice 45 k45) w A0 l0.length l0) (hc0 : l0.length ≤ c0) (hr3 : Kd.C (Kd.int .i64) w A3 l3.length l3) (hc3 : l3.length ≤ c3) (h : pools_each_at_step_Give.f k l0 a1 a2 l3 = some (r1, r2)) :
  Calls Try.prog 61 #[.slice A0 l0.length c0, .int .i64 a1, .int .i64 a2, .slice A3 l3.length c3, .func (.func 25) #[] #[]] w fun e w' => ∃ v0_ : Value, e = .returned (.tuple #[v0_, .int .i64 r2]) ∧ Kd.S (Kd.slice 45 k45) 22 w' w.heap.size (fun _ => True) v0_ r1 ∧ Below w.heap.size w w' := by
 have HR0 := Aside0.mk hr0
 have HC0 := Aside0.mk hc0
 clear hr0 hc0
 have HR3 := Aside0.mk hr3
 have HC3 := Aside0.mk hc3
 clear hr3 hc3
 have HB := Aside0.mk (Below.refl w.heap.size w)
 have H : ((pools_Right.f k l0).bind fun t456 => (if t456 = true then (pools_each_at_step_Give.j0 k l0 a1 a2 l3 ((l3.length : Int) != (l0.length : Int))) else (pools_each_at_step_Give.j0 k l0 a1 a2 l3 true))) = some (r1, r2) := h
 clear h
 have HC6 := Aside0.mk H
 clear H
 go_enter Try.func61, Try.ntmps61
 go_upto_region 1 with (fail)
 go_cut [26] (fun v26 wc => ∃ (kq : Nat) (x26_5 : Bool), v26 = .bool x26_5 ∧ Aside0 (pools_each_at_step_Give.j0 kq l0 a1 a2 l3 x26_5 = some (r1, r2)) ∧ Aside0 (kq ≤ k) ∧ Aside0 (Below w.heap.size w wc))
 case first =>
  have H := HC6.out
  clear HC6
  replace H := Option.bind_eq_some_iff.mp H
  obtain ⟨t456, A70, H⟩ := H
  replace H : (if t456 = true then (pools_each_at_step_Give.j0 k l0 a1 a2 l3 ((l3.length : Int) != (l0.length : Int))) else (pools_each_at_step_Give.j0 k l0 a1 a2 l3 true)) = some (r1, r2) := H
  have A7 := Aside0.mk A70
  clear A70
  by_cases c8 : t456 = true
  ·subst c8
   have H1 : (pools_each_at_step_Give.j0 k l0 a1 a2 l3 ((l3.length : Int) != (l0.length : Int))) = some (r1, r2) := by rw [if_pos rfl] at H; exact H
   clear H
   have H := H1
   clear H1
   have H' := Aside0.mk H
   clear H
   go_wp2_with (first | ((with_reducible refine gate_callee (f := 36) rfl ?_); refine goesL_ (some 18) rfl rfl Try.func36 (by kernel_rfl) rfl #[.slice A0 l0.length c0] rfl (by (try simp only [List.map_toArray, List.map_cons, List.map_nil]); first | done | rfl | (simp only [List.length_drop, List.length_take]; rfl)) ?_; (with_reducible refine (pools_Right.calls k _ _ l0 true _ ?side1 ?side2 A7.out).mono ?_); (case side1 => repeat (first | exact (Kd.C_below HR0.out HB.out) | (with_reducible refine Kd.C_alloc ?_ _) | (with_reducible refine Kd.C_drewN ?_ _) | (with_reducible refine Kd.C_drew ?_))); (case side2 => exact HC0.out); rintro e w9 ⟨rfl, hb⟩; refine ⟨_, rfl, ?_⟩; have n0_ := Aside0.mk (below_step (by repeat (first | (with_reducible first | exact HB.out | apply below_alloc | apply pw_below_drewN | apply below_drew1) | exact HB.out)) hb); clear HB; have HB := n0_; clear n0_; (try clear hb); (try clear hb2); (try clear hk); (try clear hi)))
   go_meet
   case rel => exact ⟨_, (((l3.length : Int) != (l0.length : Int))), (by first | rfl | (simp; done) | (simp [*]; done)), H', ⟨by first | omega | exact Nat.le_refl _⟩, ⟨by repeat (first | (with_reducible first | exact HB.out | apply below_alloc | apply pw_below_drewN | apply below_drew1) | exact HB.out)⟩⟩
  ·replace c8 := Bool.eq_false_iff.mpr c8
   subst c8
   have H1 : (pools_each_at_step_Give.j0 k l0 a1 a2 l3 true) = some (r1, r2) := by rw [if_neg (show ¬ (false = true) by decide)] at H; exact H
   clear H
   have H := H1
   clear H1
   have H' := Aside0.mk H
   clear H
   go_wp2_with (first | ((with_reducible refine gate_callee (f := 36) rfl ?_); refine goesL_ (some 18) rfl rfl Try.func36 (by kernel_rfl) rfl #[.slice A0 l0.length c0] rfl (by (try simp only [List.map_toArray, List.map_cons, List.map_nil]); first | done | rfl | (simp only [List.length_drop, List.length_take]; rfl)) ?_; (with_reducible refine (pools_Right.calls k _ _ l0 false _ ?side1 ?side2 A7.out).mono ?_); (case side1 => repeat (first | exact (Kd.C_below HR0.out HB.out) | (with_reducible refine Kd.C_alloc ?_ _) | (with_reducible refine Kd.C_drewN ?_ _) | (with_reducible refine Kd.C_drew ?_))); (case side2 => exact HC0.out); rintro e w10 ⟨rfl, hb⟩; refine ⟨_, rfl, ?_⟩; have n0_ := Aside0.mk (below_step (by repeat (first | (with_reducible first | exact HB.out | apply below_alloc | apply pw_below_drewN | apply below_drew1) | exact HB.out)) hb); clear HB; have HB := n0_; clear n0_; (try clear hb); (try clear hb2); (try clear hk); (try clear hi)))
   go_meet
   case rel => exact ⟨_, (true), (by first | rfl | (simp; done) | (simp [*]; done)), H', ⟨by first | omega | exact Nat.le_refl _⟩, ⟨by repeat (first | (with_reducible first | exact HB.out | apply below_alloc | apply pw_below_drewN | apply below_drew1) | exact HB.out)⟩⟩
 case rest =>
  clear HC6
  try clear p2
  try clear c3
  try clear c7
  try clear c8
  obtain ⟨kq, x26_5, rfl, HA, HJ5, HB⟩ := hcut
  cases kq with
  | zero => exact absurd HA.out (by simp [pools_each_at_step_Give.j0])
  | succ kj5 =>
   have H := HA.out
   clear HA
   simp only [pools_each_at_step_Give.j0] at H
   by_cases c11 : x26_5 = true
   ·subst c11
    have H1 : ((pools_clone.f kj5 l0).bind fun t457 => (some (t457, 1))) = some (r1, r2) := by rw [if_pos rfl] at H; exact H
    clear H
    have H := H1
    clear H1
    replace H := Option.bind_eq_some_iff.mp H
    obtain ⟨t457, A120, H⟩ := H
    replace H : (some (t457, 1)) = some (r1, r2) := H
    have A12 := Aside0.mk A120
    clear A120
    simp only [Option.some.injEq, Prod.mk.injEq] at H
    obtain ⟨rfl, rfl⟩ := H
    go_wp2_with (first | ((with_reducible refine gate_callee (f := 68) rfl ?_); refine goesL_ (some 28) rfl rfl Try.func68 (by kernel_rfl) rfl #[.slice A0 l0.length c0] rfl (by (try simp only [List.map_toArray, List.map_cons, List.map_nil]); first | done | rfl | (simp only [List.length_drop, List.length_take]; rfl)) ?_; (with_reducible refine (pools_clone.calls kj5 _ _ l0 t457 _ ?side1 ?side2 A12.out).mono ?_); (case side1 => repeat (first | exact (Kd.C_below HR0.out HB.out) | (with_reducible refine Kd.C_alloc ?_ _) | (with_reducible refine Kd.C_drewN ?_ _) | (with_reducible refine Kd.C_drew ?_))); (case side2 => exact HC0.out); rintro e w13 ⟨v458, rfl, ho0, hb⟩; refine ⟨_, rfl, ?_⟩; have n0_ := Aside0.mk (Kd.S_lower ho0 (below_size (by repeat (first | (with_reducible first | exact HB.out | apply below_alloc | apply pw_below_drewN | apply below_drew1) | exact HB.out)))); have n1_ := Aside0.mk (below_step (by repeat (first | (with_reducible first | exact HB.out | apply below_alloc | apply pw_below_drewN | apply below_drew1) | exact HB.out)) hb); clear HB; have HO459 := n0_; have HB := n1_; clear n0_ n1_; (try clear hb); (try clear hb2); (try clear hk); (try clear hi); (try clear ho0)))
    go_ret2
    exact ⟨_, by first | rfl | (simp [errW_none, errW_some] <;> rfl) | (simp [*, errW_none, errW_some] <;> rfl), by (with_reducible repeat (first | apply Kd.S_alloc | apply Kd.S_drewN | apply Kd.S_drew)); exact HO459.out, by repeat (first | (with_reducible first | exact HB.out | apply below_alloc | apply pw_below_drewN | apply below_drew1) | exact HB.out)⟩
   ·replace c11 := Bool.eq_false_iff.mpr c11
    subst c11
    have H1 : (pools_each_at_step_Give.l0 kj5 l0 a1 a2 l3 ([] : List (List (S45))) l0 (l0.length : Int) 0) = some (r1, r2) := by rw [if_neg (show ¬ (false = true) by decide)] at H; exact H
    clear H
    have H := H1
    clear H1
    have H' := Aside0.mk H
    clear H
    go_wp2
    go_loopg [12, 31] kj5 (fun kq v12 v31 w' => ∃ (x12_2 : List (List (S45))) (x31_2 : Int), v31 = .int .i64 x31_2 ∧ Aside0 (pools_each_at_step_Give.l0 kq l0 a1 a2 l3 x12_2 l0 (l0.length : Int) x31_2 = some (r1, r2)) ∧ Aside0 (kq ≤ kj5) ∧ Aside0 (Kd.S (Kd.slice 45 k45) 22 w' w.heap.size (fun _ => True) v12 x12_2) ∧ Aside0 (Below w.heap.size w w'))
    case atStart => exact ⟨(([] : List (List (S45)))), (0), (by first | rfl | (simp; done) | (simp [*]; done)), H', ⟨Nat.le_refl _⟩, ⟨by first | exact Kd.S_nil _ _ _ _ _ | exact Kd.N_nil _ _ _ _ _ | exact Kd.V_nil _ _ _ _ _ | exact Kd.Q_nil _ _ _ _ _ | exact Kd.R_nil _ _ _ _ _⟩, ⟨by repeat (first | (with_reducible first | exact HB.out | apply below_alloc | apply pw_below_drewN | apply below_drew1) | exact HB.out)⟩⟩
    case round =>
     clear H'
     try clear c1
     try clear p2
     try clear c3
     try clear c6
     try clear c7
     try clear c8
     try clear c11
     try clear p2
     obtain ⟨x12_2, x31_2, rfl, HA, HK2, HO_12, HB⟩ := hrel
     cases gk with
     | zero => exact absurd HA.out (by simp [pools_each_at_step_Give.l0])
     | succ k2 =>
      have H := HA.out
      clear HA
      simp only [pools_each_at_step_Give.l0] at H
      by_cases c14 : x31_2 < (l0.length : Int)
      ·rw [if_pos c14] at H
       have c14b0 : decide (x31_2 < (l0.length : Int)) = true := decide_eq_true c14
       clear c14
       by_cases c15 : 0 ≤ x31_2
       ·rw [if_pos c15] at H
        have c15b0 : decide (0 ≤ x31_2) = true := decide_eq_true c15
        clear c15
        by_cases c16 : x31_2 < (l0.length : Int)
        ·rw [if_pos c16] at H
         have c16b0 : decide (x31_2 < (l0.length : Int)) = true := decide_eq_true c16
         clear c16
         by_cases c17 : x31_2 < (l3.length : Int)
         ·rw [if_pos c17] at H
          have c17b0 : decide (x31_2 < (l3.length : Int)) = true := decide_eq_true c17
          clear c17
          replace H := Option.bind_eq_some_iff.mp H
          obtain ⟨⟨t462, t463⟩, A180, H⟩ := H
          replace H : (if t463 = 0 then (if x12_2.length < 5864062014805 then (pools_each_at_step_Give.l0 k2 l0 a1 a2 l3 (x12_2 ++ [t462]) l0 (l0.length : Int) (wrap64 (x31_2 + 1))) else (none)) else ((pools_clone.f k2 l0).bind fun t469 => (some (t469, t463)))) = some (r1, r2) := H
          have A18 := Aside0.mk A180
          clear A180
          by_cases c19 : t463 = 0
          ·rw [if_pos c19] at H
           have c19b0 : (t463 == 0) = true := beq_iff_eq.mpr c19
           have c19b1 : (t463 != 0) = false := bne_eq_false_iff_eq.mpr c19
           clear c19
           by_cases c20 : x12_2.length < 5864062014805
           ·rw [if_pos c20] at H
            have LMc20 := Aside0.mk c20
            clear c20
            obtain ⟨y466, hy466⟩ : ∃ y_ : List (List (S45)), y_ = (x12_2 ++ [t462]) := ⟨_, rfl⟩
            replace H : (pools_each_at_step_Give.l0 k2 l0 a1 a2 l3 y466 l0 (l0.length : Int) (wrap64 (x31_2 + 1))) = some (r1, r2) := by first | (rw [hy466]; with_reducible exact H) | (have H2_ := (Option.bind_some _ _).symm.trans H; rw [hy466]; with_reducible exact H2_) | (have H2_ := (Option.bind_some _ _).symm.trans H; with_reducible exact H2_) | with_reducible exact H | (rw [hy466]; exact H) | exact H
            have Ny466 := Aside0.mk hy466
            clear hy466
            have H' := Aside0.mk H
            clear H
            have p460 : 0 ≤ (x31_2 : Int) := of_decide_eq_true (by first | (with_reducible assumption) | assumption)
            have q460 : x31_2 < (l0.length : Int) := of_decide_eq_true (by first | (with_reducible assumption) | assumption)
            obtain ⟨ad460, A460_0, c460_0, e460, hx460_0, hl460_0, hi460_0⟩ := at_L2 HR0.out x31_2 p460 q460
            cases e460
            replace hx460_0 := (HB.out.cell (World.block_lt_of_cell? w _ hx460_0)).trans hx460_0
            have HR460_0 := Aside0.mk hi460_0
            have HC460_0 := Aside0.mk hl460_0
            clear hi460_0 hl460_0
            replace p460 := eq_true p460
            replace q460 := eq_true q460
            have p461 : 0 ≤ (x31_2 : Int) := of_decide_eq_true (by first | (with_reducible assumption) | assumption)
            have q461 : x31_2 < (l3.length : Int) := of_decide_eq_true (by first | (with_reducible assumption) | assumption)
            obtain ⟨ad461, e461, hx461_0⟩ := Kd.at_int HR3.out x31_2 p461 q461
            cases e461
            replace hx461_0 := (HB.out.cell (World.block_lt_of_cell? w _ hx461_0)).trans hx461_0
            replace p461 := eq_true p461
            replace q461 := eq_true q461
            go_wp2_with (first | (go_at_call 25; (with_reducible refine (step_Give.calls k2 _ _ (rd_L2 l0 x31_2) a1 a2 (rd l3 x31_2) t462 t463 _ ?side1 ?side2 A18.out).mono ?_); (case side1 => repeat (first | exact (Kd.C_below HR460_0.out HB.out) | (with_reducible refine Kd.C_alloc ?_ _) | (with_reducible refine Kd.C_drewN ?_ _) | (with_reducible refine Kd.C_drew ?_))); (case side2 => exact HC460_0.out); rintro e w21 ⟨v464, rfl, ho0, hb⟩; have n0_ := Aside0.mk (Kd.S_elder' (by (with_reducible repeat (first | apply Kd.S_alloc | apply Kd.S_drewN | apply Kd.S_drew)); exact HO_12.out) (Kd.R_base ho0) hb); have n1_ := Aside0.mk (Kd.R_lower ho0 (below_size (by repeat (first | (with_reducible first | exact HB.out | apply below_alloc | apply pw_below_drewN | apply below_drew1) | exact HB.out)))); have n2_ := Aside0.mk (below_step (by repeat (first | (with_reducible first | exact HB.out | apply below_alloc | apply pw_below_drewN | apply below_drew1) | exact HB.out)) hb); clear HO_12; clear HB; have HO_12 := n0_; have HO465 := n1_; have HB := n2_; clear n0_ n1_ n2_; (try clear hb); (try clear hb2); (try clear hk); (try clear hi); (try clear ho0); obtain ⟨Ao23, co23, eo23⟩ := Kd.R_slice HO465.out; subst eo23) | ((with_reducible refine gate_builtin (b := .append) (xs := #[.tmp 53, .tmp 55]) rfl ?_); (try (refine gate_guard (by rfl) ?_; dsimp only)); at_builtin; refine Kd.S_append (Kd.slice 45 k45) (w0 := w) w.heap.size rfl (.tmp 53) (.tmp 55) 49 22 (.slice none 0 0) 24 rfl Try.underlying49 info22 rfl (by decide) (by omega) u12 x12_2 t462 [.slice Ao23 t462.length co23] (fun _ => True) (fun k_ => some k_ = (.slice Ao23 t462.length co23 : Value).ownBlock) rfl rfl ?aP (fun k_ hk_ => ((Kd.R_mono (ok' := fun k_ => ((fun _ => True)) k_ ∧ some k_ ≠ (u12 : Value).ownBlock) (Kd.R_apart' (HO465.out) (Kd.S_typed HO_12.out) (by decide)) (fun k_ hk => ⟨trivial, hk.2⟩))).1 k_ hk_.symm) ?aF ?aO ?aB ?aS ?aL ?_; (case aP => exact Kd.M_row (Kd.R_mono (Kd.R_tight rfl (Kd.R_mono (ok' := fun k_ => ((fun _ => True)) k_ ∧ some k_ ≠ (u12 : Value).ownBlock) (Kd.R_apart' (HO465.out) (Kd.S_typed HO_12.out) (by decide)) (fun k_ hk => ⟨trivial, hk.2⟩))) (fun _ h_ => h_))); (case aB => exact (by repeat (first | (with_reducible first | exact HB.out | apply below_alloc | apply pw_below_drewN | apply below_drew1) | exact HB.out))); (case aF => exact (fun _ _ => trivial)); (case aO => exact (by (with_reducible repeat (first | apply Kd.S_alloc | apply Kd.S_drewN | apply Kd.S_drew)); exact Kd.S_mono HO_12.out (fun k_ hk => ⟨trivial, fun e_ => hk.2 e_⟩))); (case aS => exact (below_size (by repeat (first | (with_reducible first | exact HB.out | apply below_alloc | apply pw_below_drewN | apply below_drew1) | exact HB.out)))); (case aL => have := LMc20.out; omega); intro v467 w22 ho hb hg hat; rw [← Ny466.out] at ho; have n0_ := Aside0.mk (hb); have n1_ := Aside0.mk (ho); clear HB; clear HO_12; clear HO465; have HB := n0_; have HO468 := n1_; clear n0_ n1_; clear ho hb hg hat))
            go_roundg k2
            case measure => have := HJ5.out; have := HK2.out; omega
            case rel => exact ⟨(y466), (wrap64 (x31_2 + 1)), (by first | rfl | (simp; done) | (simp [*]; done)), H', ⟨by have := HJ5.out; have := HK2.out; omega⟩, ⟨by (with_reducible repeat (first | apply Kd.S_alloc | apply Kd.S_drewN | apply Kd.S_drew)); exact HO468.out⟩, ⟨by repeat (first | (with_reducible first | exact HB.out | apply below_alloc | apply pw_below_drewN | apply below_drew1) | exact HB.out)⟩⟩
           ·rw [if_neg c20] at H
            exact absurd H (by simp)
          ·rw [if_neg c19] at H
           have c19b0 : (t463 == 0) = false := beq_eq_false_iff_ne.mpr c19
           have c19b1 : (t463 != 0) = true := bne_iff_ne.mpr c19
           replace H := Option.bind_eq_some_iff.mp H
           obtain ⟨t469, A240, H⟩ := H
           replace H : (some (t469, t463)) = some (r1, r2) := H
           have A24 := Aside0.mk A240
           clear A240
           simp only [Option.some.injEq, Prod.mk.injEq] at H
           obtain ⟨rfl, rfl⟩ := H
           have p460 : 0 ≤ (x31_2 : Int) := of_decide_eq_true (by first | (with_reducible assumption) | assumption)
           have q460 : x31_2 < (l0.length : Int) := of_decide_eq_true (by first | (with_reducible assumption) | assumption)
           obtain ⟨ad460, A460_0, c460_0, e460, hx460_0, hl460_0, hi460_0⟩ := at_L2 HR0.out x31_2 p460 q460
           cases e460
           replace hx460_0 := (HB.out.cell (World.block_lt_of_cell? w _ hx460_0)).trans hx460_0
           have HR460_0 := Aside0.mk hi460_0
           have HC460_0 := Aside0.mk hl460_0
           clear hi460_0 hl460_0
           replace p460 := eq_true p460
           replace q460 := eq_true q460
           have p461 : 0 ≤ (x31_2 : Int) := of_decide_eq_true (by first | (with_reducible assumption) | assumption)
           have q461 : x31_2 < (l3.length : Int) := of_decide_eq_true (by first | (with_reducible assumption) | assumption)
           obtain ⟨ad461, e461, hx461_0⟩ := Kd.at_int HR3.out x31_2 p461 q461
           cases e461
           replace hx461_0 := (HB.out.cell (World.block_lt_of_cell? w _ hx461_0)).trans hx461_0
           replace p461 := eq_true p461
           replace q461 := eq_true q461
           go_wp2_with (first | (go_at_call 25; (with_reducible refine (step_Give.calls k2 _ _ (rd_L2 l0 x31_2) a1 a2 (rd l3 x31_2) t462 t463 _ ?side1 ?side2 A18.out).mono ?_); (case side1 => repeat (first | exact (Kd.C_below HR460_0.out HB.out) | (with_reducible refine Kd.C_alloc ?_ _) | (with_reducible refine Kd.C_drewN ?_ _) | (with_reducible refine Kd.C_drew ?_))); (case side2 => exact HC460_0.out); rintro e w25 ⟨v464, rfl, ho0, hb⟩; have n0_ := Aside0.mk (Kd.S_elder' (by (with_reducible repeat (first | apply Kd.S_alloc | apply Kd.S_drewN | apply Kd.S_drew)); exact HO_12.out) (Kd.R_base ho0) hb); have n1_ := Aside0.mk (Kd.R_lower ho0 (below_size (by repeat (first | (with_reducible first | exact HB.out | apply below_alloc | apply pw_below_drewN | apply below_drew1) | exact HB.out)))); have n2_ := Aside0.mk (below_step (by repeat (first | (with_reducible first | exact HB.out | apply below_alloc | apply pw_below_drewN | apply below_drew1) | exact HB.out)) hb); clear HO_12; clear HB; have HO_12 := n0_; have HO465 := n1_; have HB := n2_; clear n0_ n1_ n2_; (try clear hb); (try clear hb2); (try clear hk); (try clear hi); (try clear ho0)) | ((with_reducible refine gate_callee (f := 68) rfl ?_); refine goesL_ (some 51) rfl rfl Try.func68 (by kernel_rfl) rfl #[.slice (some ad460) l0.length c0] rfl (by (try simp only [List.map_toArray, List.map_cons, List.map_nil]); first | done | rfl | (simp only [List.length_drop, List.length_take]; rfl)) ?_; (with_reducible refine (pools_clone.calls k2 _ _ l0 t469 _ ?side1 ?side2 A24.out).mono ?_); (case side1 => repeat (first | exact (Kd.C_below HR0.out HB.out) | (with_reducible refine Kd.C_alloc ?_ _) | (with_reducible refine Kd.C_drewN ?_ _) | (with_reducible refine Kd.C_drew ?_))); (case side2 => exact HC0.out); rintro e w26 ⟨v470, rfl, ho0, hb⟩; refine ⟨_, rfl, ?_⟩; have n0_ := Aside0.mk (Kd.S_elder' (by (with_reducible repeat (first | apply Kd.S_alloc | apply Kd.S_drewN | apply Kd.S_drew)); exact HO_12.out) (Kd.S_base ho0) hb); have n1_ := Aside0.mk (Kd.R_below (by (with_reducible repeat (first | apply Kd.R_alloc | apply Kd.R_drewN | apply Kd.R_drew)); exact HO465.out) hb); have n2_ := Aside0.mk (Kd.S_lower (Kd.S_new' (Kd.S_new' ho0 (Kd.S_lt (by (with_reducible repeat (first | apply Kd.S_alloc | apply Kd.S_drewN | apply Kd.S_drew)); exact HO_12.out))) (Kd.R_lt (by (with_reducible repeat (first | apply Kd.R_alloc | apply Kd.R_drewN | apply Kd.R_drew)); exact HO465.out))) (below_size (by repeat (first | (with_reducible first | exact HB.out | apply below_alloc | apply pw_below_drewN | apply below_drew1) | exact HB.out)))); have n3_ := Aside0.mk (below_step (by repeat (first | (with_reducible first | exact HB.out | apply below_alloc | apply pw_below_drewN | apply below_drew1) | exact HB.out)) hb); clear HO_12; clear HO465; clear HB; have HO_12 := n0_; have HO465 := n1_; have HO471 := n2_; have HB := n3_; clear n0_ n1_ n2_ n3_; (try clear hb); (try clear hb2); (try clear hk); (try clear hi); (try clear ho0)))
           go_ret2
           exact ⟨_, by first | rfl | (simp [errW_none, errW_some] <;> rfl) | (simp [*, errW_none, errW_some] <;> rfl), by (with_reducible repeat (first | apply Kd.S_alloc | apply Kd.S_drewN | apply Kd.S_drew)); exact Kd.S_mono HO471.out (fun _ hk => trivial), by repeat (first | (with_reducible first | exact HB.out | apply below_alloc | apply pw_below_drewN | apply below_drew1) | exact HB.out)⟩
         ·rw [if_neg c17] at H
          exact absurd H (by simp)
        ·rw [if_neg c16] at H
         exact absurd H (by simp)
       ·rw [if_neg c15] at H
        exact absurd H (by simp)
      ·rw [if_neg c14] at H
       have c14b0 : decide (x31_2 < (l0.length : Int)) = false := decide_eq_false c14
       clear c14
       simp only [Option.some.injEq, Prod.mk.injEq] at H
       obtain ⟨rfl, rfl⟩ := H
       go_wp2
       go_ret2
       exact ⟨_, by first | rfl | (simp [errW_none, errW_some] <;> rfl) | (simp [*, errW_none, errW_some] <;> rfl), by (with_reducible repeat (first | apply Kd.S_alloc | apply Kd.S_drewN | apply Kd.S_drew)); exact HO_12.out, by repeat (first | (with_reducible first | exact HB.out | apply below_alloc | apply pw_below_drewN | apply below_drew1) | exact HB.out)⟩

def pools_Give.f (k : Nat) (l0 : List (List (S45))) (a1 : Int) (a2 : Int) (l3 : List Int) : Option ((List (List (S45))) × Int) := (pools_each_at_step_Give.f k l0 a1 a2 l3).bind fun bt472 => (some (bt472.1, bt472.2))
set_option maxHeartbeats 8000000 in
set_option maxRecDepth 100000 in
theorem pools_Give.calls (k : Nat) (A0 : Option Addr) (c0 : Nat) (l0 : List (List (S45))) (a1 : Int) (a2 : Int) (A3 : Option Addr) (c3 : Nat) (l3 : List Int) (r1 : List (List (S45))) (r2 : Int) (w : World) (hr0 : Kd.C (Kd.slice 45 k45) w A0 l0.length l0) (hc0 : l0.length ≤ c0) (hr3 : Kd.C (Kd.int .i64) w A3 l3.length l3) (hc3 : l3.length ≤ c3) (h : pools_Give.f k l0 a1 a2 l3 = some (r1, r2)) :
  Calls Try.prog 44 #[.slice A0 l0.length c0, .int .i64 a1, .int .i64 a2, .slice A3 l3.length c3] w fun e w' => ∃ v0_ : Value, e = .returned (.tuple #[v0_, .int .i64 r2]) ∧ Kd.S (Kd.slice 45 k45) 22 w' w.heap.size (fun _ => True) v0_ r1 ∧ Below w.heap.size w w' := by
 have HR0 := Aside0.mk hr0
 have HC0 := Aside0.mk hc0
 clear hr0 hc0
 have HR3 := Aside0.mk hr3
 have HC3 := Aside0.mk hc3
 clear hr3 hc3
 have HB := Aside0.mk (Below.refl w.heap.size w)
 have H : ((pools_each_at_step_Give.f k l0 a1 a2 l3).bind fun bt472 => (some (bt472.1, bt472.2))) = some (r1, r2) := h
 clear h
 replace H := Option.bind_eq_some_iff.mp H
 obtain ⟨⟨t472, t473⟩, A50, H⟩ := H
 replace H : (some (t472, t473)) = some (r1, r2) := H
 have A5 := Aside0.mk A50
 clear A50
 simp only [Option.some.injEq, Prod.mk.injEq] at H
 obtain ⟨rfl, rfl⟩ := H
 go_enter Try.func44, Try.ntmps44
 go_wp2_with (first | ((with_reducible refine gate_callee (f := 61) rfl ?_); refine goesL_ (some 14) rfl rfl Try.func61 (by kernel_rfl) rfl #[.slice A0 l0.length c0, .int .i64 a1, .int .i64 a2, .slice A3 l3.length c3, .func (.func 25) #[] #[]] rfl (by (try simp only [List.map_toArray, List.map_cons, List.map_nil]); first | done | rfl | (simp only [List.length_drop, List.length_take]; rfl)) ?_; (with_reducible refine (pools_each_at_step_Give.calls k _ _ l0 a1 a2 _ _ l3  t472 t473 _ ?side1 ?side2 ?side3 ?side4 A5.out).mono ?_); (case side1 => repeat (first | exact HR0.out | (with_reducible refine Kd.C_alloc ?_ _) | (with_reducible refine Kd.C_drewN ?_ _) | (with_reducible refine Kd.C_drew ?_))); (case side2 => exact HC0.out); (case side3 => repeat (first | exact HR3.out | (with_reducible refine Kd.C_alloc ?_ _) | (with_reducible refine Kd.C_drewN ?_ _) | (with_reducible refine Kd.C_drew ?_))); (case side4 => exact HC3.out); rintro e w6 ⟨v474, rfl, ho0, hb⟩; refine ⟨_, rfl, ?_⟩; have n0_ := Aside0.mk (Kd.S_lower ho0 (below_size (by repeat (first | (with_reducible first | exact HB.out | apply below_alloc | apply pw_below_drewN | apply below_drew1) | exact HB.out)))); have n1_ := Aside0.mk (below_step (by repeat (first | (with_reducible first | exact HB.out | apply below_alloc | apply pw_below_drewN | apply below_drew1) | exact HB.out)) hb); clear HB; have HO475 := n0_; have HB := n1_; clear n0_ n1_; (try clear hb); (try clear hb2); (try clear hk); (try clear hi); (try clear ho0)))
 go_ret2
 exact ⟨_, by first | rfl | (simp [errW_none, errW_some] <;> rfl) | (simp [*, errW_none, errW_some] <;> rfl), by (with_reducible repeat (first | apply Kd.S_alloc | apply Kd.S_drewN | apply Kd.S_drew)); exact HO475.out, by repeat (first | (with_reducible first | exact HB.out | apply below_alloc | apply pw_below_drewN | apply below_drew1) | exact HB.out)⟩

end Go.Proofs.Ytimllhflecippaa.F
end

section
namespace Go.Proofs.Ytimllhflecippaa.F
open Go.RowKit Go.Proofs.YtimllhflecippaaW.PrintWords Go.Proofs.YtimllhflecippaaW.PrintLast Go.Proofs.YtimllhflecippaaW.PrintMore
attribute [local go_sem] max2_int min2_int max_two min_two
set_option linter.unusedVariables false
set_option linter.unusedSimpArgs false

mutual
def pools_New.j0 : Nat → List Int → Bool → Option ((List (List (S45))) × Int)
 | 0, _, _ => none
 | k + 1, x0, x16 => if x16 = true then (some (([] : List (List (S45))), 1)) else (pools_New.l0 k ([] : List (List (S45))) x0 (x0.length : Int) 0)
def pools_New.l0 : Nat → List (List (S45)) → List Int → Int → Int → Option ((List (List (S45))) × Int)
 | 0, _, _, _, _ => none
 | k + 1, x4, x17, x18, x19 => if x19 < x18 then (if 0 ≤ x19 then (if x19 < (x17.length : Int) then ((step_New.f (rd x17 x19)).bind fun bt364 => (if bt364.2 = 0 then (if x4.length < 5864062014805 then (pools_New.l0 k (x4 ++ [bt364.1]) x17 x18 (wrap64 (x19 + 1))) else (none)) else (some (([] : List (List (S45))), bt364.2)))) else (none)) else (none)) else (some (x4, 0))
end
def pools_New.f (k : Nat) (l0 : List Int) : Option ((List (List (S45))) × Int) := if (l0.length : Int) < 1 then (pools_New.j0 k l0 true) else (pools_New.j0 k l0 (decide ((l0.length : Int) > 4)))
theorem pools_New.mono_l : ∀ k, (∀ y0 y1, LeO (pools_New.j0 k y0 y1) (pools_New.j0 (k + 1) y0 y1)) ∧ (∀ y0 y1 y2 y3, LeO (pools_New.l0 k y0 y1 y2 y3) (pools_New.l0 (k + 1) y0 y1 y2 y3))
 | 0 => ⟨fun _ _ r h => by simp [pools_New.j0] at h, fun _ _ _ _ r h => by simp [pools_New.l0] at h⟩
 | k + 1 => by
  obtain ⟨ih0, ih1⟩ := pools_New.mono_l k
  refine ⟨?_, ?_⟩
  ·intro y0 y1
   unfold pools_New.j0
   repeat' first
   | (with_reducible exact ih0 _ _)
   | (with_reducible exact ih1 _ _ _ _)
   | (with_reducible exact LeO.refl _)
   | (with_reducible exact LeO.none _)
   | (with_reducible refine LeO.ite ?_ ?_)
   | (with_reducible refine LeO.bind ?_ (fun _ => ?_))
   | exact ih0 _ _
   | exact ih1 _ _ _ _
   | exact LeO.none _
   | refine LeO.ite ?_ ?_
   | refine LeO.bind ?_ (fun _ => ?_)
  ·intro y0 y1 y2 y3
   unfold pools_New.l0
   repeat' first
   | (with_reducible exact ih0 _ _)
   | (with_reducible exact ih1 _ _ _ _)
   | (with_reducible exact LeO.refl _)
   | (with_reducible exact LeO.none _)
   | (with_reducible refine LeO.ite ?_ ?_)
   | (with_reducible refine LeO.bind ?_ (fun _ => ?_))
   | exact ih0 _ _
   | exact ih1 _ _ _ _
   | exact LeO.none _
   | refine LeO.ite ?_ ?_
   | refine LeO.bind ?_ (fun _ => ?_)
theorem pools_New.mono : ∀ a0 k, LeO (pools_New.f k a0) (pools_New.f (k + 1) a0) := by
 intro a0 k
 obtain ⟨ih0, ih1⟩ := pools_New.mono_l k
 unfold pools_New.f
 repeat' first
   | (with_reducible exact ih0 _ _)
   | (with_reducible exact ih1 _ _ _ _)
   | (with_reducible exact LeO.refl _)
   | (with_reducible exact LeO.none _)
   | (with_reducible refine LeO.ite ?_ ?_)
   | (with_reducible refine LeO.bind ?_ (fun _ => ?_))
   | exact ih0 _ _
   | exact ih1 _ _ _ _
   | exact LeO.none _
   | refine LeO.ite ?_ ?_
   | refine LeO.bind ?_ (fun _ => ?_)
set_option maxHeartbeats 8000000 in
set_option maxRecDepth 100000 in
theorem pools_New.calls (k : Nat) (A0 : Option Addr) (c0 : Nat) (l0 : List Int) (r1 : List (List (S45))) (r2 : Int) (w : World) (hr0 : Kd.C (Kd.int .i64) w A0 l0.length l0) (hc0 : l0.length ≤ c0) (h : pools_New.f k l0 = some (r1, r2)) :
  Calls Try.prog 35 #[.slice A0 l0.length c0] w fun e w' => ∃ v0_ : Value, e = .returned (.tuple #[v0_, .int .i64 r2]) ∧ Kd.S (Kd.slice 45 k45) 22 w' w.heap.size (fun _ => True) v0_ r1 ∧ Below w.heap.size w w' := by
 have HR0 := Aside0.mk hr0
 have HC0 := Aside0.mk hc0
 clear hr0 hc0
 have HB := Aside0.mk (Below.refl w.heap.size w)
 have H : (if (l0.length : Int) < 1 then (pools_New.j0 k l0 true) else (pools_New.j0 k l0 (decide ((l0.length : Int) > 4)))) = some (r1, r2) := h
 clear h
 have HC2 := Aside0.mk H
 clear H
 go_enter Try.func35, Try.ntmps35
 go_upto_region 1 with (fail)
 go_cut [16] (fun v16 wc => ∃ (kq : Nat) (x16_1 : Bool), v16 = .bool x16_1 ∧ Aside0 (pools_New.j0 kq l0 x16_1 = some (r1, r2)) ∧ Aside0 (kq ≤ k) ∧ Aside0 (Below w.heap.size w wc))
 case first =>
  have H := HC2.out
  clear HC2
  by_cases c3 : (l0.length : Int) < 1
  ·rw [if_pos c3] at H
   have c3b0 : decide ((l0.length : Int) < 1) = true := decide_eq_true c3
   have c3b1 : decide (l0.length < 1) = true := decide_eq_true (by omega)
   clear c3
   (first | rw [c3b0] | (simp only [i64_w, i32_w]; rw [c3b0]) | skip)
   have H' := Aside0.mk H
   clear H
   go_wp2
   go_meet
   case rel => exact ⟨_, (true), (by first | rfl | (simp; done) | (simp [*]; done)), H', ⟨by first | omega | exact Nat.le_refl _⟩, ⟨by repeat (first | (with_reducible first | exact HB.out | apply below_alloc | apply pw_below_drewN | apply below_drew1) | exact HB.out)⟩⟩
  ·rw [if_neg c3] at H
   have c3b0 : decide ((l0.length : Int) < 1) = false := decide_eq_false c3
   have c3b1 : decide (l0.length < 1) = false := decide_eq_false (by omega)
   clear c3
   (first | rw [c3b0] | (simp only [i64_w, i32_w]; rw [c3b0]) | skip)
   have H' := Aside0.mk H
   clear H
   go_wp2
   go_meet
   case rel => exact ⟨_, (decide ((l0.length : Int) > 4)), (by first | rfl | (simp; done) | (simp [*]; done)), H', ⟨by first | omega | exact Nat.le_refl _⟩, ⟨by repeat (first | (with_reducible first | exact HB.out | apply below_alloc | apply pw_below_drewN | apply below_drew1) | exact HB.out)⟩⟩
 case rest =>
  clear HC2
  try clear p2
  try clear c3
  try clear c3b0
  try clear c3b1
  obtain ⟨kq, x16_1, rfl, HA, HJ1, HB⟩ := hcut
  cases kq with
  | zero => exact absurd HA.out (by simp [pools_New.j0])
  | succ kj1 =>
   have H := HA.out
   clear HA
   simp only [pools_New.j0] at H
   by_cases c4 : x16_1 = true
   ·subst c4
    have H1 : (some (([] : List (List (S45))), 1)) = some (r1, r2) := by rw [if_pos rfl] at H; exact H
    clear H
    have H := H1
    clear H1
    simp only [Option.some.injEq, Prod.mk.injEq] at H
    obtain ⟨rfl, rfl⟩ := H
    go_wp2
    go_ret2
    exact ⟨_, by first | rfl | (simp [errW_none, errW_some] <;> rfl) | (simp [*, errW_none, errW_some] <;> rfl), by first | exact Kd.S_nil _ _ _ _ _ | exact Kd.N_nil _ _ _ _ _ | exact Kd.V_nil _ _ _ _ _ | exact Kd.Q_nil _ _ _ _ _ | exact Kd.R_nil _ _ _ _ _, by repeat (first | (with_reducible first | exact HB.out | apply below_alloc | apply pw_below_drewN | apply below_drew1) | exact HB.out)⟩
   ·replace c4 := Bool.eq_false_iff.mpr c4
    subst c4
    have H1 : (pools_New.l0 kj1 ([] : List (List (S45))) l0 (l0.length : Int) 0) = some (r1, r2) := by rw [if_neg (show ¬ (false = true) by decide)] at H; exact H
    clear H
    have H := H1
    clear H1
    have H' := Aside0.mk H
    clear H
    go_wp2
    go_loopg [4, 19] kj1 (fun kq v4 v19 w' => ∃ (x4_2 : List (List (S45))) (x19_2 : Int), v19 = .int .i64 x19_2 ∧ Aside0 (pools_New.l0 kq x4_2 l0 (l0.length : Int) x19_2 = some (r1, r2)) ∧ Aside0 (kq ≤ kj1) ∧ Aside0 (Kd.S (Kd.slice 45 k45) 22 w' w.heap.size (fun _ => True) v4 x4_2) ∧ Aside0 (Below w.heap.size w w'))
    case atStart => exact ⟨(([] : List (List (S45)))), (0), (by first | rfl | (simp; done) | (simp [*]; done)), H', ⟨Nat.le_refl _⟩, ⟨by first | exact Kd.S_nil _ _ _ _ _ | exact Kd.N_nil _ _ _ _ _ | exact Kd.V_nil _ _ _ _ _ | exact Kd.Q_nil _ _ _ _ _ | exact Kd.R_nil _ _ _ _ _⟩, ⟨by repeat (first | (with_reducible first | exact HB.out | apply below_alloc | apply pw_below_drewN | apply below_drew1) | exact HB.out)⟩⟩
    case round =>
     clear H'
     try clear p2
     try clear c3
     try clear c3b0
     try clear c3b1
     try clear c4
     try clear p2
     obtain ⟨x4_2, x19_2, rfl, HA, HK2, HO_4, HB⟩ := hrel
     cases gk with
     | zero => exact absurd HA.out (by simp [pools_New.l0])
     | succ k2 =>
      have H := HA.out
      clear HA
      simp only [pools_New.l0] at H
      by_cases c5 : x19_2 < (l0.length : Int)
      ·rw [if_pos c5] at H
       have c5b0 : decide (x19_2 < (l0.length : Int)) = true := decide_eq_true c5
       clear c5
       by_cases c6 : 0 ≤ x19_2
       ·rw [if_pos c6] at H
        have c6b0 : decide (0 ≤ x19_2) = true := decide_eq_true c6
        clear c6
        by_cases c7 : x19_2 < (l0.length : Int)
        ·rw [if_pos c7] at H
         have c7b0 : decide (x19_2 < (l0.length : Int)) = true := decide_eq_true c7
         clear c7
         replace H := Option.bind_eq_some_iff.mp H
         obtain ⟨⟨t364, t365⟩, A80, H⟩ := H
         replace H : (if t365 = 0 then (if x4_2.length < 5864062014805 then (pools_New.l0 k2 (x4_2 ++ [t364]) l0 (l0.length : Int) (wrap64 (x19_2 + 1))) else (none)) else (some (([] : List (List (S45))), t365))) = some (r1, r2) := H
         have A8 := Aside0.mk A80
         clear A80
         by_cases c9 : t365 = 0
         ·rw [if_pos c9] at H
          have c9b0 : (t365 == 0) = true := beq_iff_eq.mpr c9
          have c9b1 : (t365 != 0) = false := bne_eq_false_iff_eq.mpr c9
          clear c9
          by_cases c10 : x4_2.length < 5864062014805
          ·rw [if_pos c10] at H
           have LMc10 := Aside0.mk c10
           clear c10
           obtain ⟨y368, hy368⟩ : ∃ y_ : List (List (S45)), y_ = (x4_2 ++ [t364]) := ⟨_, rfl⟩
           replace H : (pools_New.l0 k2 y368 l0 (l0.length : Int) (wrap64 (x19_2 + 1))) = some (r1, r2) := by first | (rw [hy368]; with_reducible exact H) | (have H2_ := (Option.bind_some _ _).symm.trans H; rw [hy368]; with_reducible exact H2_) | (have H2_ := (Option.bind_some _ _).symm.trans H; with_reducible exact H2_) | with_reducible exact H | (rw [hy368]; exact H) | exact H
           have Ny368 := Aside0.mk hy368
           clear hy368
           have H' := Aside0.mk H
           clear H
           have p363 : 0 ≤ (x19_2 : Int) := of_decide_eq_true (by first | (with_reducible assumption) | assumption)
           have q363 : x19_2 < (l0.length : Int) := of_decide_eq_true (by first | (with_reducible assumption) | assumption)
           obtain ⟨ad363, e363, hx363_0⟩ := Kd.at_int HR0.out x19_2 p363 q363
           cases e363
           replace hx363_0 := (HB.out.cell (World.block_lt_of_cell? w _ hx363_0)).trans hx363_0
           replace p363 := eq_true p363
           replace q363 := eq_true q363
           go_wp2_with (first | ((with_reducible refine gate_callee (f := 29) rfl ?_); refine goesL_ (some 25) rfl rfl Try.func29 (by kernel_rfl) rfl #[.int .i64 (rd l0 x19_2)] rfl (by (try simp only [List.map_toArray, List.map_cons, List.map_nil]); first | done | rfl | (simp only [List.length_drop, List.length_take]; rfl)) ?_; (with_reducible refine (step_New.calls (rd l0 x19_2) t364 t365 _ A8.out).mono ?_); rintro e w11 ⟨v366, rfl, ho0, hb⟩; refine ⟨_, rfl, ?_⟩; have n0_ := Aside0.mk (Kd.S_elder' (by (with_reducible repeat (first | apply Kd.S_alloc | apply Kd.S_drewN | apply Kd.S_drew)); exact HO_4.out) (Kd.R_base ho0) hb); have n1_ := Aside0.mk (Kd.R_lower ho0 (below_size (by repeat (first | (with_reducible first | exact HB.out | apply below_alloc | apply pw_below_drewN | apply below_drew1) | exact HB.out)))); have n2_ := Aside0.mk (below_step (by repeat (first | (with_reducible first | exact HB.out | apply below_alloc | apply pw_below_drewN | apply below_drew1) | exact HB.out)) hb); clear HO_4; clear HB; have HO_4 := n0_; have HO367 := n1_; have HB := n2_; clear n0_ n1_ n2_; (try clear hb); (try clear hb2); (try clear hk); (try clear hi); (try clear ho0); obtain ⟨Ao13, co13, eo13⟩ := Kd.R_slice HO367.out; subst eo13) | ((with_reducible refine gate_builtin (b := .append) (xs := #[.tmp 31, .tmp 33]) rfl ?_); (try (refine gate_guard (by rfl) ?_; dsimp only)); at_builtin; refine Kd.S_append (Kd.slice 45 k45) (w0 := w) w.heap.size rfl (.tmp 31) (.tmp 33) 49 22 (.slice none 0 0) 24 rfl Try.underlying49 info22 rfl (by decide) (by omega) u4 x4_2 t364 [.slice Ao13 t364.length co13] (fun _ => True) (fun k_ => some k_ = (.slice Ao13 t364.length co13 : Value).ownBlock) rfl rfl ?aP (fun k_ hk_ => ((Kd.R_mono (ok' := fun k_ => ((fun _ => True)) k_ ∧ some k_ ≠ (u4 : Value).ownBlock) (Kd.R_apart' (HO367.out) (Kd.S_typed HO_4.out) (by decide)) (fun k_ hk => ⟨trivial, hk.2⟩))).1 k_ hk_.symm) ?aF ?aO ?aB ?aS ?aL ?_; (case aP => exact Kd.M_row (Kd.R_mono (Kd.R_tight rfl (Kd.R_mono (ok' := fun k_ => ((fun _ => True)) k_ ∧ some k_ ≠ (u4 : Value).ownBlock) (Kd.R_apart' (HO367.out) (Kd.S_typed HO_4.out) (by decide)) (fun k_ hk => ⟨trivial, hk.2⟩))) (fun _ h_ => h_))); (case aB => exact (by repeat (first | (with_reducible first | exact HB.out | apply below_alloc | apply pw_below_drewN | apply below_drew1) | exact HB.out))); (case aF => exact (fun _ _ => trivial)); (case aO => exact (by (with_reducible repeat (first | apply Kd.S_alloc | apply Kd.S_drewN | apply Kd.S_drew)); exact Kd.S_mono HO_4.out (fun k_ hk => ⟨trivial, fun e_ => hk.2 e_⟩))); (case aS => exact (below_size (by repeat (first | (with_reducible first | exact HB.out | apply below_alloc | apply pw_below_drewN | apply below_drew1) | exact HB.out)))); (case aL => have := LMc10.out; omega); intro v369 w12 ho hb hg hat; rw [← Ny368.out] at ho; have n0_ := Aside0.mk (hb); have n1_ := Aside0.mk (ho); clear HB; clear HO_4; clear HO367; have HB := n0_; have HO370 := n1_; clear n0_ n1_; clear ho hb hg hat))
           go_roundg k2
           case measure => have := HJ1.out; have := HK2.out; omega
           case rel => exact ⟨(y368), (wrap64 (x19_2 + 1)), (by first | rfl | (simp; done) | (simp [*]; done)), H', ⟨by have := HJ1.out; have := HK2.out; omega⟩, ⟨by (with_reducible repeat (first | apply Kd.S_alloc | apply Kd.S_drewN | apply Kd.S_drew)); exact HO370.out⟩, ⟨by repeat (first | (with_reducible first | exact HB.out | apply below_alloc | apply pw_below_drewN | apply below_drew1) | exact HB.out)⟩⟩
          ·rw [if_neg c10] at H
           exact absurd H (by simp)
         ·rw [if_neg c9] at H
          have c9b0 : (t365 == 0) = false := beq_eq_false_iff_ne.mpr c9
          have c9b1 : (t365 != 0) = true := bne_iff_ne.mpr c9
          simp only [Option.some.injEq, Prod.mk.injEq] at H
          obtain ⟨rfl, rfl⟩ := H
          have p363 : 0 ≤ (x19_2 : Int) := of_decide_eq_true (by first | (with_reducible assumption) | assumption)
          have q363 : x19_2 < (l0.length : Int) := of_decide_eq_true (by first | (with_reducible assumption) | assumption)
          obtain ⟨ad363, e363, hx363_0⟩ := Kd.at_int HR0.out x19_2 p363 q363
          cases e363
          replace hx363_0 := (HB.out.cell (World.block_lt_of_cell? w _ hx363_0)).trans hx363_0
          replace p363 := eq_true p363
          replace q363 := eq_true q363
          go_wp2_with (first | ((with_reducible refine gate_callee (f := 29) rfl ?_); refine goesL_ (some 25) rfl rfl Try.func29 (by kernel_rfl) rfl #[.int .i64 (rd l0 x19_2)] rfl (by (try simp only [List.map_toArray, List.map_cons, List.map_nil]); first | done | rfl | (simp only [List.length_drop, List.length_take]; rfl)) ?_; (with_reducible refine (step_New.calls (rd l0 x19_2) t364 t365 _ A8.out).mono ?_); rintro e w14 ⟨v366, rfl, ho0, hb⟩; refine ⟨_, rfl, ?_⟩; have n0_ := Aside0.mk (Kd.S_elder' (by (with_reducible repeat (first | apply Kd.S_alloc | apply Kd.S_drewN | apply Kd.S_drew)); exact HO_4.out) (Kd.R_base ho0) hb); have n1_ := Aside0.mk (Kd.R_lower ho0 (below_size (by repeat (first | (with_reducible first | exact HB.out | apply below_alloc | apply pw_below_drewN | apply below_drew1) | exact HB.out)))); have n2_ := Aside0.mk (below_step (by repeat (first | (with_reducible first | exact HB.out | apply below_alloc | apply pw_below_drewN | apply below_drew1) | exact HB.out)) hb); clear HO_4; clear HB; have HO_4 := n0_; have HO367 := n1_; have HB := n2_; clear n0_ n1_ n2_; (try clear hb); (try clear hb2); (try clear hk); (try clear hi); (try clear ho0)))
          go_ret2
          exact ⟨_, by first | rfl | (simp [errW_none, errW_some] <;> rfl) | (simp [*, errW_none, errW_some] <;> rfl), by first | exact Kd.S_nil _ _ _ _ _ | exact Kd.N_nil _ _ _ _ _ | exact Kd.V_nil _ _ _ _ _ | exact Kd.Q_nil _ _ _ _ _ | exact Kd.R_nil _ _ _ _ _, by repeat (first | (with_reducible first | exact HB.out | apply below_alloc | apply pw_below_drewN | apply below_drew1) | exact HB.out)⟩
        ·rw [if_neg c7] at H
         exact absurd H (by simp)
       ·rw [if_neg c6] at H
        exact absurd H (by simp)
      ·rw [if_neg c5] at H
       have c5b0 : decide (x19_2 < (l0.length : Int)) = false := decide_eq_false c5
       clear c5
       simp only [Option.some.injEq, Prod.mk.injEq] at H
       obtain ⟨rfl, rfl⟩ := H
       go_wp2
       go_ret2
       exact ⟨_, by first | rfl | (simp [errW_none, errW_some] <;> rfl) | (simp [*, errW_none, errW_some] <;> rfl), by (with_reducible repeat (first | apply Kd.S_alloc | apply Kd.S_drewN | apply Kd.S_drew)); exact HO_4.out, by repeat (first | (with_reducible first | exact HB.out | apply below_alloc | apply pw_below_drewN | apply below_drew1) | exact HB.out)⟩

end Go.Proofs.Ytimllhflecippaa.F
end

section
namespace Go.Proofs.Ytimllhflecippaa.F
open Go.RowKit Go.Proofs.YtimllhflecippaaW.PrintWords Go.Proofs.YtimllhflecippaaW.PrintLast Go.Proofs.YtimllhflecippaaW.PrintMore
attribute [local go_sem] max2_int min2_int max_two min_two
set_option linter.unusedVariables false
set_option linter.unusedSimpArgs false

mutual
def bailiwickref03_Right.j0 : Nat → List (S45) → Bool → Option (Bool)
 | 0, _, _ => none
 | k + 1, x0, x18 => if x18 = true then (some false) else (bailiwickref03_Right.l0 k x0 0)
def bailiwickref03_Right.l0 : Nat → List (S45) → Int → Option (Bool)
 | 0, _, _ => none
 | k + 1, x0, x3 => if x3 < (x0.length : Int) then (if 0 ≤ x3 then (if ((rd_T45 x0 x3).f1) < 0 then (bailiwickref03_Right.j2 k x0 x3 true) else (if ((rd_T45 x0 x3).f1) > 1048576 then (bailiwickref03_Right.j2 k x0 x3 true) else (if ((rd_T45 x0 x3).f0) < 0 then (bailiwickref03_Right.j2 k x0 x3 true) else (bailiwickref03_Right.j2 k x0 x3 (decide (((rd_T45 x0 x3).f0) > 4611686018427387904)))))) else (none)) else (some true)
def bailiwickref03_Right.j2 : Nat → List (S45) → Int → Bool → Option (Bool)
 | 0, _, _, _ => none
 | k + 1, x0, x3, x54 => if x54 = true then (some false) else (if x3 > 0 then (if 0 ≤ x3 then (if x3 < (x0.length : Int) then (if 0 ≤ (wrap64 (x3 - 1)) then (if (wrap64 (x3 - 1)) < (x0.length : Int) then (if ((rd_T45 x0 x3).f0) ≤ ((rd_T45 x0 (wrap64 (x3 - 1))).f0) then (some false) else (if ((rd_T45 x0 x3).f1) = ((rd_T45 x0 (wrap64 (x3 - 1))).f1) then (some false) else (bailiwickref03_Right.l0 k x0 (wrap64 (x3 + 1))))) else (none)) else (none)) else (none)) else (none)) else (bailiwickref03_Right.l0 k x0 (wrap64 (x3 + 1))))
end
def bailiwickref03_Right.f (k : Nat) (l0 : List (S45)) : Option (Bool) := if (l0.length : Int) = 0 then (bailiwickref03_Right.j0 k l0 true) else (if (l0.length : Int) > 1024 then (bailiwickref03_Right.j0 k l0 true) else (if 0 < (l0.length : Int) then (bailiwickref03_Right.j0 k l0 (((rd_T45 l0 0).f0) != 0)) else (none)))
set_option maxHeartbeats 8000000 in
set_option maxRecDepth 100000 in
theorem bailiwickref03_Right.calls (k : Nat) (A0 : Option Addr) (c0 : Nat) (l0 : List (S45)) (r : Bool) (w : World) (hr0 : Kd.C k45 w A0 l0.length l0) (hc0 : l0.length ≤ c0) (h : bailiwickref03_Right.f k l0 = some r) :
  Calls Try.prog 30 #[.slice A0 l0.length c0] w fun e w' => e = .returned (.bool r) ∧ Drawn0 w w' := by
 have HR0 := Aside0.mk hr0
 have HC0 := Aside0.mk hc0
 clear hr0 hc0
 have H : (if (l0.length : Int) = 0 then (bailiwickref03_Right.j0 k l0 true) else (if (l0.length : Int) > 1024 then (bailiwickref03_Right.j0 k l0 true) else (if 0 < (l0.length : Int) then (bailiwickref03_Right.j0 k l0 (((rd_T45 l0 0).f0) != 0)) else (none)))) = some r := h
 clear h
 have HC2 := Aside0.mk H
 clear H
 go_enter Try.func30, Try.ntmps30
 go_upto_region 1 with (fail)
 repeat (go_quiet (fail); go_upto_region 1 with (fail))
 go_cut [18] (fun v18 wc => ∃ (kq : Nat) (x18_1 : Bool), v18 = .bool x18_1 ∧ Aside0 (bailiwickref03_Right.j0 kq l0 x18_1 = some r) ∧ Aside0 (kq ≤ k) ∧ Drawn0 w wc)
 case first =>
  have H := HC2.out
  clear HC2
  by_cases c3 : (l0.length : Int) = 0
  ·rw [if_pos c3] at H
   have c3b0 : ((l0.length : Int) == 0) = true := beq_iff_eq.mpr c3
   have c3b1 : ((l0.length : Int) != 0) = false := bne_eq_false_iff_eq.mpr c3
   clear c3
   (first | rw [c3b0] | (simp only [i64_w, i32_w]; rw [c3b0]) | skip)
   have H' := Aside0.mk H
   clear H
   go_wp2
   repeat (go_quiet (fail); try go_wp2)
   go_meet
   case rel => exact ⟨_, (true), (by first | rfl | (simp; done) | (simp [*]; done)), H', ⟨by first | omega | exact Nat.le_refl _⟩, by repeat (first | exact Drawn0.refl _ | apply Drawn0.step)⟩
  ·rw [if_neg c3] at H
   have c3b0 : ((l0.length : Int) == 0) = false := beq_eq_false_iff_ne.mpr c3
   have c3b1 : ((l0.length : Int) != 0) = true := bne_iff_ne.mpr c3
   have c3b2 : ¬ (l0 = []) := fun h_ => c3 (by rw [h_]; rfl)
   (first | rw [c3b0] | (simp only [i64_w, i32_w]; rw [c3b0]) | skip)
   by_cases c4 : (l0.length : Int) > 1024
   ·rw [if_pos c4] at H
    have c4b0 : decide (1024 < (l0.length : Int)) = true := decide_eq_true c4
    have c4b1 : decide (1024 < l0.length) = true := decide_eq_true (by omega)
    clear c4
    have H' := Aside0.mk H
    clear H
    go_wp2
    repeat (go_quiet (fail); try go_wp2)
    go_meet
    case rel => exact ⟨_, (true), (by first | rfl | (simp; done) | (simp [*]; done)), H', ⟨by first | omega | exact Nat.le_refl _⟩, by repeat (first | exact Drawn0.refl _ | apply Drawn0.step)⟩
   ·rw [if_neg c4] at H
    have c4b0 : decide (1024 < (l0.length : Int)) = false := decide_eq_false c4
    have c4b1 : decide (1024 < l0.length) = false := decide_eq_false (by omega)
    clear c4
    by_cases c5 : 0 < (l0.length : Int)
    ·rw [if_pos c5] at H
     have c5b0 : decide (0 < (l0.length : Int)) = true := decide_eq_true c5
     have c5b1 : decide (0 < l0.length) = true := decide_eq_true (by omega)
     clear c5
     have H' := Aside0.mk H
     clear H
     have p217 : 0 ≤ (0 : Int) := (by omega)
     have q217 : 0 < (l0.length : Int) := of_decide_eq_true (by first | (with_reducible assumption) | assumption)
     obtain ⟨ad217, e217, hx217_0, hx217_1⟩ := at_T45 HR0.out 0 p217 q217
     cases e217
     have qi217 : (0 < l0.length) = True := eq_true (by omega)
     (try rw [show ((0 : Int)).toNat = 0 from rfl] at hx217_0)
     (try rw [show 0 * 2 = 0 from rfl] at hx217_0)
     (try rw [Addr.add_zero'] at hx217_0)
     (try rw [show ((0 : Int)).toNat = 0 from rfl] at hx217_1)
     (try rw [show 0 * 2 = 0 from rfl] at hx217_1)
     (try rw [Addr.add_zero'] at hx217_1)
     replace p217 := eq_true p217
     replace q217 := eq_true q217
     go_wp2
     repeat (go_quiet (fail); try go_wp2)
     go_meet
     case rel => exact ⟨_, ((((rd_T45 l0 0).f0) != 0)), (by first | rfl | (simp; done) | (simp [*]; done)), H', ⟨by first | omega | exact Nat.le_refl _⟩, by repeat (first | exact Drawn0.refl _ | apply Drawn0.step)⟩
    ·rw [if_neg c5] at H
     exact absurd H (by simp)
 case rest =>
  clear HC2
  try clear p2
  try clear q2
  try clear hx2
  try clear qi2
  try clear c3
  try clear c3b0
  try clear c3b1
  try clear c3b2
  try clear c4
  try clear c4b0
  try clear c4b1
  try clear c5
  try clear c5b0
  try clear c5b1
  try clear hx217_0
  try clear hx217_1
  try clear p217
  try clear q217
  obtain ⟨kq, x18_1, rfl, HA, HJ1, ⟨mc1, rfl⟩⟩ := hcut
  cases kq with
  | zero => exact absurd HA.out (by simp [bailiwickref03_Right.j0])
  | succ kj1 =>
   have H := HA.out
   clear HA
   simp only [bailiwickref03_Right.j0] at H
   by_cases c6 : x18_1 = true
   ·subst c6
    have H1 : (some false) = some r := by rw [if_pos rfl] at H; exact H
    clear H
    have H := H1
    clear H1
    obtain rfl := Option.some.inj H
    go_wp2
    repeat (go_quiet (fail); try go_wp2)
    go_ret
    exact ⟨by first | rfl | (simp; done) | (simp [*]; done), by repeat (first | exact Drawn0.refl _ | apply Drawn0.step)⟩
   ·replace c6 := Bool.eq_false_iff.mpr c6
    subst c6
    have H1 : (bailiwickref03_Right.l0 kj1 l0 0) = some r := by rw [if_neg (show ¬ (false = true) by decide)] at H; exact H
    clear H
    have H := H1
    clear H1
    have H' := Aside0.mk H
    clear H
    go_wp2
    repeat (go_quiet (fail); try go_wp2)
    go_loopg [3] kj1 (fun kq v3 w' => ∃ (x3_2 : Int), v3 = .int .i64 x3_2 ∧ Aside0 (bailiwickref03_Right.l0 kq l0 x3_2 = some r) ∧ Aside0 (kq ≤ kj1) ∧ Drawn0 w w')
    case atStart => exact ⟨(0), (by first | rfl | (simp; done) | (simp [*]; done)), H', ⟨Nat.le_refl _⟩, by repeat (first | exact Drawn0.refl _ | apply Drawn0.step)⟩
    case round =>
     clear H'
     try clear c1
     try clear p2
     try clear q2
     try clear hx2
     try clear qi2
     try clear c3
     try clear c3b0
     try clear c3b1
     try clear c3b2
     try clear c4
     try clear c4b0
     try clear c4b1
     try clear c5
     try clear c5b0
     try clear c5b1
     try clear c6
     try clear hx217_0
     try clear hx217_1
     try clear p2
     try clear p217
     try clear q2
     try clear q217
     obtain ⟨x3_2, rfl, HA, HK2, ⟨m2, rfl⟩⟩ := hrel
     cases gk with
     | zero => exact absurd HA.out (by simp [bailiwickref03_Right.l0])
     | succ k2 =>
      have H := HA.out
      clear HA
      simp only [bailiwickref03_Right.l0] at H
      by_cases c7 : x3_2 < (l0.length : Int)
      ·rw [if_pos c7] at H
       have c7b0 : decide (x3_2 < (l0.length : Int)) = true := decide_eq_true c7
       clear c7
       have HC8 := Aside0.mk H
       clear H
       go_upto_region 6 with (fail)
       repeat (go_quiet (fail); go_upto_region 6 with (fail))
       go_cut [54] (fun v54 wc => ∃ (kq : Nat) (x54_7 : Bool), v54 = .bool x54_7 ∧ Aside0 (bailiwickref03_Right.j2 kq l0 x3_2 x54_7 = some r) ∧ Aside0 (kq ≤ k2) ∧ Drawn0 w wc)
       case first =>
        have H := HC8.out
        clear HC8
        by_cases c9 : 0 ≤ x3_2
        ·rw [if_pos c9] at H
         have c9b0 : decide (0 ≤ x3_2) = true := decide_eq_true c9
         clear c9
         (first | rw [c9b0] | (simp only [i64_w, i32_w]; rw [c9b0]) | skip)
         by_cases c10 : ((rd_T45 l0 x3_2).f1) < 0
         ·rw [if_pos c10] at H
          have c10b0 : decide (((rd_T45 l0 x3_2).f1) < 0) = true := decide_eq_true c10
          clear c10
          have H' := Aside0.mk H
          clear H
          have p218 : 0 ≤ (x3_2 : Int) := of_decide_eq_true (by first | (with_reducible assumption) | assumption)
          have q218 : x3_2 < (l0.length : Int) := of_decide_eq_true (by first | (with_reducible assumption) | assumption)
          obtain ⟨ad218, e218, hx218_0, hx218_1⟩ := at_T45 HR0.out x3_2 p218 q218
          cases e218
          replace p218 := eq_true p218
          replace q218 := eq_true q218
          go_wp2
          repeat (go_quiet (fail); try go_wp2)
          go_meet
          case rel => exact ⟨_, (true), (by first | rfl | (simp; done) | (simp [*]; done)), H', ⟨by have := HJ1.out; have := HK2.out; first | omega | exact Nat.le_refl _⟩, by repeat (first | exact Drawn0.refl _ | apply Drawn0.step)⟩
         ·rw [if_neg c10] at H
          have c10b0 : decide (((rd_T45 l0 x3_2).f1) < 0) = false := decide_eq_false c10
          clear c10
          by_cases c11 : ((rd_T45 l0 x3_2).f1) > 1048576
          ·rw [if_pos c11] at H
           have c11b0 : decide (1048576 < ((rd_T45 l0 x3_2).f1)) = true := decide_eq_true c11
           clear c11
           have H' := Aside0.mk H
           clear H
           have p218 : 0 ≤ (x3_2 : Int) := of_decide_eq_true (by first | (with_reducible assumption) | assumption)
           have q218 : x3_2 < (l0.length : Int) := of_decide_eq_true (by first | (with_reducible assumption) | assumption)
           obtain ⟨ad218, e218, hx218_0, hx218_1⟩ := at_T45 HR0.out x3_2 p218 q218
           cases e218
           replace p218 := eq_true p218
           replace q218 := eq_true q218
           have p219 : 0 ≤ (x3_2 : Int) := of_decide_eq_true (by first | (with_reducible assumption) | assumption)
           have q219 : x3_2 < (l0.length : Int) := of_decide_eq_true (by first | (with_reducible assumption) | assumption)
           obtain ⟨ad219, e219, hx219_0, hx219_1⟩ := at_T45 HR0.out x3_2 p219 q219
           obtain rfl : ad218 = ad219 := (by injection e219)
           replace p219 := eq_true p219
           replace q219 := eq_true q219
           go_wp2
           repeat (go_quiet (fail); try go_wp2)
           go_meet
           case rel => exact ⟨_, (true), (by first | rfl | (simp; done) | (simp [*]; done)), H', ⟨by have := HJ1.out; have := HK2.out; first | omega | exact Nat.le_refl _⟩, by repeat (first | exact Drawn0.refl _ | apply Drawn0.step)⟩
          ·rw [if_neg c11] at H
           have c11b0 : decide (1048576 < ((rd_T45 l0 x3_2).f1)) = false := decide_eq_false c11
           clear c11
           by_cases c12 : ((rd_T45 l0 x3_2).f0) < 0
           ·rw [if_pos c12] at H
            have c12b0 : decide (((rd_T45 l0 x3_2).f0) < 0) = true := decide_eq_true c12
            clear c12
            have H' := Aside0.mk H
            clear H
            have p218 : 0 ≤ (x3_2 : Int) := of_decide_eq_true (by first | (with_reducible assumption) | assumption)
            have q218 : x3_2 < (l0.length : Int) := of_decide_eq_true (by first | (with_reducible assumption) | assumption)
            obtain ⟨ad218, e218, hx218_0, hx218_1⟩ := at_T45 HR0.out x3_2 p218 q218
            cases e218
            replace p218 := eq_true p218
            replace q218 := eq_true q218
            have p219 : 0 ≤ (x3_2 : Int) := of_decide_eq_true (by first | (with_reducible assumption) | assumption)
            have q219 : x3_2 < (l0.length : Int) := of_decide_eq_true (by first | (with_reducible assumption) | assumption)
            obtain ⟨ad219, e219, hx219_0, hx219_1⟩ := at_T45 HR0.out x3_2 p219 q219
            obtain rfl : ad218 = ad219 := (by injection e219)
            replace p219 := eq_true p219
            replace q219 := eq_true q219
            have p220 : 0 ≤ (x3_2 : Int) := of_decide_eq_true (by first | (with_reducible assumption) | assumption)
            have q220 : x3_2 < (l0.length : Int) := of_decide_eq_true (by first | (with_reducible assumption) | assumption)
            obtain ⟨ad220, e220, hx220_0, hx220_1⟩ := at_T45 HR0.out x3_2 p220 q220
            obtain rfl : ad218 = ad220 := (by injection e220)
            replace p220 := eq_true p220
            replace q220 := eq_true q220
            go_wp2
            repeat (go_quiet (fail); try go_wp2)
            go_meet
            case rel => exact ⟨_, (true), (by first | rfl | (simp; done) | (simp [*]; done)), H', ⟨by have := HJ1.out; have := HK2.out; first | omega | exact Nat.le_refl _⟩, by repeat (first | exact Drawn0.refl _ | apply Drawn0.step)⟩
           ·rw [if_neg c12] at H
            have c12b0 : decide (((rd_T45 l0 x3_2).f0) < 0) = false := decide_eq_false c12
            clear c12
            have H' := Aside0.mk H
            clear H
            have p218 : 0 ≤ (x3_2 : Int) := of_decide_eq_true (by first | (with_reducible assumption) | assumption)
            have q218 : x3_2 < (l0.length : Int) := of_decide_eq_true (by first | (with_reducible assumption) | assumption)
            obtain ⟨ad218, e218, hx218_0, hx218_1⟩ := at_T45 HR0.out x3_2 p218 q218
            cases e218
            replace p218 := eq_true p218
            replace q218 := eq_true q218
            have p219 : 0 ≤ (x3_2 : Int) := of_decide_eq_true (by first | (with_reducible assumption) | assumption)
            have q219 : x3_2 < (l0.length : Int) := of_decide_eq_true (by first | (with_reducible assumption) | assumption)
            obtain ⟨ad219, e219, hx219_0, hx219_1⟩ := at_T45 HR0.out x3_2 p219 q219
            obtain rfl : ad218 = ad219 := (by injection e219)
            replace p219 := eq_true p219
            replace q219 := eq_true q219
            have p220 : 0 ≤ (x3_2 : Int) := of_decide_eq_true (by first | (with_reducible assumption) | assumption)
            have q220 : x3_2 < (l0.length : Int) := of_decide_eq_true (by first | (with_reducible assumption) | assumption)
            obtain ⟨ad220, e220, hx220_0, hx220_1⟩ := at_T45 HR0.out x3_2 p220 q220
            obtain rfl : ad218 = ad220 := (by injection e220)
            replace p220 := eq_true p220
            replace q220 := eq_true q220
            have p221 : 0 ≤ (x3_2 : Int) := of_decide_eq_true (by first | (with_reducible assumption) | assumption)
            have q221 : x3_2 < (l0.length : Int) := of_decide_eq_true (by first | (with_reducible assumption) | assumption)
            obtain ⟨ad221, e221, hx221_0, hx221_1⟩ := at_T45 HR0.out x3_2 p221 q221
            obtain rfl : ad218 = ad221 := (by injection e221)
            replace p221 := eq_true p221
            replace q221 := eq_true q221
            go_wp2
            repeat (go_quiet (fail); try go_wp2)
            go_meet
            case rel => exact ⟨_, (decide (((rd_T45 l0 x3_2).f0) > 4611686018427387904)), (by first | rfl | (simp; done) | (simp [*]; done)), H', ⟨by have := HJ1.out; have := HK2.out; first | omega | exact Nat.le_refl _⟩, by repeat (first | exact Drawn0.refl _ | apply Drawn0.step)⟩
        ·rw [if_neg c9] at H
         exact absurd H (by simp)
       case rest =>
        clear HC8
        try clear c1
        try clear p2
        try clear q2
        try clear hx2
        try clear qi2
        try clear c3
        try clear c3b0
        try clear c3b1
        try clear c3b2
        try clear c4
        try clear c4b0
        try clear c4b1
        try clear c5
        try clear c5b0
        try clear c5b1
        try clear c6
        try clear c7
        try clear c7b0
        try clear c9
        try clear c9b0
        try clear c10
        try clear c10b0
        try clear c11
        try clear c11b0
        try clear c12
        try clear c12b0
        try clear hx217_0
        try clear hx217_1
        try clear hx218_0
        try clear hx218_1
        try clear hx219_0
        try clear hx219_1
        try clear hx220_0
        try clear hx220_1
        try clear hx221_0
        try clear hx221_1
        try clear p2
        try clear p217
        try clear p218
        try clear p219
        try clear p220
        try clear p221
        try clear q2
        try clear q217
        try clear q218
        try clear q219
        try clear q220
        try clear q221
        obtain ⟨kq, x54_7, rfl, HA, HJ7, ⟨mc7, rfl⟩⟩ := hcut
        cases kq with
        | zero => exact absurd HA.out (by simp [bailiwickref03_Right.j2])
        | succ kj7 =>
         have H := HA.out
         clear HA
         simp only [bailiwickref03_Right.j2] at H
         by_cases c13 : x54_7 = true
         ·subst c13
          have H1 : (some false) = some r := by rw [if_pos rfl] at H; exact H
          clear H
          have H := H1
          clear H1
          obtain rfl := Option.some.inj H
          go_wp2
          repeat (go_quiet (fail); try go_wp2)
          go_ret
          exact ⟨by first | rfl | (simp; done) | (simp [*]; done), by repeat (first | exact Drawn0.refl _ | apply Drawn0.step)⟩
         ·replace c13 := Bool.eq_false_iff.mpr c13
          subst c13
          have H1 : (if x3_2 > 0 then (if 0 ≤ x3_2 then (if x3_2 < (l0.length : Int) then (if 0 ≤ (wrap64 (x3_2 - 1)) then (if (wrap64 (x3_2 - 1)) < (l0.length : Int) then (if ((rd_T45 l0 x3_2).f0) ≤ ((rd_T45 l0 (wrap64 (x3_2 - 1))).f0) then (some false) else (if ((rd_T45 l0 x3_2).f1) = ((rd_T45 l0 (wrap64 (x3_2 - 1))).f1) then (some false) else (bailiwickref03_Right.l0 kj7 l0 (wrap64 (x3_2 + 1))))) else (none)) else (none)) else (none)) else (none)) else (bailiwickref03_Right.l0 kj7 l0 (wrap64 (x3_2 + 1)))) = some r := by rw [if_neg (show ¬ (false = true) by decide)] at H; exact H
          clear H
          have H := H1
          clear H1
          by_cases c14 : x3_2 > 0
          ·rw [if_pos c14] at H
           have c14b0 : decide (0 < x3_2) = true := decide_eq_true c14
           clear c14
           by_cases c15 : 0 ≤ x3_2
           ·rw [if_pos c15] at H
            have c15b0 : decide (0 ≤ x3_2) = true := decide_eq_true c15
            clear c15
            by_cases c16 : x3_2 < (l0.length : Int)
            ·rw [if_pos c16] at H
             have c16b0 : decide (x3_2 < (l0.length : Int)) = true := decide_eq_true c16
             clear c16
             obtain ⟨ji17, hji17⟩ : ∃ j_ : Int, (wrap64 (x3_2 - 1)) = j_ := ⟨_, rfl⟩
             replace H : (if 0 ≤ (ji17) then (if (ji17) < (l0.length : Int) then (if ((rd_T45 l0 x3_2).f0) ≤ ((rd_T45 l0 (ji17)).f0) then (some false) else (if ((rd_T45 l0 x3_2).f1) = ((rd_T45 l0 (ji17)).f1) then (some false) else (bailiwickref03_Right.l0 kj7 l0 (wrap64 (x3_2 + 1))))) else (none)) else (none)) = some r := by first | (rw [hji17] at H; exact H) | (simp only [hji17] at H ⊢; exact H)
             have hji17w : (IntKind.i64.wrap (x3_2 - 1)) = ji17 := (i64_w _).trans hji17
             by_cases c18 : 0 ≤ (ji17)
             ·rw [if_pos c18] at H
              have c18b0 : decide (0 ≤ (ji17)) = true := decide_eq_true c18
              clear c18
              by_cases c19 : (ji17) < (l0.length : Int)
              ·rw [if_pos c19] at H
               have c19b0 : decide ((ji17) < (l0.length : Int)) = true := decide_eq_true c19
               clear c19
               by_cases c20 : ((rd_T45 l0 x3_2).f0) ≤ ((rd_T45 l0 (ji17)).f0)
               ·rw [if_pos c20] at H
                have c20b0 : decide (((rd_T45 l0 x3_2).f0) ≤ ((rd_T45 l0 (ji17)).f0)) = true := decide_eq_true c20
                clear c20
                obtain rfl := Option.some.inj H
                have p222 : 0 ≤ (x3_2 : Int) := of_decide_eq_true (by first | (with_reducible assumption) | assumption)
                have q222 : x3_2 < (l0.length : Int) := of_decide_eq_true (by first | (with_reducible assumption) | assumption)
                obtain ⟨ad222, e222, hx222_0, hx222_1⟩ := at_T45 HR0.out x3_2 p222 q222
                cases e222
                replace p222 := eq_true p222
                replace q222 := eq_true q222
                have p223 : 0 ≤ ((ji17) : Int) := of_decide_eq_true (by first | (with_reducible assumption) | assumption)
                have q223 : (ji17) < (l0.length : Int) := of_decide_eq_true (by first | (with_reducible assumption) | assumption)
                obtain ⟨ad223, e223, hx223_0, hx223_1⟩ := at_T45 HR0.out (ji17) p223 q223
                obtain rfl : ad222 = ad223 := (by injection e223)
                replace p223 := eq_true p223
                replace q223 := eq_true q223
                go_wp2
                repeat (go_quiet (fail); try go_wp2)
                go_ret
                exact ⟨by first | rfl | (simp; done) | (simp only [← hji17] <;> (first | rfl | simp)) | (simp [*]; done), by repeat (first | exact Drawn0.refl _ | apply Drawn0.step)⟩
               ·rw [if_neg c20] at H
                have c20b0 : decide (((rd_T45 l0 x3_2).f0) ≤ ((rd_T45 l0 (ji17)).f0)) = false := decide_eq_false c20
                clear c20
                by_cases c21 : ((rd_T45 l0 x3_2).f1) = ((rd_T45 l0 (ji17)).f1)
                ·rw [if_pos c21] at H
                 have c21b0 : (((rd_T45 l0 x3_2).f1) == ((rd_T45 l0 (ji17)).f1)) = true := beq_iff_eq.mpr c21
                 have c21b1 : (((rd_T45 l0 x3_2).f1) != ((rd_T45 l0 (ji17)).f1)) = false := bne_eq_false_iff_eq.mpr c21
                 clear c21
                 obtain rfl := Option.some.inj H
                 have p222 : 0 ≤ (x3_2 : Int) := of_decide_eq_true (by first | (with_reducible assumption) | assumption)
                 have q222 : x3_2 < (l0.length : Int) := of_decide_eq_true (by first | (with_reducible assumption) | assumption)
                 obtain ⟨ad222, e222, hx222_0, hx222_1⟩ := at_T45 HR0.out x3_2 p222 q222
                 cases e222
                 replace p222 := eq_true p222
                 replace q222 := eq_true q222
                 have p223 : 0 ≤ ((ji17) : Int) := of_decide_eq_true (by first | (with_reducible assumption) | assumption)
                 have q223 : (ji17) < (l0.length : Int) := of_decide_eq_true (by first | (with_reducible assumption) | assumption)
                 obtain ⟨ad223, e223, hx223_0, hx223_1⟩ := at_T45 HR0.out (ji17) p223 q223
                 obtain rfl : ad222 = ad223 := (by injection e223)
                 replace p223 := eq_true p223
                 replace q223 := eq_true q223
                 have p224 : 0 ≤ (x3_2 : Int) := of_decide_eq_true (by first | (with_reducible assumption) | assumption)
                 have q224 : x3_2 < (l0.length : Int) := of_decide_eq_true (by first | (with_reducible assumption) | assumption)
                 obtain ⟨ad224, e224, hx224_0, hx224_1⟩ := at_T45 HR0.out x3_2 p224 q224
                 obtain rfl : ad222 = ad224 := (by injection e224)
                 replace p224 := eq_true p224
                 replace q224 := eq_true q224
                 have p225 : 0 ≤ ((ji17) : Int) := of_decide_eq_true (by first | (with_reducible assumption) | assumption)
                 have q225 : (ji17) < (l0.length : Int) := of_decide_eq_true (by first | (with_reducible assumption) | assumption)
                 obtain ⟨ad225, e225, hx225_0, hx225_1⟩ := at_T45 HR0.out (ji17) p225 q225
                 obtain rfl : ad222 = ad225 := (by injection e225)
                 replace p225 := eq_true p225
                 replace q225 := eq_true q225
                 go_wp2
                 repeat (go_quiet (fail); try go_wp2)
                 go_ret
                 exact ⟨by first | rfl | (simp; done) | (simp only [← hji17] <;> (first | rfl | simp)) | (simp [*]; done), by repeat (first | exact Drawn0.refl _ | apply Drawn0.step)⟩
                ·rw [if_neg c21] at H
                 have c21b0 : (((rd_T45 l0 x3_2).f1) == ((rd_T45 l0 (ji17)).f1)) = false := beq_eq_false_iff_ne.mpr c21
                 have c21b1 : (((rd_T45 l0 x3_2).f1) != ((rd_T45 l0 (ji17)).f1)) = true := bne_iff_ne.mpr c21
                 have H' := Aside0.mk H
                 clear H
                 have p222 : 0 ≤ (x3_2 : Int) := of_decide_eq_true (by first | (with_reducible assumption) | assumption)
                 have q222 : x3_2 < (l0.length : Int) := of_decide_eq_true (by first | (with_reducible assumption) | assumption)
                 obtain ⟨ad222, e222, hx222_0, hx222_1⟩ := at_T45 HR0.out x3_2 p222 q222
                 cases e222
                 replace p222 := eq_true p222
                 replace q222 := eq_true q222
                 have p223 : 0 ≤ ((ji17) : Int) := of_decide_eq_true (by first | (with_reducible assumption) | assumption)
                 have q223 : (ji17) < (l0.length : Int) := of_decide_eq_true (by first | (with_reducible assumption) | assumption)
                 obtain ⟨ad223, e223, hx223_0, hx223_1⟩ := at_T45 HR0.out (ji17) p223 q223
                 obtain rfl : ad222 = ad223 := (by injection e223)
                 replace p223 := eq_true p223
                 replace q223 := eq_true q223
                 have p224 : 0 ≤ (x3_2 : Int) := of_decide_eq_true (by first | (with_reducible assumption) | assumption)
                 have q224 : x3_2 < (l0.length : Int) := of_decide_eq_true (by first | (with_reducible assumption) | assumption)
                 obtain ⟨ad224, e224, hx224_0, hx224_1⟩ := at_T45 HR0.out x3_2 p224 q224
                 obtain rfl : ad222 = ad224 := (by injection e224)
                 replace p224 := eq_true p224
                 replace q224 := eq_true q224
                 have p225 : 0 ≤ ((ji17) : Int) := of_decide_eq_true (by first | (with_reducible assumption) | assumption)
                 have q225 : (ji17) < (l0.length : Int) := of_decide_eq_true (by first | (with_reducible assumption) | assumption)
                 obtain ⟨ad225, e225, hx225_0, hx225_1⟩ := at_T45 HR0.out (ji17) p225 q225
                 obtain rfl : ad222 = ad225 := (by injection e225)
                 replace p225 := eq_true p225
                 replace q225 := eq_true q225
                 go_wp2
                 repeat (go_quiet (fail); try go_wp2)
                 go_roundg kj7
                 case measure => have := HJ1.out; have := HK2.out; have := HJ7.out; omega
                 case rel => exact ⟨(wrap64 (x3_2 + 1)), (by first | rfl | (simp; done) | (simp [*]; done)), H', ⟨by have := HJ1.out; have := HK2.out; have := HJ7.out; omega⟩, by repeat (first | exact Drawn0.refl _ | apply Drawn0.step)⟩
              ·rw [if_neg c19] at H
               exact absurd H (by simp)
             ·rw [if_neg c18] at H
              exact absurd H (by simp)
            ·rw [if_neg c16] at H
             exact absurd H (by simp)
           ·rw [if_neg c15] at H
            exact absurd H (by simp)
          ·rw [if_neg c14] at H
           have c14b0 : decide (0 < x3_2) = false := decide_eq_false c14
           clear c14
           have H' := Aside0.mk H
           clear H
           go_wp2
           repeat (go_quiet (fail); try go_wp2)
           go_roundg kj7
           case measure => have := HJ1.out; have := HK2.out; have := HJ7.out; omega
           case rel => exact ⟨(wrap64 (x3_2 + 1)), (by first | rfl | (simp; done) | (simp [*]; done)), H', ⟨by have := HJ1.out; have := HK2.out; have := HJ7.out; omega⟩, by repeat (first | exact Drawn0.refl _ | apply Drawn0.step)⟩
      ·rw [if_neg c7] at H
       have c7b0 : decide (x3_2 < (l0.length : Int)) = false := decide_eq_false c7
       clear c7
       obtain rfl := Option.some.inj H
       go_wp2
       repeat (go_quiet (fail); try go_wp2)
       go_ret
       exact ⟨by first | rfl | (simp; done) | (simp [*]; done), by repeat (first | exact Drawn0.refl _ | apply Drawn0.step)⟩

end Go.Proofs.Ytimllhflecippaa.F
end

section
namespace Go.Proofs.Ytimllhflecippaa.F
open Go.RowKit Go.Proofs.YtimllhflecippaaW.PrintWords Go.Proofs.YtimllhflecippaaW.PrintLast Go.Proofs.YtimllhflecippaaW.PrintMore
attribute [local go_sem] max2_int min2_int max_two min_two
set_option linter.unusedVariables false
set_option linter.unusedSimpArgs false

def bailiwickref04_Right.l0 : Nat → List (List (S45)) → Int → Option (Bool)
 | 0, _, _ => none
 | k + 1, x0, x3 => if x3 < (x0.length : Int) then (if x3 > 3 then (some false) else (if 0 ≤ x3 then ((bailiwickref03_Right.f k (rd_L2 x0 x3)).bind fun t452 => (if t452 = true then (bailiwickref04_Right.l0 k x0 (wrap64 (x3 + 1))) else (some false))) else (none))) else (some (decide ((x0.length : Int) > 0)))
def bailiwickref04_Right.f (k : Nat) (l0 : List (List (S45))) : Option (Bool) := bailiwickref04_Right.l0 k l0 0
set_option maxHeartbeats 8000000 in
set_option maxRecDepth 100000 in
theorem bailiwickref04_Right.calls (k : Nat) (A0 : Option Addr) (c0 : Nat) (l0 : List (List (S45))) (r : Bool) (w : World) (hr0 : Kd.C (Kd.slice 45 k45) w A0 l0.length l0) (hc0 : l0.length ≤ c0) (h : bailiwickref04_Right.f k l0 = some r) :
  Calls Try.prog 45 #[.slice A0 l0.length c0] w fun e w' => e = .returned (.bool r) ∧ Drawn0 w w' := by
 have HR0 := Aside0.mk hr0
 have HC0 := Aside0.mk hc0
 clear hr0 hc0
 have H : (bailiwickref04_Right.l0 k l0 0) = some r := h
 clear h
 have H' := Aside0.mk H
 clear H
 go_enter Try.func45, Try.ntmps45
 go_wp2
 go_loopg [3] k (fun kq v3 w' => ∃ (x3_1 : Int), v3 = .int .i64 x3_1 ∧ Aside0 (bailiwickref04_Right.l0 kq l0 x3_1 = some r) ∧ Aside0 (kq ≤ k) ∧ Drawn0 w w')
 case atStart => exact ⟨(0), (by first | rfl | (simp; done) | (simp [*]; done)), H', ⟨Nat.le_refl _⟩, by repeat (first | exact Drawn0.refl _ | apply Drawn0.step)⟩
 case round =>
  clear H'
  obtain ⟨x3_1, rfl, HA, HK1, ⟨m1, rfl⟩⟩ := hrel
  cases gk with
  | zero => exact absurd HA.out (by simp [bailiwickref04_Right.l0])
  | succ k1 =>
   have H := HA.out
   clear HA
   simp only [bailiwickref04_Right.l0] at H
   by_cases c2 : x3_1 < (l0.length : Int)
   ·rw [if_pos c2] at H
    have c2b0 : decide (x3_1 < (l0.length : Int)) = true := decide_eq_true c2
    clear c2
    by_cases c3 : x3_1 > 3
    ·rw [if_pos c3] at H
     have c3b0 : decide (3 < x3_1) = true := decide_eq_true c3
     clear c3
     obtain rfl := Option.some.inj H
     go_wp2
     go_ret
     exact ⟨by first | rfl | (simp; done) | (simp [*]; done), by repeat (first | exact Drawn0.refl _ | apply Drawn0.step)⟩
    ·rw [if_neg c3] at H
     have c3b0 : decide (3 < x3_1) = false := decide_eq_false c3
     clear c3
     by_cases c4 : 0 ≤ x3_1
     ·rw [if_pos c4] at H
      have c4b0 : decide (0 ≤ x3_1) = true := decide_eq_true c4
      clear c4
      replace H := Option.bind_eq_some_iff.mp H
      obtain ⟨t452, A50, H⟩ := H
      replace H : (if t452 = true then (bailiwickref04_Right.l0 k1 l0 (wrap64 (x3_1 + 1))) else (some false)) = some r := H
      have A5 := Aside0.mk A50
      clear A50
      by_cases c6 : t452 = true
      ·subst c6
       have H1 : (bailiwickref04_Right.l0 k1 l0 (wrap64 (x3_1 + 1))) = some r := by rw [if_pos rfl] at H; exact H
       clear H
       have H := H1
       clear H1
       have H' := Aside0.mk H
       clear H
       have p451 : 0 ≤ (x3_1 : Int) := of_decide_eq_true (by first | (with_reducible assumption) | assumption)
       have q451 : x3_1 < (l0.length : Int) := of_decide_eq_true (by first | (with_reducible assumption) | assumption)
       obtain ⟨ad451, A451_0, c451_0, e451, hx451_0, hl451_0, hi451_0⟩ := at_L2 HR0.out x3_1 p451 q451
       cases e451
       have HR451_0 := Aside0.mk hi451_0
       have HC451_0 := Aside0.mk hl451_0
       clear hi451_0 hl451_0
       replace p451 := eq_true p451
       replace q451 := eq_true q451
       go_wp2_with (first | (go_at_call 30; (with_reducible refine (bailiwickref03_Right.calls k1 _ _ (rd_L2 l0 x3_1) true _ ?side1 ?side2 A5.out).mono ?_); (case side1 => repeat (first | exact HR451_0.out | (with_reducible refine Kd.C_alloc ?_ _) | (with_reducible refine Kd.C_drewN ?_ _) | (with_reducible refine Kd.C_drew ?_))); (case side2 => exact HC451_0.out); rintro e w' ⟨rfl, ⟨nd, rfl⟩⟩))
       go_roundg k1
       case measure => have := HK1.out; omega
       case rel => exact ⟨(wrap64 (x3_1 + 1)), (by first | rfl | (simp; done) | (simp [*]; done)), H', ⟨by have := HK1.out; omega⟩, by repeat (first | exact Drawn0.refl _ | apply Drawn0.step)⟩
      ·replace c6 := Bool.eq_false_iff.mpr c6
       subst c6
       have H1 : (some false) = some r := by rw [if_neg (show ¬ (false = true) by decide)] at H; exact H
       clear H
       have H := H1
       clear H1
       obtain rfl := Option.some.inj H
       have p451 : 0 ≤ (x3_1 : Int) := of_decide_eq_true (by first | (with_reducible assumption) | assumption)
       have q451 : x3_1 < (l0.length : Int) := of_decide_eq_true (by first | (with_reducible assumption) | assumption)
       obtain ⟨ad451, A451_0, c451_0, e451, hx451_0, hl451_0, hi451_0⟩ := at_L2 HR0.out x3_1 p451 q451
       cases e451
       have HR451_0 := Aside0.mk hi451_0
       have HC451_0 := Aside0.mk hl451_0
       clear hi451_0 hl451_0
       replace p451 := eq_true p451
       replace q451 := eq_true q451
       go_wp2_with (first | (go_at_call 30; (with_reducible refine (bailiwickref03_Right.calls k1 _ _ (rd_L2 l0 x3_1) false _ ?side1 ?side2 A5.out).mono ?_); (case side1 => repeat (first | exact HR451_0.out | (with_reducible refine Kd.C_alloc ?_ _) | (with_reducible refine Kd.C_drewN ?_ _) | (with_reducible refine Kd.C_drew ?_))); (case side2 => exact HC451_0.out); rintro e w' ⟨rfl, ⟨nd, rfl⟩⟩))
       go_ret
       exact ⟨by first | rfl | (simp; done) | (simp [*]; done), by repeat (first | exact Drawn0.refl _ | apply Drawn0.step)⟩
     ·rw [if_neg c4] at H
      exact absurd H (by simp)
   ·rw [if_neg c2] at H
    have c2b0 : decide (x3_1 < (l0.length : Int)) = false := decide_eq_false c2
    clear c2
    obtain rfl := Option.some.inj H
    go_wp2
    go_ret
    exact ⟨by first | rfl | (simp; done) | (simp [*]; done), by repeat (first | exact Drawn0.refl _ | apply Drawn0.step)⟩

-- NOT PRINTED: function 43 (bailiwickref04_Change)

end Go.Proofs.Ytimllhflecippaa.F
end

section
namespace Go.Proofs.Ytimllhflecippaa.F
open Go.RowKit Go.Proofs.YtimllhflecippaaW.PrintWords Go.Proofs.YtimllhflecippaaW.PrintLast Go.Proofs.YtimllhflecippaaW.PrintMore
attribute [local go_sem] max2_int min2_int max_two min_two
set_option linter.unusedVariables false
set_option linter.unusedSimpArgs false

theorem eqA45 (d : Nat) (w : World) (x0 y0 : Int) (x1 y1 : Int) :
  (Op.equalIn (d + 2) 45 (.agg #[.int .i64 x0, .int .i64 x1]) (.agg #[.int .i64 y0, .int .i64 y1])).run Try.prog w = .ok (x0 == y0 && (x1 == y1)) w := by
 refine eqA_of Try.underlying45 (by kernel_rfl) ?_
 refine eqf_cons (by rfl) (by go_simp; rfl) (by go_simp; rfl) (by go_simp) ?_
 exact eqf_last (by rfl) (by go_simp; rfl) (by go_simp; rfl) (by go_simp)
end Go.Proofs.Ytimllhflecippaa.F
end

section
namespace Go.Proofs.Ytimllhflecippaa.F
open Go.RowKit Go.Proofs.YtimllhflecippaaW.PrintWords Go.Proofs.YtimllhflecippaaW.PrintLast Go.Proofs.YtimllhflecippaaW.PrintMore
attribute [local go_sem] max2_int min2_int max_two min_two
set_option linter.unusedVariables false
set_option linter.unusedSimpArgs false

attribute [local go_sem high] eqA45
def bailiwickref03_Same.l0 : Nat → List (S45) → List (S45) → Int → Option (Bool)
 | 0, _, _, _ => none
 | k + 1, x0, x1, x5 => if x5 < (x0.length : Int) then (if 0 ≤ x5 then (if x5 < (x1.length : Int) then (if (!(((rd_T45 x0 x5).f0) == ((rd_T45 x1 x5).f0)) || (!(((rd_T45 x0 x5).f1) == ((rd_T45 x1 x5).f1)))) = true then (some false) else (bailiwickref03_Same.l0 k x0 x1 (wrap64 (x5 + 1)))) else (none)) else (none)) else (some true)
def bailiwickref03_Same.f (k : Nat) (l0 : List (S45)) (l1 : List (S45)) : Option (Bool) := if (l0.length : Int) = (l1.length : Int) then (bailiwickref03_Same.l0 k l0 l1 0) else (some false)
set_option maxHeartbeats 8000000 in
set_option maxRecDepth 100000 in
theorem bailiwickref03_Same.calls (k : Nat) (A0 : Option Addr) (c0 : Nat) (l0 : List (S45)) (A1 : Option Addr) (c1 : Nat) (l1 : List (S45)) (r : Bool) (w : World) (hr0 : Kd.C k45 w A0 l0.length l0) (hc0 : l0.length ≤ c0) (hr1 : Kd.C k45 w A1 l1.length l1) (hc1 : l1.length ≤ c1) (h : bailiwickref03_Same.f k l0 l1 = some r) :
  Calls Try.prog 22 #[.slice A0 l0.length c0, .slice A1 l1.length c1] w fun e w' => e = .returned (.bool r) ∧ Drawn0 w w' := by
 have hu45 := Try.underlying45
 have HR0 := Aside0.mk hr0
 have HC0 := Aside0.mk hc0
 clear hr0 hc0
 have HR1 := Aside0.mk hr1
 have HC1 := Aside0.mk hc1
 clear hr1 hc1
 have H : (if (l0.length : Int) = (l1.length : Int) then (bailiwickref03_Same.l0 k l0 l1 0) else (some false)) = some r := h
 clear h
 by_cases c3 : (l0.length : Int) = (l1.length : Int)
 ·rw [if_pos c3] at H
  have c3b0 : ((l0.length : Int) == (l1.length : Int)) = true := beq_iff_eq.mpr c3
  have c3b1 : ((l0.length : Int) != (l1.length : Int)) = false := bne_eq_false_iff_eq.mpr c3
  have c3b2 : (l0.length == l1.length) = true := by first | simpa using c3 | (simp at c3 ⊢; omega)
  clear c3
  have H' := Aside0.mk H
  clear H
  go_enter Try.func22, Try.ntmps22
  go_wp2
  repeat (go_quiet (fail); try go_wp2)
  go_loopg [5] k (fun kq v5 w' => ∃ (x5_1 : Int), v5 = .int .i64 x5_1 ∧ Aside0 (bailiwickref03_Same.l0 kq l0 l1 x5_1 = some r) ∧ Aside0 (kq ≤ k) ∧ Drawn0 w w')
  case atStart => exact ⟨(0), (by first | rfl | (simp; done) | (simp [*]; done)), H', ⟨Nat.le_refl _⟩, by repeat (first | exact Drawn0.refl _ | apply Drawn0.step)⟩
  case round =>
   clear H'
   try clear c1
   try clear c2
   try clear p2
   try clear c3
   try clear c3b0
   try clear c3b1
   try clear c3b2
   obtain ⟨x5_1, rfl, HA, HK1, ⟨m1, rfl⟩⟩ := hrel
   cases gk with
   | zero => exact absurd HA.out (by simp [bailiwickref03_Same.l0])
   | succ k1 =>
    have H := HA.out
    clear HA
    simp only [bailiwickref03_Same.l0] at H
    by_cases c4 : x5_1 < (l0.length : Int)
    ·rw [if_pos c4] at H
     have c4b0 : decide (x5_1 < (l0.length : Int)) = true := decide_eq_true c4
     clear c4
     by_cases c5 : 0 ≤ x5_1
     ·rw [if_pos c5] at H
      have c5b0 : decide (0 ≤ x5_1) = true := decide_eq_true c5
      clear c5
      by_cases c6 : x5_1 < (l1.length : Int)
      ·rw [if_pos c6] at H
       have c6b0 : decide (x5_1 < (l1.length : Int)) = true := decide_eq_true c6
       clear c6
       by_cases c7 : (!(((rd_T45 l0 x5_1).f0) == ((rd_T45 l1 x5_1).f0)) || (!(((rd_T45 l0 x5_1).f1) == ((rd_T45 l1 x5_1).f1)))) = true
       ·rw [if_pos c7] at H
        have c7b0 : (!(((rd_T45 l0 x5_1).f0) == ((rd_T45 l1 x5_1).f0)) || (!(((rd_T45 l0 x5_1).f1) == ((rd_T45 l1 x5_1).f1)))) = true := c7
        clear c7
        obtain rfl := Option.some.inj H
        have p180 : 0 ≤ (x5_1 : Int) := of_decide_eq_true (by first | (with_reducible assumption) | assumption)
        have q180 : x5_1 < (l0.length : Int) := of_decide_eq_true (by first | (with_reducible assumption) | assumption)
        obtain ⟨ad180, e180, hx180_0, hx180_1⟩ := at_T45 HR0.out x5_1 p180 q180
        cases e180
        replace p180 := eq_true p180
        replace q180 := eq_true q180
        have p181 : 0 ≤ (x5_1 : Int) := of_decide_eq_true (by first | (with_reducible assumption) | assumption)
        have q181 : x5_1 < (l1.length : Int) := of_decide_eq_true (by first | (with_reducible assumption) | assumption)
        obtain ⟨ad181, e181, hx181_0, hx181_1⟩ := at_T45 HR1.out x5_1 p181 q181
        cases e181
        replace p181 := eq_true p181
        replace q181 := eq_true q181
        go_wp2
        repeat (go_quiet (fail); try go_wp2)
        go_ret
        exact ⟨by first | rfl | (simp; done) | (simp [*]; done), by repeat (first | exact Drawn0.refl _ | apply Drawn0.step)⟩
       ·rw [if_neg c7] at H
        have c7b0 : (!(((rd_T45 l0 x5_1).f0) == ((rd_T45 l1 x5_1).f0)) || (!(((rd_T45 l0 x5_1).f1) == ((rd_T45 l1 x5_1).f1)))) = false := by simpa using c7
        clear c7
        have H' := Aside0.mk H
        clear H
        have p180 : 0 ≤ (x5_1 : Int) := of_decide_eq_true (by first | (with_reducible assumption) | assumption)
        have q180 : x5_1 < (l0.length : Int) := of_decide_eq_true (by first | (with_reducible assumption) | assumption)
        obtain ⟨ad180, e180, hx180_0, hx180_1⟩ := at_T45 HR0.out x5_1 p180 q180
        cases e180
        replace p180 := eq_true p180
        replace q180 := eq_true q180
        have p181 : 0 ≤ (x5_1 : Int) := of_decide_eq_true (by first | (with_reducible assumption) | assumption)
        have q181 : x5_1 < (l1.length : Int) := of_decide_eq_true (by first | (with_reducible assumption) | assumption)
        obtain ⟨ad181, e181, hx181_0, hx181_1⟩ := at_T45 HR1.out x5_1 p181 q181
        cases e181
        replace p181 := eq_true p181
        replace q181 := eq_true q181
        go_wp2
        repeat (go_quiet (fail); try go_wp2)
        go_roundg k1
        case measure => have := HK1.out; omega
        case rel => exact ⟨(wrap64 (x5_1 + 1)), (by first | rfl | (simp; done) | (simp [*]; done)), H', ⟨by have := HK1.out; omega⟩, by repeat (first | exact Drawn0.refl _ | apply Drawn0.step)⟩
      ·rw [if_neg c6] at H
       exact absurd H (by simp)
     ·rw [if_neg c5] at H
      exact absurd H (by simp)
    ·rw [if_neg c4] at H
     have c4b0 : decide (x5_1 < (l0.length : Int)) = false := decide_eq_false c4
     clear c4
     obtain rfl := Option.some.inj H
     go_wp2
     repeat (go_quiet (fail); try go_wp2)
     go_ret
     exact ⟨by first | rfl | (simp; done) | (simp [*]; done), by repeat (first | exact Drawn0.refl _ | apply Drawn0.step)⟩
 ·rw [if_neg c3] at H
  have c3b0 : ((l0.length : Int) == (l1.length : Int)) = false := beq_eq_false_iff_ne.mpr c3
  have c3b1 : ((l0.length : Int) != (l1.length : Int)) = true := bne_iff_ne.mpr c3
  have c3b2 : (l0.length == l1.length) = false := by first | simpa using c3 | (simp at c3 ⊢; omega)
  obtain rfl := Option.some.inj H
  go_enter Try.func22, Try.ntmps22
  go_wp2
  repeat (go_quiet (fail); try go_wp2)
  go_ret
  exact ⟨by first | rfl | (simp; done) | (simp [*]; done), by repeat (first | exact Drawn0.refl _ | apply Drawn0.step)⟩

end Go.Proofs.Ytimllhflecippaa.F
end

section
namespace Go.Proofs.Ytimllhflecippaa.F
open Go.RowKit Go.Proofs.YtimllhflecippaaW.PrintWords Go.Proofs.YtimllhflecippaaW.PrintLast Go.Proofs.YtimllhflecippaaW.PrintMore
attribute [local go_sem] max2_int min2_int max_two min_two
set_option linter.unusedVariables false
set_option linter.unusedSimpArgs false

def bailiwickref04_Same.l0 : Nat → List (List (S45)) → List (List (S45)) → Int → Option (Bool)
 | 0, _, _, _ => none
 | k + 1, x0, x1, x5 => if x5 < (x0.length : Int) then (if 0 ≤ x5 then (if x5 < (x1.length : Int) then ((bailiwickref03_Same.f k (rd_L2 x0 x5) (rd_L2 x1 x5)).bind fun t478 => (if t478 = true then (bailiwickref04_Same.l0 k x0 x1 (wrap64 (x5 + 1))) else (some false))) else (none)) else (none)) else (some true)
def bailiwickref04_Same.f (k : Nat) (l0 : List (List (S45))) (l1 : List (List (S45))) : Option (Bool) := if (l0.length : Int) = (l1.length : Int) then (bailiwickref04_Same.l0 k l0 l1 0) else (some false)
set_option maxHeartbeats 8000000 in
set_option maxRecDepth 100000 in
theorem bailiwickref04_Same.calls (k : Nat) (A0 : Option Addr) (c0 : Nat) (l0 : List (List (S45))) (A1 : Option Addr) (c1 : Nat) (l1 : List (List (S45))) (r : Bool) (w : World) (hr0 : Kd.C (Kd.slice 45 k45) w A0 l0.length l0) (hc0 : l0.length ≤ c0) (hr1 : Kd.C (Kd.slice 45 k45) w A1 l1.length l1) (hc1 : l1.length ≤ c1) (h : bailiwickref04_Same.f k l0 l1 = some r) :
  Calls Try.prog 46 #[.slice A0 l0.length c0, .slice A1 l1.length c1] w fun e w' => e = .returned (.bool r) ∧ Drawn0 w w' := by
 have HR0 := Aside0.mk hr0
 have HC0 := Aside0.mk hc0
 clear hr0 hc0
 have HR1 := Aside0.mk hr1
 have HC1 := Aside0.mk hc1
 clear hr1 hc1
 have H : (if (l0.length : Int) = (l1.length : Int) then (bailiwickref04_Same.l0 k l0 l1 0) else (some false)) = some r := h
 clear h
 by_cases c3 : (l0.length : Int) = (l1.length : Int)
 ·rw [if_pos c3] at H
  have c3b0 : ((l0.length : Int) == (l1.length : Int)) = true := beq_iff_eq.mpr c3
  have c3b1 : ((l0.length : Int) != (l1.length : Int)) = false := bne_eq_false_iff_eq.mpr c3
  have c3b2 : (l0.length == l1.length) = true := by first | simpa using c3 | (simp at c3 ⊢; omega)
  clear c3
  have H' := Aside0.mk H
  clear H
  go_enter Try.func46, Try.ntmps46
  go_wp2
  repeat (go_quiet (fail); try go_wp2)
  go_loopg [5] k (fun kq v5 w' => ∃ (x5_1 : Int), v5 = .int .i64 x5_1 ∧ Aside0 (bailiwickref04_Same.l0 kq l0 l1 x5_1 = some r) ∧ Aside0 (kq ≤ k) ∧ Drawn0 w w')
  case atStart => exact ⟨(0), (by first | rfl | (simp; done) | (simp [*]; done)), H', ⟨Nat.le_refl _⟩, by repeat (first | exact Drawn0.refl _ | apply Drawn0.step)⟩
  case round =>
   clear H'
   try clear c1
   try clear p2
   try clear c3
   try clear c3b0
   try clear c3b1
   try clear c3b2
   obtain ⟨x5_1, rfl, HA, HK1, ⟨m1, rfl⟩⟩ := hrel
   cases gk with
   | zero => exact absurd HA.out (by simp [bailiwickref04_Same.l0])
   | succ k1 =>
    have H := HA.out
    clear HA
    simp only [bailiwickref04_Same.l0] at H
    by_cases c4 : x5_1 < (l0.length : Int)
    ·rw [if_pos c4] at H
     have c4b0 : decide (x5_1 < (l0.length : Int)) = true := decide_eq_true c4
     clear c4
     by_cases c5 : 0 ≤ x5_1
     ·rw [if_pos c5] at H
      have c5b0 : decide (0 ≤ x5_1) = true := decide_eq_true c5
      clear c5
      by_cases c6 : x5_1 < (l1.length : Int)
      ·rw [if_pos c6] at H
       have c6b0 : decide (x5_1 < (l1.length : Int)) = true := decide_eq_true c6
       clear c6
       replace H := Option.bind_eq_some_iff.mp H
       obtain ⟨t478, A70, H⟩ := H
       replace H : (if t478 = true then (bailiwickref04_Same.l0 k1 l0 l1 (wrap64 (x5_1 + 1))) else (some false)) = some r := H
       have A7 := Aside0.mk A70
       clear A70
       by_cases c8 : t478 = true
       ·subst c8
        have H1 : (bailiwickref04_Same.l0 k1 l0 l1 (wrap64 (x5_1 + 1))) = some r := by rw [if_pos rfl] at H; exact H
        clear H
        have H := H1
        clear H1
        have H' := Aside0.mk H
        clear H
        have p476 : 0 ≤ (x5_1 : Int) := of_decide_eq_true (by first | (with_reducible assumption) | assumption)
        have q476 : x5_1 < (l0.length : Int) := of_decide_eq_true (by first | (with_reducible assumption) | assumption)
        obtain ⟨ad476, A476_0, c476_0, e476, hx476_0, hl476_0, hi476_0⟩ := at_L2 HR0.out x5_1 p476 q476
        cases e476
        have HR476_0 := Aside0.mk hi476_0
        have HC476_0 := Aside0.mk hl476_0
        clear hi476_0 hl476_0
        replace p476 := eq_true p476
        replace q476 := eq_true q476
        have p477 : 0 ≤ (x5_1 : Int) := of_decide_eq_true (by first | (with_reducible assumption) | assumption)
        have q477 : x5_1 < (l1.length : Int) := of_decide_eq_true (by first | (with_reducible assumption) | assumption)
        obtain ⟨ad477, A477_0, c477_0, e477, hx477_0, hl477_0, hi477_0⟩ := at_L2 HR1.out x5_1 p477 q477
        cases e477
        have HR477_0 := Aside0.mk hi477_0
        have HC477_0 := Aside0.mk hl477_0
        clear hi477_0 hl477_0
        replace p477 := eq_true p477
        replace q477 := eq_true q477
        go_wp2_with (first | (go_at_call 22; (with_reducible refine (bailiwickref03_Same.calls k1 _ _ (rd_L2 l0 x5_1) _ _ (rd_L2 l1 x5_1) true _ ?side1 ?side2 ?side3 ?side4 A7.out).mono ?_); (case side1 => repeat (first | exact HR476_0.out | (with_reducible refine Kd.C_alloc ?_ _) | (with_reducible refine Kd.C_drewN ?_ _) | (with_reducible refine Kd.C_drew ?_))); (case side2 => exact HC476_0.out); (case side3 => repeat (first | exact HR477_0.out | (with_reducible refine Kd.C_alloc ?_ _) | (with_reducible refine Kd.C_drewN ?_ _) | (with_reducible refine Kd.C_drew ?_))); (case side4 => exact HC477_0.out); rintro e w' ⟨rfl, ⟨nd, rfl⟩⟩; (try first | exact ⟨rfl, _, World.drewN_drewN _ _ _⟩ | exact ⟨rfl, _, Eq.trans (World.drewN_drewN _ _ _) (congrArg (World.drewN _) (Nat.add_assoc _ _ _))⟩)))
        repeat (go_quiet (first | (go_at_call 22; (with_reducible refine (bailiwickref03_Same.calls k1 _ _ (rd_L2 l0 x5_1) _ _ (rd_L2 l1 x5_1) true _ ?side1 ?side2 ?side3 ?side4 A7.out).mono ?_); (case side1 => repeat (first | exact HR476_0.out | (with_reducible refine Kd.C_alloc ?_ _) | (with_reducible refine Kd.C_drewN ?_ _) | (with_reducible refine Kd.C_drew ?_))); (case side2 => exact HC476_0.out); (case side3 => repeat (first | exact HR477_0.out | (with_reducible refine Kd.C_alloc ?_ _) | (with_reducible refine Kd.C_drewN ?_ _) | (with_reducible refine Kd.C_drew ?_))); (case side4 => exact HC477_0.out); rintro e w' ⟨rfl, ⟨nd, rfl⟩⟩; (try first | exact ⟨rfl, _, World.drewN_drewN _ _ _⟩ | exact ⟨rfl, _, Eq.trans (World.drewN_drewN _ _ _) (congrArg (World.drewN _) (Nat.add_assoc _ _ _))⟩))); try go_wp2_with (first | (go_at_call 22; (with_reducible refine (bailiwickref03_Same.calls k1 _ _ (rd_L2 l0 x5_1) _ _ (rd_L2 l1 x5_1) true _ ?side1 ?side2 ?side3 ?side4 A7.out).mono ?_); (case side1 => repeat (first | exact HR476_0.out | (with_reducible refine Kd.C_alloc ?_ _) | (with_reducible refine Kd.C_drewN ?_ _) | (with_reducible refine Kd.C_drew ?_))); (case side2 => exact HC476_0.out); (case side3 => repeat (first | exact HR477_0.out | (with_reducible refine Kd.C_alloc ?_ _) | (with_reducible refine Kd.C_drewN ?_ _) | (with_reducible refine Kd.C_drew ?_))); (case side4 => exact HC477_0.out); rintro e w' ⟨rfl, ⟨nd, rfl⟩⟩; (try first | exact ⟨rfl, _, World.drewN_drewN _ _ _⟩ | exact ⟨rfl, _, Eq.trans (World.drewN_drewN _ _ _) (congrArg (World.drewN _) (Nat.add_assoc _ _ _))⟩))))
        go_roundg k1
        case measure => have := HK1.out; omega
        case rel => exact ⟨(wrap64 (x5_1 + 1)), (by first | rfl | (simp; done) | (simp [*]; done)), H', ⟨by have := HK1.out; omega⟩, by repeat (first | exact Drawn0.refl _ | apply Drawn0.step)⟩
       ·replace c8 := Bool.eq_false_iff.mpr c8
        subst c8
        have H1 : (some false) = some r := by rw [if_neg (show ¬ (false = true) by decide)] at H; exact H
        clear H
        have H := H1
        clear H1
        obtain rfl := Option.some.inj H
        have p476 : 0 ≤ (x5_1 : Int) := of_decide_eq_true (by first | (with_reducible assumption) | assumption)
        have q476 : x5_1 < (l0.length : Int) := of_decide_eq_true (by first | (with_reducible assumption) | assumption)
        obtain ⟨ad476, A476_0, c476_0, e476, hx476_0, hl476_0, hi476_0⟩ := at_L2 HR0.out x5_1 p476 q476
        cases e476
        have HR476_0 := Aside0.mk hi476_0
        have HC476_0 := Aside0.mk hl476_0
        clear hi476_0 hl476_0
        replace p476 := eq_true p476
        replace q476 := eq_true q476
        have p477 : 0 ≤ (x5_1 : Int) := of_decide_eq_true (by first | (with_reducible assumption) | assumption)
        have q477 : x5_1 < (l1.length : Int) := of_decide_eq_true (by first | (with_reducible assumption) | assumption)
        obtain ⟨ad477, A477_0, c477_0, e477, hx477_0, hl477_0, hi477_0⟩ := at_L2 HR1.out x5_1 p477 q477
        cases e477
        have HR477_0 := Aside0.mk hi477_0
        have HC477_0 := Aside0.mk hl477_0
        clear hi477_0 hl477_0
        replace p477 := eq_true p477
        replace q477 := eq_true q477
        go_wp2_with (first | (go_at_call 22; (with_reducible refine (bailiwickref03_Same.calls k1 _ _ (rd_L2 l0 x5_1) _ _ (rd_L2 l1 x5_1) false _ ?side1 ?side2 ?side3 ?side4 A7.out).mono ?_); (case side1 => repeat (first | exact HR476_0.out | (with_reducible refine Kd.C_alloc ?_ _) | (with_reducible refine Kd.C_drewN ?_ _) | (with_reducible refine Kd.C_drew ?_))); (case side2 => exact HC476_0.out); (case side3 => repeat (first | exact HR477_0.out | (with_reducible refine Kd.C_alloc ?_ _) | (with_reducible refine Kd.C_drewN ?_ _) | (with_reducible refine Kd.C_drew ?_))); (case side4 => exact HC477_0.out); rintro e w' ⟨rfl, ⟨nd, rfl⟩⟩; (try first | exact ⟨rfl, _, World.drewN_drewN _ _ _⟩ | exact ⟨rfl, _, Eq.trans (World.drewN_drewN _ _ _) (congrArg (World.drewN _) (Nat.add_assoc _ _ _))⟩)))
        repeat (go_quiet (first | (go_at_call 22; (with_reducible refine (bailiwickref03_Same.calls k1 _ _ (rd_L2 l0 x5_1) _ _ (rd_L2 l1 x5_1) false _ ?side1 ?side2 ?side3 ?side4 A7.out).mono ?_); (case side1 => repeat (first | exact HR476_0.out | (with_reducible refine Kd.C_alloc ?_ _) | (with_reducible refine Kd.C_drewN ?_ _) | (with_reducible refine Kd.C_drew ?_))); (case side2 => exact HC476_0.out); (case side3 => repeat (first | exact HR477_0.out | (with_reducible refine Kd.C_alloc ?_ _) | (with_reducible refine Kd.C_drewN ?_ _) | (with_reducible refine Kd.C_drew ?_))); (case side4 => exact HC477_0.out); rintro e w' ⟨rfl, ⟨nd, rfl⟩⟩; (try first | exact ⟨rfl, _, World.drewN_drewN _ _ _⟩ | exact ⟨rfl, _, Eq.trans (World.drewN_drewN _ _ _) (congrArg (World.drewN _) (Nat.add_assoc _ _ _))⟩))); try go_wp2_with (first | (go_at_call 22; (with_reducible refine (bailiwickref03_Same.calls k1 _ _ (rd_L2 l0 x5_1) _ _ (rd_L2 l1 x5_1) false _ ?side1 ?side2 ?side3 ?side4 A7.out).mono ?_); (case side1 => repeat (first | exact HR476_0.out | (with_reducible refine Kd.C_alloc ?_ _) | (with_reducible refine Kd.C_drewN ?_ _) | (with_reducible refine Kd.C_drew ?_))); (case side2 => exact HC476_0.out); (case side3 => repeat (first | exact HR477_0.out | (with_reducible refine Kd.C_alloc ?_ _) | (with_reducible refine Kd.C_drewN ?_ _) | (with_reducible refine Kd.C_drew ?_))); (case side4 => exact HC477_0.out); rintro e w' ⟨rfl, ⟨nd, rfl⟩⟩; (try first | exact ⟨rfl, _, World.drewN_drewN _ _ _⟩ | exact ⟨rfl, _, Eq.trans (World.drewN_drewN _ _ _) (congrArg (World.drewN _) (Nat.add_assoc _ _ _))⟩))))
        go_ret
        exact ⟨by first | rfl | (simp; done) | (simp [*]; done), by repeat (first | exact Drawn0.refl _ | apply Drawn0.step)⟩
      ·rw [if_neg c6] at H
       exact absurd H (by simp)
     ·rw [if_neg c5] at H
      exact absurd H (by simp)
    ·rw [if_neg c4] at H
     have c4b0 : decide (x5_1 < (l0.length : Int)) = false := decide_eq_false c4
     clear c4
     obtain rfl := Option.some.inj H
     go_wp2
     repeat (go_quiet (fail); try go_wp2)
     go_ret
     exact ⟨by first | rfl | (simp; done) | (simp [*]; done), by repeat (first | exact Drawn0.refl _ | apply Drawn0.step)⟩
 ·rw [if_neg c3] at H
  have c3b0 : ((l0.length : Int) == (l1.length : Int)) = false := beq_eq_false_iff_ne.mpr c3
  have c3b1 : ((l0.length : Int) != (l1.length : Int)) = true := bne_iff_ne.mpr c3
  have c3b2 : (l0.length == l1.length) = false := by first | simpa using c3 | (simp at c3 ⊢; omega)
  obtain rfl := Option.some.inj H
  go_enter Try.func46, Try.ntmps46
  go_wp2
  repeat (go_quiet (fail); try go_wp2)
  go_ret
  exact ⟨by first | rfl | (simp; done) | (simp [*]; done), by repeat (first | exact Drawn0.refl _ | apply Drawn0.step)⟩

-- NOT PRINTED: function 11 (bailiwicklaw04_PoolsRight)

end Go.Proofs.Ytimllhflecippaa.F
end

section
namespace Go.Proofs.Ytimllhflecippaa.F
open Go.RowKit Go.Proofs.YtimllhflecippaaW.PrintWords Go.Proofs.YtimllhflecippaaW.PrintLast Go.Proofs.YtimllhflecippaaW.PrintMore
attribute [local go_sem] max2_int min2_int max_two min_two
set_option linter.unusedVariables false
set_option linter.unusedSimpArgs false

def bailiwicklaw04_short.l0 : Nat → List (List (S45)) → Int → Option (Bool)
 | 0, _, _ => none
 | k + 1, x0, x3 => if x3 < (x0.length : Int) then (if 0 ≤ x3 then (if ((rd_L2 x0 x3).length : Int) > 100 then (some false) else (bailiwicklaw04_short.l0 k x0 (wrap64 (x3 + 1)))) else (none)) else (some true)
def bailiwicklaw04_short.f (k : Nat) (l0 : List (List (S45))) : Option (Bool) := if (l0.length : Int) > 6 then (some false) else (bailiwicklaw04_short.l0 k l0 0)
set_option maxHeartbeats 8000000 in
set_option maxRecDepth 100000 in
theorem bailiwicklaw04_short.calls (k : Nat) (A0 : Option Addr) (c0 : Nat) (l0 : List (List (S45))) (r : Bool) (w : World) (hr0 : Kd.C (Kd.slice 45 k45) w A0 l0.length l0) (hc0 : l0.length ≤ c0) (h : bailiwicklaw04_short.f k l0 = some r) :
  Calls Try.prog 39 #[.slice A0 l0.length c0] w fun e w' => e = .returned (.bool r) ∧ Drawn0 w w' := by
 have HR0 := Aside0.mk hr0
 have HC0 := Aside0.mk hc0
 clear hr0 hc0
 have H : (if (l0.length : Int) > 6 then (some false) else (bailiwicklaw04_short.l0 k l0 0)) = some r := h
 clear h
 by_cases c2 : (l0.length : Int) > 6
 ·rw [if_pos c2] at H
  have c2b0 : decide (6 < (l0.length : Int)) = true := decide_eq_true c2
  have c2b1 : decide (6 < l0.length) = true := decide_eq_true (by omega)
  clear c2
  obtain rfl := Option.some.inj H
  go_enter Try.func39, Try.ntmps39
  go_wp2
  go_ret
  exact ⟨by first | rfl | (simp; done) | (simp [*]; done), by repeat (first | exact Drawn0.refl _ | apply Drawn0.step)⟩
 ·rw [if_neg c2] at H
  have c2b0 : decide (6 < (l0.length : Int)) = false := decide_eq_false c2
  have c2b1 : decide (6 < l0.length) = false := decide_eq_false (by omega)
  clear c2
  have H' := Aside0.mk H
  clear H
  go_enter Try.func39, Try.ntmps39
  go_wp2
  go_loopg [3] k (fun kq v3 w' => ∃ (x3_1 : Int), v3 = .int .i64 x3_1 ∧ Aside0 (bailiwicklaw04_short.l0 kq l0 x3_1 = some r) ∧ Aside0 (kq ≤ k) ∧ Drawn0 w w')
  case atStart => exact ⟨(0), (by first | rfl | (simp; done) | (simp [*]; done)), H', ⟨Nat.le_refl _⟩, by repeat (first | exact Drawn0.refl _ | apply Drawn0.step)⟩
  case round =>
   clear H'
   try clear c2
   try clear c2b0
   try clear c2b1
   try clear p2
   obtain ⟨x3_1, rfl, HA, HK1, ⟨m1, rfl⟩⟩ := hrel
   cases gk with
   | zero => exact absurd HA.out (by simp [bailiwicklaw04_short.l0])
   | succ k1 =>
    have H := HA.out
    clear HA
    simp only [bailiwicklaw04_short.l0] at H
    by_cases c3 : x3_1 < (l0.length : Int)
    ·rw [if_pos c3] at H
     have c3b0 : decide (x3_1 < (l0.length : Int)) = true := decide_eq_true c3
     clear c3
     by_cases c4 : 0 ≤ x3_1
     ·rw [if_pos c4] at H
      have c4b0 : decide (0 ≤ x3_1) = true := decide_eq_true c4
      clear c4
      by_cases c5 : ((rd_L2 l0 x3_1).length : Int) > 100
      ·rw [if_pos c5] at H
       have c5b0 : decide (100 < ((rd_L2 l0 x3_1).length : Int)) = true := decide_eq_true c5
       have c5b1 : decide (100 < (rd_L2 l0 x3_1).length) = true := decide_eq_true (by omega)
       clear c5
       obtain rfl := Option.some.inj H
       have p450 : 0 ≤ (x3_1 : Int) := of_decide_eq_true (by first | (with_reducible assumption) | assumption)
       have q450 : x3_1 < (l0.length : Int) := of_decide_eq_true (by first | (with_reducible assumption) | assumption)
       obtain ⟨ad450, A450_0, c450_0, e450, hx450_0, hl450_0, hi450_0⟩ := at_L2 HR0.out x3_1 p450 q450
       cases e450
       have HR450_0 := Aside0.mk hi450_0
       have HC450_0 := Aside0.mk hl450_0
       clear hi450_0 hl450_0
       replace p450 := eq_true p450
       replace q450 := eq_true q450
       go_wp2
       go_ret
       exact ⟨by first | rfl | (simp; done) | (simp [*]; done), by repeat (first | exact Drawn0.refl _ | apply Drawn0.step)⟩
      ·rw [if_neg c5] at H
       have c5b0 : decide (100 < ((rd_L2 l0 x3_1).length : Int)) = false := decide_eq_false c5
       have c5b1 : decide (100 < (rd_L2 l0 x3_1).length) = false := decide_eq_false (by omega)
       clear c5
       have H' := Aside0.mk H
       clear H
       have p450 : 0 ≤ (x3_1 : Int) := of_decide_eq_true (by first | (with_reducible assumption) | assumption)
       have q450 : x3_1 < (l0.length : Int) := of_decide_eq_true (by first | (with_reducible assumption) | assumption)
       obtain ⟨ad450, A450_0, c450_0, e450, hx450_0, hl450_0, hi450_0⟩ := at_L2 HR0.out x3_1 p450 q450
       cases e450
       have HR450_0 := Aside0.mk hi450_0
       have HC450_0 := Aside0.mk hl450_0
       clear hi450_0 hl450_0
       replace p450 := eq_true p450
       replace q450 := eq_true q450
       go_wp2
       go_roundg k1
       case measure => have := HK1.out; omega
       case rel => exact ⟨(wrap64 (x3_1 + 1)), (by first | rfl | (simp; done) | (simp [*]; done)), H', ⟨by have := HK1.out; omega⟩, by repeat (first | exact Drawn0.refl _ | apply Drawn0.step)⟩
     ·rw [if_neg c4] at H
      exact absurd H (by simp)
    ·rw [if_neg c3] at H
     have c3b0 : decide (x3_1 < (l0.length : Int)) = false := decide_eq_false c3
     clear c3
     obtain rfl := Option.some.inj H
     go_wp2
     go_ret
     exact ⟨by first | rfl | (simp; done) | (simp [*]; done), by repeat (first | exact Drawn0.refl _ | apply Drawn0.step)⟩

end Go.Proofs.Ytimllhflecippaa.F
end

section
namespace Go.Proofs.Ytimllhflecippaa.Pk
open Go.RowKit Go.Proofs.YtimllhflecippaaW.PrintWords Go.Proofs.YtimllhflecippaaW.PrintMore
set_option linter.unusedSimpArgs false
set_option linter.unusedVariables false

theorem w64 {n : Int} (h0 : -9223372036854775808 ≤ n) (h1 : n ≤ 9223372036854775807) : wrap64 n = n := by unfold wrap64; omega
theorem mx_eq (x y : Int) : mx x y = if x < y then y else x := by unfold mx; rfl
theorem mn_eq (x y : Int) : mn x y = if y < x then y else x := by unfold mn; rfl

theorem rd_nat (l : List Int) (i : Nat) : rd l (i : Int) = l.getD i 0 := by unfold rd; simp
end Go.Proofs.Ytimllhflecippaa.Pk
end

section
namespace Go.Proofs.Ytimllhflecippaa.StepP
open Go.RowKit Go.Proofs.YtimllhflecippaaW.PrintWords Go.Proofs.YtimllhflecippaaW.PrintMore Go.Proofs.Ytimllhflecippaa.F Go.Proofs.Ytimllhflecippaa.Pk
set_option linter.unusedSimpArgs false
set_option linter.unusedVariables false

abbrev St := S45
abbrev rdS (l : List St) (i : Int) : St := rd_T45 l i
/-- The i-th step's time and amount. -/
def At (l : List St) (i : Nat) : Int := (rdS l i).f0
def Vl (l : List St) (i : Nat) : Int := (rdS l i).f1
theorem rdS_nat (l : List St) (i : Nat) (h : i < l.length) : rdS l (i : Int) = l[i] := by
  show l.getD (i : Int).toNat _ = _
  rw [List.getD_eq_getElem?_getD]; simp [h]
theorem rdS_app {l m : List St} {i : Nat} (h : i < l.length) : rdS (l ++ m) (i : Int) = rdS l i := by
  rw [rdS_nat _ _ (by simp; omega), rdS_nat _ _ h, List.getElem_append_left h]
theorem rdS_last {l : List St} {s : St} : rdS (l ++ [s]) (l.length : Int) = s := by
  rw [rdS_nat _ _ (by simp)]; simp
def Never : Int := 4611686018427387904
def amt (n : Int) : Prop := 0 ≤ n ∧ n ≤ 1048576
instance (n : Int) : Decidable (amt n) := by unfold amt; exact inferInstance
/-- Rising from 0 on, each step says something else. -/
structure Norm (l : List St) : Prop where
  pos : 0 < l.length
  zero : At l 0 = 0
  rise : ∀ i, i + 1 < l.length → At l i < At l (i + 1) ∧ Vl l i ≠ Vl l (i + 1)
  top : ∀ i, i < l.length → At l i ≤ Never
structure Right (l : List St) : Prop extends Norm l where
  len : l.length ≤ 1024
  amts : ∀ i, i < l.length → amt (Vl l i)
theorem Norm.lt {l : List St} (h : Norm l) : ∀ {i j : Nat}, i < j → j < l.length → At l i < At l j
  | i, 0, hi, _ => by omega
  | i, j + 1, hi, hj => by
    have h1 := (h.rise j hj).1
    rcases Nat.lt_or_ge i j with h2 | h2
    · have := Norm.lt h h2 (by omega); omega
    · have : i = j := by omega
      subst this; exact h1
theorem Norm.le {l : List St} (h : Norm l) {i j : Nat} (hij : i ≤ j) (hj : j < l.length) : At l i ≤ At l j := by
  rcases Nat.lt_or_ge i j with h1 | h1
  · exact Int.le_of_lt (h.lt h1 hj)
  · have : i = j := by omega
    subst this; exact Int.le_refl _
theorem Norm.ge0 {l : List St} (h : Norm l) {i : Nat} (hi : i < l.length) : 0 ≤ At l i := by have := h.le (Nat.zero_le i) hi; rw [h.zero] at this; exact this
/-- Step i holds at t. -/
def IsPl (l : List St) (t : Int) (i : Nat) : Prop := i < l.length ∧ At l i ≤ t ∧ (i + 1 < l.length → t < At l (i + 1))
theorem IsPl.uniq {l : List St} (h : Norm l) {t : Int} {i j : Nat} (hi : IsPl l t i) (hj : IsPl l t j) : i = j := by
  rcases Nat.lt_trichotomy i j with h1 | h1 | h1
  · have h2 := hi.2.2 (by have := hj.1; omega)
    have h3 := h.le (i := i + 1) (j := j) h1 hj.1
    have h4 := hj.2.1
    omega
  · exact h1
  · have h2 := hj.2.2 (by have := hi.1; omega)
    have h3 := h.le (i := j + 1) (j := i) h1 hi.1
    have h4 := hi.2.1
    omega
theorem IsPl.ex {l : List St} (h : Norm l) {t : Int} (ht : 0 ≤ t) : ∃ i, IsPl l t i := by
  have key : ∀ n, n < l.length → At l 0 ≤ t → (∃ i, IsPl l t i) ∨ At l n ≤ t := by
    intro n
    induction n with
    | zero => intro _ h0; exact .inr h0
    | succ n ih =>
      intro hn h0
      rcases ih (by omega) h0 with h1 | h1
      · exact .inl h1
      · by_cases h2 : At l (n + 1) ≤ t
        · exact .inr h2
        · exact .inl ⟨n, by omega, h1, fun _ => by omega⟩
  rcases key (l.length - 1) (by have := h.pos; omega) (by rw [h.zero]; exact ht) with h1 | h1
  · exact h1
  · exact ⟨l.length - 1, by have := h.pos; omega, h1, fun hc => by have := h.pos; omega⟩
open Classical in
/-- The step that holds, and what it says. -/
noncomputable def pl (l : List St) (t : Int) : Nat := if h : ∃ i, IsPl l t i then h.choose else 0
noncomputable def val (l : List St) (t : Int) : Int := Vl l (pl l t)
theorem pl_spec {l : List St} (h : Norm l) {t : Int} (ht : 0 ≤ t) : IsPl l t (pl l t) := by
  unfold pl
  rw [dif_pos (IsPl.ex h ht)]
  exact (IsPl.ex h ht).choose_spec
theorem pl_eq {l : List St} (h : Norm l) {t : Int} {i : Nat} (hi : IsPl l t i) : pl l t = i := by
  have h0 : 0 ≤ t := by have := hi.2.1; have := h.ge0 hi.1; omega
  exact IsPl.uniq h (pl_spec h h0) hi
theorem val_eq {l : List St} (h : Norm l) {t : Int} {i : Nat} (hi : IsPl l t i) : val l t = Vl l i := by unfold val; rw [pl_eq h hi]
theorem val_at {l : List St} (h : Norm l) {i : Nat} (hi : i < l.length) : val l (At l i) = Vl l i := val_eq h ⟨hi, Int.le_refl _, fun h1 => (h.rise i h1).1⟩
theorem Right.val_amt {l : List St} (h : Right l) {t : Int} (ht : 0 ≤ t) : amt (val l t) := h.amts _ (pl_spec h.toNorm ht).1
/-- Who says the same at all times is the same. -/
theorem Norm.ext {p q : List St} (hp : Norm p) (hq : Norm q) (h : ∀ t, 0 ≤ t → t ≤ Never → val p t = val q t) : p = q := by
  have one : ∀ (p q : List St), Norm p → Norm q → (∀ t, 0 ≤ t → t ≤ Never → val p t = val q t) → ∀ i, (∀ j, j ≤ i → j < p.length ∧ j < q.length ∧ At p j = At q j ∧ Vl p j = Vl q j) → i + 1 < p.length → i + 1 < q.length ∧ At q (i + 1) ≤ At p (i + 1) := by
    intro p q hp hq h i hi h1
    have h0 := hi i (Nat.le_refl _)
    have ht0 := hp.ge0 h1
    have htn := hp.top _ h1
    have hv := h _ ht0 htn
    rw [val_at hp h1] at hv
    have hne := (hp.rise i h1).2
    by_cases hc : i + 1 < q.length ∧ At q (i + 1) ≤ At p (i + 1)
    · exact hc
    · have : IsPl q (At p (i + 1)) i := ⟨h0.2.1, by have := (hp.rise i h1).1; rw [← h0.2.2.1]; omega, fun h2 => by
        have : ¬ At q (i + 1) ≤ At p (i + 1) := fun h3 => hc ⟨h2, h3⟩
        omega⟩
      rw [val_eq hq this, ← h0.2.2.2] at hv
      exact absurd hv.symm hne
  have key : ∀ i, i < p.length → (∀ j, j ≤ i → j < p.length ∧ j < q.length ∧ At p j = At q j ∧ Vl p j = Vl q j) := by
    intro i
    induction i with
    | zero =>
      intro hi j hj
      have : j = 0 := by omega
      subst this
      refine ⟨hi, hq.pos, by rw [hp.zero, hq.zero], ?_⟩
      have := h 0 (by omega) (by unfold Never; omega)
      have e1 := val_at hp hp.pos
      have e2 := val_at hq hq.pos
      rw [hp.zero] at e1
      rw [hq.zero] at e2
      rw [← e1, ← e2, this]
    | succ i ih =>
      intro hi j hj
      have hI := ih (by omega)
      rcases Nat.lt_or_ge j (i + 1) with h1 | h1
      · exact hI j (by omega)
      · have : j = i + 1 := by omega
        subst this
        have h2 := one p q hp hq h i hI hi
        have h3 := one q p hq hp (fun t a b => (h t a b).symm) i (fun j hj => by have := hI j hj; exact ⟨this.2.1, this.1, this.2.2.1.symm, this.2.2.2.symm⟩) h2.1
        have h4 : At p (i + 1) = At q (i + 1) := by have := h2.2; have := h3.2; omega
        refine ⟨hi, h2.1, h4, ?_⟩
        have h5 := h _ (hp.ge0 hi) (hp.top _ hi)
        rw [val_at hp hi, h4, val_at hq h2.1] at h5
        exact h5
  have hl : p.length = q.length := by
    have h1 : p.length ≤ q.length := by have := (key (p.length - 1) (by have := hp.pos; omega) (p.length - 1) (Nat.le_refl _)).2.1; omega
    rcases Nat.lt_or_ge p.length q.length with h2 | h2
    · have h3 := one q p hq hp (fun t a b => (h t a b).symm) (p.length - 1) (fun j hj => by
        have := key (p.length - 1) (by have := hp.pos; omega) j hj; exact ⟨this.2.1, this.1, this.2.2.1.symm, this.2.2.2.symm⟩) (by have := hp.pos; omega)
      have := h3.1
      have := hp.pos
      omega
    · omega
  apply List.ext_getElem hl
  intro i h1 h2
  have h3 := key i h1 i (Nat.le_refl _)
  have e1 := rdS_nat p i h1
  have e2 := rdS_nat q i h2
  have a1 : (rdS p i).f0 = (rdS q i).f0 := h3.2.2.1
  have a2 : (rdS p i).f1 = (rdS q i).f1 := h3.2.2.2
  rw [← e1, ← e2]
  cases h4 : rdS p i
  cases h5 : rdS q i
  rw [h4, h5] at a1 a2
  simp only at a1 a2
  rw [a1, a2]

/-- out tells g from 0 on till E. -/
structure Built (out : List St) (E : Int) (g : Int → Int) : Prop where
  nil : E ≤ 0 → out = []
  pos : 0 < E → 0 < out.length ∧ At out 0 = 0
  rise : ∀ i, i + 1 < out.length → At out i < At out (i + 1) ∧ Vl out i ≠ Vl out (i + 1)
  top : ∀ i, i < out.length → At out i < E
  tells : ∀ t i, 0 ≤ t → t < E → IsPl out t i → Vl out i = g t
theorem Built.start (g : Int → Int) : Built [] 0 g := ⟨fun _ => rfl, fun h => by omega, fun i h => by simp at h, fun i h => by simp at h, fun t i h0 h1 => by omega⟩
theorem At_app {l m : List St} {i : Nat} (h : i < l.length) : At (l ++ m) i = At l i := by unfold At; rw [rdS_app h]
theorem Vl_app {l m : List St} {i : Nat} (h : i < l.length) : Vl (l ++ m) i = Vl l i := by unfold Vl; rw [rdS_app h]
theorem At_last {l : List St} {s : St} : At (l ++ [s]) l.length = s.f0 := by unfold At; rw [rdS_last]
theorem Vl_last {l : List St} {s : St} : Vl (l ++ [s]) l.length = s.f1 := by unfold Vl; rw [rdS_last]
theorem last_Vl {l : List St} (h : 0 < l.length) : l.getLast?.map (·.f1) = some (Vl l (l.length - 1)) := by
  rw [List.getLast?_eq_getElem?, List.getElem?_eq_getElem (by omega)]
  unfold Vl
  rw [rdS_nat _ _ (by omega)]
  rfl
theorem Built.add {out : List St} {E E' f : Int} {g : Int → Int} (h : Built out E g) (h0 : 0 ≤ E) (h1 : E < E') (hf : ∀ t, E ≤ t → t < E' → g t = f) : Built (addS out E f) E' g := by
  by_cases hz : E = 0
  · subst hz
    have := h.nil (Int.le_refl _)
    subst this
    have e : addS ([] : List St) 0 f = [⟨0, f⟩] := by simp [addS]
    rw [e]
    have ea : At [(⟨0, f⟩ : St)] 0 = 0 := rfl
    have ev : Vl [(⟨0, f⟩ : St)] 0 = f := rfl
    refine ⟨fun h => by omega, fun _ => ⟨by simp, ea⟩, fun i hi => by simp at hi, fun i hi => ?_, fun t i ht0 ht1 hi => ?_⟩
    · have : i = 0 := by simpa using hi
      subst this; rw [ea]; omega
    · have : i = 0 := by simpa using hi.1
      subst this; rw [ev, hf t ht0 ht1]
  · have hp := h.pos (by omega)
    unfold addS
    rw [last_Vl hp.1]
    by_cases hl : Vl out (out.length - 1) = f
    · rw [if_pos (by rw [hl])]
      refine ⟨fun h => by omega, fun _ => hp, h.rise, fun i hi => by have := h.top i hi; omega, fun t i ht0 ht1 hi => ?_⟩
      rcases Int.lt_or_le t E with h2 | h2
      · exact h.tells t i ht0 h2 hi
      · have : i = out.length - 1 := by
          rcases Nat.lt_or_ge (i + 1) out.length with h3 | h3
          · have := hi.2.2 h3; have := h.top _ h3; omega
          · have := hi.1; omega
        rw [this, hl, hf t h2 ht1]
    · rw [if_neg (by simpa using hl)]
      have hlen : (out ++ [(⟨E, f⟩ : St)]).length = out.length + 1 := by simp
      refine ⟨fun h => by omega, fun _ => ⟨by omega, by rw [At_app hp.1]; exact hp.2⟩, fun i hi => ?_, fun i hi => ?_, fun t i ht0 ht1 hi => ?_⟩
      · rw [hlen] at hi
        rcases Nat.lt_or_ge (i + 1) out.length with h3 | h3
        · rw [At_app (by omega), At_app h3, Vl_app (by omega), Vl_app h3]; exact h.rise i h3
        · have : i + 1 = out.length := by omega
          rw [this, At_last, Vl_last, At_app (by omega), Vl_app (by omega)]
          refine ⟨h.top i (by omega), ?_⟩
          have e : i = out.length - 1 := by omega
          rw [e]; exact hl
      · rw [hlen] at hi
        rcases Nat.lt_or_ge i out.length with h3 | h3
        · rw [At_app h3]; have := h.top i h3; omega
        · have : i = out.length := by omega
          rw [this, At_last]; exact h1
      · have hil := hi.1
        rw [hlen] at hil
        rcases Nat.lt_or_ge i out.length with h3 | h3
        · have h4 : t < E := by
            rcases Nat.lt_or_ge (i + 1) out.length with h5 | h5
            · have := hi.2.2 (by omega); rw [At_app h5] at this; have := h.top _ h5; omega
            · have := hi.2.2 (by omega)
              rw [show i + 1 = out.length by omega, At_last] at this
              exact this
          rw [Vl_app h3]
          refine h.tells t i ht0 h4 ⟨h3, by have := hi.2.1; rw [At_app h3] at this; exact this, fun h5 => by have := hi.2.2 (by omega); rw [At_app h5] at this; exact this⟩
        · have : i = out.length := by omega
          subst this
          have := hi.2.1
          rw [At_last] at this
          rw [Vl_last]
          exact (hf t this ht1).symm
theorem Built.norm {out : List St} {g : Int → Int} (h : Built out (Never + 1) g) : Norm out ∧ ∀ t, 0 ≤ t → t ≤ Never → val out t = g t := by
  have hp := h.pos (by unfold Never; omega)
  have hn : Norm out := ⟨hp.1, hp.2, h.rise, fun i hi => by have := h.top i hi; omega⟩
  exact ⟨hn, fun t h0 h1 => h.tells t _ h0 (by omega) (pl_spec hn h0)⟩

/-- So much more in a span. -/
def more (f t n x v : Int) : Int := if f ≤ x ∧ x < t then v + n else v
theorem plusE_eq (l : List St) (i : Nat) : plusE l i = if i + 1 < l.length then At l (i + 1) else Never + 1 := by
  unfold plusE At Never
  by_cases h : i + 1 < l.length
  · rw [if_pos (by omega), if_pos h]; rfl
  · rw [if_neg (by omega), if_neg h]; rfl
theorem plus_built {l : List St} (h : Right l) {f t n : Int} (h0 : 0 ≤ f) (h1 : f < t) (h2 : t ≤ Never) (hn : -1048576 ≤ n ∧ n ≤ 1048576) : ∀ i, i ≤ l.length → Built (plusN l f t n i) (if i < l.length then At l i else Never + 1) (fun x => more f t n x (val l x))
  | 0, _ => by
    rw [if_pos h.pos, h.zero]
    exact Built.start _
  | i + 1, hi => by
    have ih := plus_built h h0 h1 h2 hn i (by omega)
    rw [if_pos (by omega)] at ih
    have hlt : i < l.length := by omega
    have hE := plusE_eq l i
    have hs0 := h.ge0 hlt
    have hsn := h.top i hlt
    have hse : At l i < plusE l i := by
      rw [hE]
      split
      · exact (h.rise i (by assumption)).1
      · omega
    have hen : plusE l i ≤ Never + 1 := by
      rw [hE]
      split
      · have := h.top (i + 1) (by assumption); omega
      · omega
    have hv : ∀ x, At l i ≤ x → x < plusE l i → val l x = Vl l i := fun x a b => val_eq h.toNorm ⟨hlt, a, fun hc => by rw [hE, if_pos hc] at b; exact b⟩
    have ham := h.amts i hlt
    unfold amt at ham
    have hw : wrap64 (Vl l i + n) = Vl l i + n := w64 (by omega) (by omega)
    rw [← hE]
    show Built (plus3 l f t n i (plus2 l f t n i (plus1 l f t n i (plusN l f t n i)))) (plusE l i) _
    generalize hpe : plusE l i = e at hse hen hv ⊢
    have hA : (rd_T45 l (i : Int)).f0 = At l i := rfl
    have hV : (rd_T45 l (i : Int)).f1 = Vl l i := rfl
    generalize hs : At l i = s at ih hse hs0 hsn hv hA
    generalize hvv : Vl l i = v at hv ham hw hV
    have b1 : Built (plus1 l f t n i (plusN l f t n i)) (if s < f then (if e < f then e else f) else s) (fun x => more f t n x (val l x)) := by
      unfold plus1
      rw [hA, hV]
      by_cases c : s < f
      · rw [if_pos c, if_pos c]
        refine ih.add hs0 (by split <;> omega) (fun x a b => ?_)
        have hx : x < e ∧ x < f := by split at b <;> omega
        rw [hv x a hx.1]
        unfold more
        rw [if_neg (by omega)]
      · rw [if_neg c, if_neg c]; exact ih
    generalize plus1 l f t n i (plusN l f t n i) = o1 at b1 ⊢
    have b2 : Built (plus2 l f t n i o1) (if (if s < f then f else s) < (if t < e then t else e) then (if t < e then t else e) else (if s < f then (if e < f then e else f) else s)) (fun x => more f t n x (val l x)) := by
      unfold plus2
      rw [hA, hV, hpe, mx_eq, mn_eq, hw]
      by_cases c : (if s < f then f else s) < (if t < e then t else e)
      · rw [if_pos c, if_pos c]
        have he : (if s < f then (if e < f then e else f) else s) = (if s < f then f else s) := by
          by_cases c1 : s < f
          · rw [if_pos c1, if_pos c1]; rw [if_pos c1] at c; split at c <;> rw [if_neg (by omega)]
          · rw [if_neg c1, if_neg c1]
        rw [he] at b1
        refine b1.add (by split <;> omega) c (fun x a b => ?_)
        have hx : s ≤ x ∧ f ≤ x ∧ x < e ∧ x < t := by split at a <;> split at b <;> omega
        rw [hv x hx.1 hx.2.2.1]
        unfold more
        rw [if_pos ⟨hx.2.1, hx.2.2.2⟩]
      · rw [if_neg c, if_neg c]; exact b1
    generalize plus2 l f t n i o1 = o2 at b2 ⊢
    unfold plus3
    rw [hA, hV, hpe, mx_eq]
    by_cases c : t < e
    · rw [if_pos c]
      have he : (if (if s < f then f else s) < (if t < e then t else e) then (if t < e then t else e) else (if s < f then (if e < f then e else f) else s)) = (if s < t then t else s) := by
        rw [if_pos c]
        by_cases c1 : s < f
        · rw [if_pos c1, if_pos h1, if_pos (by omega)]
        · rw [if_neg c1]
          by_cases c2 : s < t
          · rw [if_pos c2, if_pos c2]
          · rw [if_neg c2, if_neg c2, if_neg c1]
      rw [he] at b2
      refine b2.add (by split <;> omega) (by split <;> omega) (fun x a b => ?_)
      have hx : s ≤ x ∧ t ≤ x := by split at a <;> omega
      rw [hv x hx.1 b]
      unfold more
      rw [if_neg (by omega)]
    · rw [if_neg c]
      have he : (if (if s < f then f else s) < (if t < e then t else e) then (if t < e then t else e) else (if s < f then (if e < f then e else f) else s)) = e := by
        rw [if_neg c]
        by_cases c1 : s < f
        · rw [if_pos c1]
          by_cases c2 : f < e
          · rw [if_pos c2]
          · rw [if_neg c2, if_pos c1]
            by_cases c3 : e < f
            · rw [if_pos c3]
            · rw [if_neg c3]; omega
        · rw [if_neg c1, if_pos hse]
      rw [he] at b2
      exact b2
/-- What plus makes tells what it told, and so much more in the span. -/
theorem plus_norm {l : List St} (h : Right l) {f t n : Int} (h0 : 0 ≤ f) (h1 : f < t) (h2 : t ≤ Never) (hn : -1048576 ≤ n ∧ n ≤ 1048576) : Norm (plusN l f t n l.length) ∧ ∀ x, 0 ≤ x → x ≤ Never → val (plusN l f t n l.length) x = more f t n x (val l x) := by
  have := plus_built h h0 h1 h2 hn l.length (Nat.le_refl _)
  rw [if_neg (by omega)] at this
  exact this.norm
end Go.Proofs.Ytimllhflecippaa.StepP
/- Layer 3, plainly: what the functions of step and of the third reference answer. -/
namespace Go.Proofs.Ytimllhflecippaa.StepQ
open Go.RowKit Go.Proofs.YtimllhflecippaaW.PrintWords Go.Proofs.YtimllhflecippaaW.PrintMore Go.Proofs.Ytimllhflecippaa.F Go.Proofs.Ytimllhflecippaa.Pk Go.Proofs.Ytimllhflecippaa.StepP
set_option linter.unusedSimpArgs false
set_option linter.unusedVariables false

theorem nx (i : Nat) (h : i < 9223372036854775807) : wrap64 ((i : Int) + 1) = ((i + 1 : Nat) : Int) := by rw [w64 (by omega) (by omega)]; rfl
theorem pv (i : Nat) (h : i < 9223372036854775807) (h0 : 0 < i) : wrap64 ((i : Int) - 1) = ((i - 1 : Nat) : Int) := by rw [w64 (by omega) (by omega)]; omega
theorem at_ (l : List St) (i : Nat) : (rdS l (i : Int)).f0 = At l i := Eq.trans rfl rfl
theorem vl_ (l : List St) (i : Nat) : (rdS l (i : Int)).f1 = Vl l i := Eq.trans rfl rfl
theorem wright (a : Int) : when_Right.f a = some (decide (0 ≤ a ∧ a ≤ Never)) := by
  unfold when_Right.f Never
  by_cases h : a ≥ 0
  · rw [if_pos h]; congr 1; exact decide_eq_decide.2 (by omega)
  · rw [if_neg h]; congr 1; exact (decide_eq_false (by omega)).symm
theorem samt (a : Int) : step_amount.f a = some (decide (amt a)) := by
  unfold step_amount.f
  by_cases h : a ≥ 0
  · rw [if_pos h]; congr 1; exact decide_eq_decide.2 (by unfold amt; omega)
  · rw [if_neg h]; congr 1; exact (decide_eq_false (by unfold amt; omega)).symm
/-- One step is right, beside that ahead of it. -/
def good (l : List St) (i : Nat) : Prop := amt (Vl l i) ∧ (0 ≤ At l i ∧ At l i ≤ Never) ∧ (0 < i → At l (i - 1) < At l i ∧ Vl l i ≠ Vl l (i - 1))
theorem right_iff (l : List St) : Right l ↔ 1 ≤ l.length ∧ l.length ≤ 1024 ∧ At l 0 = 0 ∧ ∀ i, 0 ≤ i → i < l.length → good l i := by
  constructor
  · intro h
    refine ⟨h.pos, h.len, h.zero, fun i _ hi => ⟨h.amts i hi, ⟨h.ge0 hi, h.top i hi⟩, fun h0 => ?_⟩⟩
    have := h.rise (i - 1) (by omega)
    rw [show i - 1 + 1 = i by omega] at this
    exact ⟨this.1, this.2.symm⟩
  · rintro ⟨h1, h2, h3, h4⟩
    refine { pos := h1, zero := h3, rise := fun i hi => ?_, top := fun i hi => (h4 i (by omega) hi).2.1.2, len := h2, amts := fun i hi => (h4 i (by omega) hi).1 }
    have := (h4 (i + 1) (by omega) hi).2.2 (by omega)
    exact ⟨this.1, this.2.symm⟩
theorem all_step {P : Nat → Prop} {i n : Nat} (h : i < n) : (∀ j, i ≤ j → j < n → P j) ↔ P i ∧ ∀ j, i + 1 ≤ j → j < n → P j := by
  constructor
  · exact fun a => ⟨a i (by omega) h, fun j h1 h2 => a j (by omega) h2⟩
  · rintro ⟨a, b⟩ j h1 h2
    rcases Nat.lt_or_ge i j with h3 | h3
    · exact b j h3 h2
    · have : j = i := by omega
      rw [this]; exact a
theorem bool_false {b : Bool} {P : Prop} (h : b = true ↔ P) (n : ¬ P) : b = false := by cases b; rfl; exact absurd (h.1 rfl) n
theorem bool_true {b : Bool} {P : Prop} (h : b = true ↔ P) (n : P) : b = true := h.2 n
theorem right_loop (l : List St) (hl : l.length ≤ 1024) : ∀ (d i : Nat) (b : Bool), l.length - i = d → i ≤ l.length → (b = true ↔ ∀ j, i ≤ j → j < l.length → good l j) → Ev (fun k => step_Right.l0 k l l (l.length : Int) (i : Int)) b
  | 0, i, b, hd, hi, hb => by
    rw [bool_true hb (fun j h1 h2 => by omega)]
    refine Ev.step (f := fun _ => some true) (fun k => ?_) (Ev.now _)
    simp only [step_Right.l0]
    rw [if_neg (by omega)]
  | d + 1, i, b, hd, hi, hb => by
    have hlt : i < l.length := by omega
    rw [all_step hlt] at hb
    have q1 : (i : Int) < (l.length : Int) := by omega
    have q2 : (0 : Int) ≤ (i : Int) := by omega
    by_cases c1 : amt (Vl l i)
    · by_cases c2 : 0 ≤ At l i ∧ At l i ≤ Never
      · by_cases c3 : 0 < i
        · have e1 := pv i (by omega) c3
          have q3 : (i : Int) > 0 := by clear e1; omega
          have q4 : (0 : Int) ≤ ((i - 1 : Nat) : Int) := by clear e1; omega
          have q5 : ((i - 1 : Nat) : Int) < (l.length : Int) := by clear e1; omega
          by_cases c4 : At l i ≤ At l (i - 1)
          · rw [bool_false hb (fun hg => by have := (hg.1.2.2 c3).1; omega)]
            refine Ev.step (f := fun _ => some false) (fun k => ?_) (Ev.now _)
            simp only [step_Right.l0, at_, vl_, samt, wright, Option.bind_some, if_pos q1, if_pos q2, c1, c2, decide_true, if_true, if_pos q3, e1, if_pos q4, if_pos q5, if_pos c4, and_self]
          · by_cases c5 : Vl l i = Vl l (i - 1)
            · rw [bool_false hb (fun hg => (hg.1.2.2 c3).2 c5)]
              refine Ev.step (f := fun _ => some false) (fun k => ?_) (Ev.now _)
              simp only [step_Right.l0, at_, vl_, samt, wright, Option.bind_some, if_pos q1, if_pos q2, c1, c2, decide_true, if_true, if_pos q3, e1, if_pos q4, if_pos q5, if_neg c4, if_pos c5, and_self]
            · refine Ev.step (fun k => ?_) (right_loop l hl d (i + 1) b (by omega) (by omega) (hb.trans ⟨fun h => h.2, fun h => ⟨⟨c1, c2, fun _ => ⟨by omega, c5⟩⟩, h⟩⟩))
              simp only [step_Right.l0, at_, vl_, samt, wright, Option.bind_some, if_pos q1, if_pos q2, c1, c2, decide_true, if_true, if_pos q3, e1, if_pos q4, if_pos q5, if_neg c4, if_neg c5, nx i (by omega), and_self]
        · have q3 : ¬ (i : Int) > 0 := by omega
          refine Ev.step (fun k => ?_) (right_loop l hl d (i + 1) b (by omega) (by omega) (hb.trans ⟨fun h => h.2, fun h => ⟨⟨c1, c2, fun h => absurd h c3⟩, h⟩⟩))
          simp only [step_Right.l0, at_, vl_, samt, wright, Option.bind_some, if_pos q1, if_pos q2, c1, c2, decide_true, if_true, if_neg q3, nx i (by omega), and_self]
      · rw [bool_false hb (fun hg => c2 hg.1.2.1)]
        refine Ev.step (f := fun _ => some false) (fun k => ?_) (Ev.now _)
        simp only [step_Right.l0, at_, vl_, samt, wright, Option.bind_some, if_pos q1, if_pos q2, c1, c2, decide_true, decide_false, if_true, Bool.false_eq_true, if_false]
    · rw [bool_false hb (fun hg => c1 hg.1.1)]
      refine Ev.step (f := fun _ => some false) (fun k => ?_) (Ev.now _)
      simp only [step_Right.l0, at_, vl_, samt, wright, Option.bind_some, if_pos q1, if_pos q2, c1, decide_false, if_true, Bool.false_eq_true, if_false]
theorem right_ev (l : List St) (b : Bool) (hb : b = true ↔ Right l) : Ev (fun k => step_Right.f k l) b := by
  have no : ¬ Right l → Ev (fun k => step_Right.j0 k l true) b := by
    intro h
    rw [bool_false hb h]
    exact Ev.step (f := fun _ => some false) (fun k => by simp only [step_Right.j0, if_true]) (Ev.now _)
  rw [right_iff] at no
  by_cases c1 : (l.length : Int) < 1
  · refine Ev.congr (fun k => ?_) (no (fun h => by have := h.1; omega))
    simp only [step_Right.f, if_pos c1]
  by_cases c2 : (l.length : Int) > 1024
  · refine Ev.congr (fun k => ?_) (no (fun h => by have := h.2.1; omega))
    simp only [step_Right.f, if_neg c1, if_pos c2]
  have q : (0 : Int) < (l.length : Int) := by omega
  have a0 : (rdS l 0).f0 = At l 0 := rfl
  by_cases c3 : At l 0 = 0
  · refine Ev.congr (f := fun k => step_Right.j0 k l false) (fun k => ?_) ?_
    · simp only [step_Right.f, if_neg c1, if_neg c2, if_pos q, a0, c3]; rfl
    · refine Ev.step (fun k => ?_) (right_loop l (by omega) l.length 0 b (by omega) (by omega) (hb.trans ((right_iff l).trans ⟨fun h => h.2.2.2, fun h => ⟨by omega, by omega, c3, h⟩⟩)))
      simp only [step_Right.j0, Bool.false_eq_true, if_false]; rfl
  · refine Ev.congr (fun k => ?_) (no (fun h => c3 h.2.2.1))
    simp only [step_Right.f, if_neg c1, if_neg c2, if_pos q, a0, bne, beq_false_of_ne c3]; rfl
theorem right_yes {l : List St} (h : Right l) : Ev (fun k => step_Right.f k l) true := right_ev l true ⟨fun _ => h, fun _ => rfl⟩
theorem right_no {l : List St} (h : ¬ Right l) : Ev (fun k => step_Right.f k l) false := right_ev l false ⟨fun h' => Bool.noConfusion h', fun h' => absurd h' h⟩

def May (l : List St) (f t : Int) : Prop := Right l ∧ 0 ≤ f ∧ f < t ∧ t ≤ Never
theorem may_yes {l : List St} {f t : Int} (h : May l f t) : Ev (fun k => step_may.f k l f t) true := by
  obtain ⟨h0, h1, h2, h3⟩ := h
  refine Ev.bind (right_yes h0) ?_
  simp only [if_true, wright, Option.bind_some, decide_eq_true (show 0 ≤ f ∧ f ≤ Never by omega), decide_eq_true (show 0 ≤ t ∧ t ≤ Never by omega), decide_eq_true h2]
  exact Ev.now _
theorem may_no {l : List St} {f t : Int} (h : ¬ May l f t) : Ev (fun k => step_may.f k l f t) false := by
  by_cases c0 : Right l
  · refine Ev.bind (right_yes c0) ?_
    simp only [if_true, wright, Option.bind_some]
    by_cases c1 : 0 ≤ f ∧ f ≤ Never
    · by_cases c2 : 0 ≤ t ∧ t ≤ Never
      · have c3 : ¬ f < t := fun c => h ⟨c0, c1.1, c, c2.2⟩
        simp only [decide_eq_true c1, decide_eq_true c2, if_true, decide_eq_false c3]
        exact Ev.now _
      · simp only [decide_eq_true c1, decide_eq_false c2, if_true, Bool.false_eq_true, if_false]
        exact Ev.now _
    · simp only [decide_eq_false c1, Bool.false_eq_true, if_false]
      exact Ev.now _
  · refine Ev.bind (right_no c0) ?_
    simp only [Bool.false_eq_true, if_false]
    exact Ev.now _

theorem half (i j : Nat) (h : i + j < 9223372036854775807) : wrap64 ((IntKind.u64.wrap (wrap64 ((i : Int) + (j : Int)))) / 2) = (((i + j) / 2 : Nat) : Int) := by
  rw [w64 (n := (i : Int) + j) (by omega) (by omega), IntKind.wrap_u64]
  rw [w64 (by omega) (by omega)]
  omega
theorem search_loop {l : List St} (h : Right l) (t : Int) : ∀ (d i j : Nat), j - i ≤ d → i ≤ j → j ≤ l.length → (∀ x, x < i → At l x < t) → (∀ x, j ≤ x → x < l.length → t ≤ At l x) →
    ∃ p : Nat, (p ≤ l.length ∧ (∀ x, x < p → At l x < t) ∧ (∀ x, p ≤ x → x < l.length → t ≤ At l x)) ∧ Ev (fun k => slices_BinarySearchFunc_api_Step_api_Step_int64__at_step_place_1.l0 k l t (l.length : Int) (i : Int) (j : Int)) ((p : Int), decide (p < l.length ∧ At l p = t)) := by
  intro d
  induction d with
  | zero =>
    intro i j hd hij hj h1 h2
    have : j = i := by omega
    subst this
    refine ⟨j, ⟨hj, h1, h2⟩, ?_⟩
    have q : ¬ (j : Int) < (j : Int) := by omega
    by_cases c : j < l.length
    · have q1 : (j : Int) < (l.length : Int) := by omega
      have q2 : (0 : Int) ≤ (j : Int) := by omega
      have hge := h2 j (by omega) c
      have n1 : ¬ At l j < t := by omega
      by_cases c1 : At l j > t
      · refine Ev.step (f := fun _ => some ((j : Int), false)) (fun k => ?_) ?_
        · simp only [slices_BinarySearchFunc_api_Step_api_Step_int64__at_step_place_1.l0, if_neg q, if_pos q1, if_pos q2, step_place_1.f, at_, if_neg n1, if_pos c1, Option.bind_some]
          rfl
        · rw [decide_eq_false (show ¬ (j < l.length ∧ At l j = t) by omega)]
          exact Ev.now _
      · refine Ev.step (f := fun _ => some ((j : Int), true)) (fun k => ?_) ?_
        · simp only [slices_BinarySearchFunc_api_Step_api_Step_int64__at_step_place_1.l0, if_neg q, if_pos q1, if_pos q2, step_place_1.f, at_, if_neg n1, if_neg c1, Option.bind_some]
          rfl
        · rw [decide_eq_true (show (j < l.length ∧ At l j = t) by omega)]
          exact Ev.now _
    · have q1 : ¬ (j : Int) < (l.length : Int) := by omega
      refine Ev.step (f := fun _ => some ((j : Int), false)) (fun k => ?_) ?_
      · simp only [slices_BinarySearchFunc_api_Step_api_Step_int64__at_step_place_1.l0, if_neg q, if_neg q1]
      · rw [decide_eq_false (show ¬ (j < l.length ∧ At l j = t) by omega)]
        exact Ev.now _
  | succ d ih =>
    intro i j hd hij hj h1 h2
    by_cases hlt : i < j
    · have hlen := h.len
      have e := half i j (by omega)
      have q : (i : Int) < (j : Int) := by omega
      have hm : i ≤ (i + j) / 2 ∧ (i + j) / 2 < j := by omega
      generalize (i + j) / 2 = m at e hm
      have q1 : (0 : Int) ≤ (m : Int) := by omega
      have q2 : (m : Int) < (l.length : Int) := by omega
      by_cases c : At l m < t
      · obtain ⟨p, hp, hev⟩ := ih (m + 1) j (by omega) (by omega) hj (fun x hx => by
          have := h.le (i := x) (j := m) (by omega) (by omega)
          omega) h2
        refine ⟨p, hp, Ev.step (fun k => ?_) hev⟩
        simp only [slices_BinarySearchFunc_api_Step_api_Step_int64__at_step_place_1.l0, if_pos q, e, if_pos q1, if_pos q2, step_place_1.f, at_, if_pos c, Option.bind_some, nx m (by omega)]
        rfl
      · obtain ⟨p, hp, hev⟩ := ih i m (by omega) (by omega) (by omega) h1 (fun x hx hx2 => by
          have := h.le (i := m) (j := x) (by omega) (by omega)
          omega)
        refine ⟨p, hp, Ev.step (fun k => ?_) hev⟩
        by_cases c1 : At l m > t
        · simp only [slices_BinarySearchFunc_api_Step_api_Step_int64__at_step_place_1.l0, if_pos q, e, if_pos q1, if_pos q2, step_place_1.f, at_, if_neg c, if_pos c1, Option.bind_some]
          rfl
        · simp only [slices_BinarySearchFunc_api_Step_api_Step_int64__at_step_place_1.l0, if_pos q, e, if_pos q1, if_pos q2, step_place_1.f, at_, if_neg c, if_neg c1, Option.bind_some]
          rfl
    · exact ih i j (by omega) hij hj h1 h2
theorem place_ev {l : List St} (h : Right l) {t : Int} (ht : 0 ≤ t) : Ev (fun k => step_place.f k l t) ((pl l t : Nat) : Int) := by
  obtain ⟨p, ⟨h1, h2, h3⟩, hev⟩ := search_loop h t l.length 0 l.length (by omega) (by omega) (by omega) (fun x hx => by omega) (fun x hx hx2 => by omega)
  refine Ev.bind hev ?_
  by_cases c : p < l.length ∧ At l p = t
  · simp only [decide_eq_true c, if_true]
    rw [pl_eq h.toNorm (i := p) ⟨c.1, by omega, fun hn => by have := (h.rise p hn).1; omega⟩]
    exact Ev.now _
  · simp only [decide_eq_false c, Bool.false_eq_true, if_false]
    have hp : 0 < p := by
      rcases Nat.eq_zero_or_pos p with h0 | h0
      · subst h0
        have := h3 0 (by omega) h.pos
        rw [h.zero] at this
        exact absurd ⟨h.pos, by rw [h.zero]; omega⟩ c
      · exact h0
    rw [pv p (by have := h.len; omega) hp]
    have h4 := h2 (p - 1) (by omega)
    rw [pl_eq h.toNorm (i := p - 1) ⟨by omega, by omega, fun hn => by
      rw [show p - 1 + 1 = p by omega] at hn ⊢
      have := h3 p (by omega) hn
      have : At l p ≠ t := fun he => c ⟨hn, he⟩
      omega⟩]
    exact Ev.now _

theorem at_ev {l : List St} (h : Right l) {t : Int} (h0 : 0 ≤ t) (h1 : t ≤ Never) : Ev (fun k => step_At.f k l t) (val l t) := by
  refine Ev.bind (right_yes h) ?_
  simp only [if_true, wright, Option.bind_some, decide_eq_true (show 0 ≤ t ∧ t ≤ Never from ⟨h0, h1⟩)]
  refine Ev.bind (place_ev h h0) ?_
  have := (pl_spec h.toNorm h0).1
  simp only [if_pos (show (0 : Int) ≤ ((pl l t : Nat) : Int) by omega), if_pos (show ((pl l t : Nat) : Int) < (l.length : Int) by omega)]
  exact Ev.now _
theorem at_no {l : List St} {t : Int} (h : ¬ (Right l ∧ 0 ≤ t ∧ t ≤ Never)) : Ev (fun k => step_At.f k l t) 0 := by
  by_cases c : Right l
  · refine Ev.bind (right_yes c) ?_
    simp only [if_true, wright, Option.bind_some, decide_eq_false (show ¬ (0 ≤ t ∧ t ≤ Never) from fun h' => h ⟨c, h'⟩), Bool.false_eq_true, if_false]
    exact Ev.now _
  · refine Ev.bind (right_no c) ?_
    simp only [Bool.false_eq_true, if_false]
    exact Ev.now _
/-- The least amount in a span. -/
def IsLeast (l : List St) (f t m : Int) : Prop := ∀ n, n ≤ m ↔ (n ≤ 1048576 ∧ ∀ x, f ≤ x → x < t → n ≤ val l x)
/-- What holds at all times of a span holds in its steps. -/
theorem span_iff {l : List St} (h : Norm l) {f t : Int} (h0 : 0 ≤ f) (h1 : f < t) (P : Int → Prop) : (∀ x, f ≤ x → x < t → P (val l x)) ↔ ∀ j, pl l f ≤ j → j < l.length → At l j < t → P (Vl l j) := by
  have hp := pl_spec h h0
  constructor
  · intro a j h2 h3 h4
    rcases Nat.lt_or_ge (pl l f) j with h5 | h5
    · have h6 := hp.2.2 (by omega)
      have h7 := h.le (i := pl l f + 1) (j := j) h5 h3
      have := a (At l j) (by omega) h4
      rwa [val_at h h3] at this
    · have : j = pl l f := by omega
      subst this
      exact a f (Int.le_refl _) h1
  · intro a x h2 h3
    have hx := pl_spec h (t := x) (by omega)
    refine a (pl l x) ?_ hx.1 (by have := hx.2.1; omega)
    rcases Nat.lt_or_ge (pl l x) (pl l f) with h5 | h5
    · have h6 := hx.2.2 (by have := hp.1; omega)
      have h7 := h.le (i := pl l x + 1) (j := pl l f) h5 hp.1
      have := hp.2.1
      omega
    · exact h5
theorem least_loop {l : List St} (h : Right l) (t : Int) : ∀ (d i : Nat) (a : Int), l.length - i = d → i ≤ l.length → ∃ m, Ev (fun k => step_least.l0 k l t a (i : Int)) m ∧ ∀ n, n ≤ m ↔ (n ≤ a ∧ ∀ j, i ≤ j → j < l.length → At l j < t → n ≤ Vl l j)
  | 0, i, a, hd, hi => by
    refine ⟨a, Ev.step (f := fun _ => some a) (fun k => ?_) (Ev.now _), fun n => ⟨fun hn => ⟨hn, fun j h1 h2 => by omega⟩, fun hn => hn.1⟩⟩
    simp only [step_least.l0]
    rw [if_neg (by omega)]
  | d + 1, i, a, hd, hi => by
    have hlt : i < l.length := by omega
    have q1 : (i : Int) < (l.length : Int) := by omega
    have q2 : (0 : Int) ≤ (i : Int) := by omega
    by_cases c : At l i < t
    · obtain ⟨m, hev, hm⟩ := least_loop h t d (i + 1) (mn a (Vl l i)) (by omega) (by omega)
      refine ⟨m, Ev.step (fun k => ?_) hev, fun n => ?_⟩
      · simp only [step_least.l0, if_pos q1, if_pos q2, at_, vl_, if_pos c, nx i (by have := h.len; omega)]
      · rw [hm n, all_step hlt, mn_eq]
        constructor
        · rintro ⟨x, y⟩
          exact ⟨by split at x <;> omega, fun _ => by split at x <;> omega, y⟩
        · rintro ⟨x, y, z⟩
          exact ⟨by have := y c; split <;> omega, z⟩
    · refine ⟨a, Ev.step (f := fun _ => some a) (fun k => ?_) (Ev.now _), fun n => ⟨fun hn => ⟨hn, fun j h1 h2 h3 => ?_⟩, fun hn => hn.1⟩⟩
      · simp only [step_least.l0, if_pos q1, if_pos q2, at_, vl_, if_neg c]
      · have := h.le (i := i) (j := j) h1 h2
        omega
theorem least_ev {l : List St} (h : Right l) {f t : Int} (h0 : 0 ≤ f) (h1 : f < t) : ∃ m, Ev (fun k => step_least.f k l f t) m ∧ IsLeast l f t m := by
  obtain ⟨m, hev, hm⟩ := least_loop h t (l.length - pl l f) (pl l f) 1048576 rfl (by have := (pl_spec h.toNorm h0).1; omega)
  refine ⟨m, Ev.bind (place_ev h h0) hev, fun n => ?_⟩
  rw [hm n, span_iff h.toNorm h0 h1 (fun v => n ≤ v)]
def nr (t : Int) : Int := if t < 0 then 0 else if Never < t then Never else t
end Go.Proofs.Ytimllhflecippaa.StepQ
end

section
namespace Go.Proofs.Ytimllhflecippaa.PoolP
open Go.RowKit Go.Proofs.YtimllhflecippaaW.PrintWords Go.Proofs.YtimllhflecippaaW.PrintMore Go.Proofs.Ytimllhflecippaa.F Go.Proofs.Ytimllhflecippaa.Pk Go.Proofs.Ytimllhflecippaa.StepP Go.Proofs.Ytimllhflecippaa.StepQ
set_option linter.unusedSimpArgs false
set_option linter.unusedVariables false

abbrev lg (L : List (List St)) (i : Nat) : List St := rd_L2 L (i : Int)
theorem lg_eq (L : List (List St)) (i : Nat) (h : i < L.length) : lg L i = L[i] := by
  show L.getD (i : Int).toNat _ = _
  rw [List.getD_eq_getElem?_getD]; simp [h]
theorem rd_eq (n : List Int) (i : Nat) (h : i < n.length) : rd n (i : Int) = n[i] := by
  rw [rd_nat, List.getD_eq_getElem?_getD, List.getElem?_eq_getElem h]; rfl
def PRight (L : List (List St)) : Prop := 1 ≤ L.length ∧ L.length ≤ 4 ∧ ∀ i, i < L.length → Right (lg L i)
theorem idx_loop (L : List (List St)) (hl : L.length ≤ 4) : ∀ (d i : Nat), L.length - i = d → i ≤ L.length → ∃ r : Int, Ev (fun k => slices_IndexFunc_api_Step_api_Step__at_pools_Right_1.l0 k L (L.length : Int) (i : Int)) r ∧ (0 ≤ r ↔ ¬ ∀ j, i ≤ j → j < L.length → Right (lg L j))
  | 0, i, hd, hi => by
    refine ⟨-1, Ev.step (f := fun _ => some (-1)) (fun k => ?_) (Ev.now _), ⟨fun h => by omega, fun h => absurd (fun j h1 h2 => by omega) h⟩⟩
    simp only [slices_IndexFunc_api_Step_api_Step__at_pools_Right_1.l0]
    rw [if_neg (by omega)]
  | d + 1, i, hd, hi => by
    have hlt : i < L.length := by omega
    have q1 : (i : Int) < (L.length : Int) := by omega
    have q2 : (0 : Int) ≤ (i : Int) := by omega
    by_cases c : Right (lg L i)
    · obtain ⟨r, hev, hr⟩ := idx_loop L hl d (i + 1) (by omega) (by omega)
      refine ⟨r, Ev.step (f := fun k => (step_Right.f k (lg L i)).bind fun t => if (!t) = true then some (i : Int) else slices_IndexFunc_api_Step_api_Step__at_pools_Right_1.l0 k L (L.length : Int) ((i + 1 : Nat) : Int)) (fun k => ?_) (Ev.bind (right_yes c) ?_), ?_⟩
      · simp only [slices_IndexFunc_api_Step_api_Step__at_pools_Right_1.l0, if_pos q1, if_pos q2, pools_Right_1.f, Option.bind_assoc, Option.bind_some, nx i (by omega)]
      · simp only [Bool.not_true, Bool.false_eq_true, if_false]; exact hev
      · rw [hr, all_step (P := fun j => Right (lg L j)) hlt]
        exact ⟨fun a b => a b.2, fun a b => a ⟨c, b⟩⟩
    · refine ⟨(i : Int), Ev.step (f := fun k => (step_Right.f k (lg L i)).bind fun t => if (!t) = true then some (i : Int) else slices_IndexFunc_api_Step_api_Step__at_pools_Right_1.l0 k L (L.length : Int) ((i + 1 : Nat) : Int)) (fun k => ?_) (Ev.bind (right_no c) ?_), ⟨fun _ a => c (a i (by omega) hlt), fun _ => by omega⟩⟩
      · simp only [slices_IndexFunc_api_Step_api_Step__at_pools_Right_1.l0, if_pos q1, if_pos q2, pools_Right_1.f, Option.bind_assoc, Option.bind_some, nx i (by omega)]
      · simp only [Bool.not_false, if_true]; exact Ev.now _
theorem pright_ev (L : List (List St)) (b : Bool) (hb : b = true ↔ PRight L) : Ev (fun k => pools_Right.f k L) b := by
  by_cases c1 : (L.length : Int) ≥ 1
  · by_cases c2 : (L.length : Int) ≤ 4
    · obtain ⟨r, hev, hr⟩ := idx_loop L (by omega) L.length 0 (by omega) (by omega)
      refine Ev.congr (f := fun k => (slices_IndexFunc_api_Step_api_Step__at_pools_Right_1.f k L).bind fun r => some (!decide (r ≥ 0))) (fun k => ?_) (Ev.bind hev ?_)
      · simp only [pools_Right.f, if_pos c1, if_pos c2, slices_ContainsFunc_api_Step_api_Step__at_pools_Right_1.f, Option.bind_assoc, Option.bind_some]
      · have : (!decide (r ≥ 0)) = b := by
          by_cases h : PRight L
          · rw [bool_true hb h, decide_eq_false (fun h' => (hr.1 h') (fun j _ hj => h.2.2 j hj))]; rfl
          · rw [bool_false hb h, decide_eq_true (hr.2 (fun h' => h ⟨by omega, by omega, fun i hi => h' i (by omega) hi⟩))]; rfl
        rw [this]
        exact Ev.now _
    · rw [bool_false hb (fun h => by have := h.2.1; omega)]
      refine Ev.congr (f := fun _ => some false) (fun k => ?_) (Ev.now _)
      simp only [pools_Right.f, if_pos c1, if_neg c2]
  · rw [bool_false hb (fun h => by have := h.1; omega)]
    refine Ev.congr (f := fun _ => some false) (fun k => ?_) (Ev.now _)
    simp only [pools_Right.f, if_neg c1]
theorem pright_yes {L : List (List St)} (h : PRight L) : Ev (fun k => pools_Right.f k L) true := pright_ev L true ⟨fun _ => h, fun _ => rfl⟩
theorem pright_no {L : List (List St)} (h : ¬ PRight L) : Ev (fun k => pools_Right.f k L) false := pright_ev L false ⟨fun h' => Bool.noConfusion h', fun h' => absurd h' h⟩
/-- A list made index by index. -/
def mk {α : Type} (n : Nat) (f : Nat → α) : List α := (List.range n).map f
theorem mk_len {α : Type} (n : Nat) (f : Nat → α) : (mk n f).length = n := by simp [mk]
theorem mk_succ {α : Type} (n : Nat) (f : Nat → α) : mk (n + 1) f = mk n f ++ [f n] := by simp [mk, List.range_succ]
theorem mk_get {α : Type} (n : Nat) (f : Nat → α) (i : Nat) (h : i < (mk n f).length) : (mk n f)[i] = f i := by simp [mk]
theorem mk_self (L : List (List St)) : mk L.length (lg L) = L := by
  refine List.ext_getElem (by rw [mk_len]) (fun i h1 h2 => ?_)
  rw [mk_get, lg_eq]
/-- What one pool tells at a time: nothing, where the time is none. -/
noncomputable def tell (p : List St) (t : Int) : Int := if 0 ≤ t ∧ t ≤ Never then val p t else 0
theorem tell_ev {p : List St} (h : Right p) (t : Int) : Ev (fun k => step_At.f k p t) (tell p t) := by
  unfold tell
  by_cases c : 0 ≤ t ∧ t ≤ Never
  · rw [if_pos c]; exact at_ev h c.1 c.2
  · rw [if_neg c]; exact at_no (fun h' => c h'.2)
theorem pat_loop {L : List (List St)} (h : PRight L) (t : Int) : ∀ (d i : Nat), L.length - i = d → i ≤ L.length → Ev (fun k => pools_At.l0 k t (mk i fun j => tell (lg L j) t) L (L.length : Int) (i : Int)) (mk L.length fun j => tell (lg L j) t)
  | 0, i, hd, hi => by
    have : i = L.length := by omega
    subst this
    refine Ev.step (f := fun _ => some _) (fun k => ?_) (Ev.now _)
    simp only [pools_At.l0]
    rw [if_neg (by omega)]
  | d + 1, i, hd, hi => by
    have hlt : i < L.length := by omega
    have h4 := h.2.1
    have q1 : (i : Int) < (L.length : Int) := by omega
    have q2 : (0 : Int) ≤ (i : Int) := by omega
    have q3 : (mk i fun j => tell (lg L j) t).length < 17592186044416 := by rw [mk_len]; omega
    refine Ev.step (f := fun k => (step_At.f k (lg L i) t).bind fun a => pools_At.l0 k t ((mk i fun j => tell (lg L j) t) ++ [a]) L (L.length : Int) ((i + 1 : Nat) : Int)) (fun k => ?_) (Ev.bind (tell_ev (h.2.2 i hlt) t) ?_)
    · simp only [pools_At.l0, if_pos q1, if_pos q2, if_pos q3, nx i (by omega)]
    · have := pat_loop h t d (i + 1) (by omega) (by omega)
      rw [mk_succ] at this
      exact this
theorem pat_ev {L : List (List St)} (h : PRight L) (t : Int) : Ev (fun k => pools_At.f k L t) (mk L.length fun j => tell (lg L j) t) := by
  refine Ev.bind (pright_yes h) ?_
  simp only [if_true]
  exact pat_loop h t L.length 0 (by omega) (by omega)
theorem isame_loop (l : List Int) (hl : l.length ≤ 8796093022208) : ∀ (d i : Nat), l.length - i = d → i ≤ l.length → Ev (fun k => bailiwickref01_Same.l0 k l l (i : Int)) true
  | 0, i, hd, hi => by
    refine Ev.step (f := fun _ => some true) (fun k => ?_) (Ev.now _)
    simp only [bailiwickref01_Same.l0]
    rw [if_neg (by omega)]
  | d + 1, i, hd, hi => by
    refine Ev.step (fun k => ?_) (isame_loop l hl d (i + 1) (by omega) (by omega))
    have q1 : (i : Int) < (l.length : Int) := by omega
    have q2 : (0 : Int) ≤ (i : Int) := by omega
    simp only [bailiwickref01_Same.l0, if_pos q1, if_pos q2, if_true, nx i (by omega)]
theorem isame_ev (l : List Int) (hl : l.length ≤ 8796093022208) : Ev (fun k => bailiwickref01_Same.f k l l) true := by
  refine Ev.congr (fun k => ?_) (isame_loop l hl l.length 0 (by omega) (by omega))
  simp only [bailiwickref01_Same.f, if_true]; rfl
end Go.Proofs.Ytimllhflecippaa.PoolP
end

section
namespace Go.Proofs.Ytimllhflecippaa.F
open Go.RowKit Go.Proofs.YtimllhflecippaaW.PrintWords Go.Proofs.YtimllhflecippaaW.PrintLast Go.Proofs.YtimllhflecippaaW.PrintMore
attribute [local go_sem] max2_int min2_int max_two min_two
set_option linter.unusedVariables false
set_option linter.unusedSimpArgs false

def bailiwickref03_May.f (k : Nat) (l0 : List (S45)) (a1 : Int) (a2 : Int) : Option (Bool) := (bailiwickref03_Right.f k l0).bind fun t226 => (if t226 = true then (if a1 ≥ 0 then (if a1 < a2 then (some (decide (a2 ≤ 4611686018427387904))) else (some false)) else (some false)) else (some false))
set_option maxHeartbeats 8000000 in
set_option maxRecDepth 100000 in
theorem bailiwickref03_May.calls (k : Nat) (A0 : Option Addr) (c0 : Nat) (l0 : List (S45)) (a1 : Int) (a2 : Int) (r : Bool) (w : World) (hr0 : Kd.C k45 w A0 l0.length l0) (hc0 : l0.length ≤ c0) (h : bailiwickref03_May.f k l0 a1 a2 = some r) :
  Calls Try.prog 27 #[.slice A0 l0.length c0, .int .i64 a1, .int .i64 a2] w fun e w' => e = .returned (.bool r) ∧ Drawn0 w w' := by
 have HR0 := Aside0.mk hr0
 have HC0 := Aside0.mk hc0
 clear hr0 hc0
 have H : ((bailiwickref03_Right.f k l0).bind fun t226 => (if t226 = true then (if a1 ≥ 0 then (if a1 < a2 then (some (decide (a2 ≤ 4611686018427387904))) else (some false)) else (some false)) else (some false))) = some r := h
 clear h
 replace H := Option.bind_eq_some_iff.mp H
 obtain ⟨t226, A40, H⟩ := H
 replace H : (if t226 = true then (if a1 ≥ 0 then (if a1 < a2 then (some (decide (a2 ≤ 4611686018427387904))) else (some false)) else (some false)) else (some false)) = some r := H
 have A4 := Aside0.mk A40
 clear A40
 by_cases c5 : t226 = true
 ·subst c5
  have H1 : (if a1 ≥ 0 then (if a1 < a2 then (some (decide (a2 ≤ 4611686018427387904))) else (some false)) else (some false)) = some r := by rw [if_pos rfl] at H; exact H
  clear H
  have H := H1
  clear H1
  by_cases c6 : a1 ≥ 0
  ·rw [if_pos c6] at H
   have c6b0 : decide (0 ≤ a1) = true := decide_eq_true c6
   clear c6
   by_cases c7 : a1 < a2
   ·rw [if_pos c7] at H
    have c7b0 : decide (a1 < a2) = true := decide_eq_true c7
    clear c7
    obtain rfl := Option.some.inj H
    go_enter Try.func27, Try.ntmps27
    go_wp2_with (first | ((with_reducible refine gate_callee (f := 30) rfl ?_); refine goesL_ (some 8) rfl rfl Try.func30 (by kernel_rfl) rfl #[.slice A0 l0.length c0] rfl (by (try simp only [List.map_toArray, List.map_cons, List.map_nil]); first | done | rfl | (simp only [List.length_drop, List.length_take]; rfl)) ?_; (with_reducible refine (bailiwickref03_Right.calls k _ _ l0 true _ ?side1 ?side2 A4.out).mono ?_); (case side1 => repeat (first | exact HR0.out | (with_reducible refine Kd.C_alloc ?_ _) | (with_reducible refine Kd.C_drewN ?_ _) | (with_reducible refine Kd.C_drew ?_))); (case side2 => exact HC0.out); rintro e w' ⟨rfl, ⟨nd, rfl⟩⟩; refine ⟨_, rfl, ?_⟩))
    go_ret
    exact ⟨by first | rfl | (simp; done) | (simp [*]; done), by repeat (first | exact Drawn0.refl _ | apply Drawn0.step)⟩
   ·rw [if_neg c7] at H
    have c7b0 : decide (a1 < a2) = false := decide_eq_false c7
    clear c7
    obtain rfl := Option.some.inj H
    go_enter Try.func27, Try.ntmps27
    go_wp2_with (first | ((with_reducible refine gate_callee (f := 30) rfl ?_); refine goesL_ (some 8) rfl rfl Try.func30 (by kernel_rfl) rfl #[.slice A0 l0.length c0] rfl (by (try simp only [List.map_toArray, List.map_cons, List.map_nil]); first | done | rfl | (simp only [List.length_drop, List.length_take]; rfl)) ?_; (with_reducible refine (bailiwickref03_Right.calls k _ _ l0 true _ ?side1 ?side2 A4.out).mono ?_); (case side1 => repeat (first | exact HR0.out | (with_reducible refine Kd.C_alloc ?_ _) | (with_reducible refine Kd.C_drewN ?_ _) | (with_reducible refine Kd.C_drew ?_))); (case side2 => exact HC0.out); rintro e w' ⟨rfl, ⟨nd, rfl⟩⟩; refine ⟨_, rfl, ?_⟩))
    go_ret
    exact ⟨by first | rfl | (simp; done) | (simp [*]; done), by repeat (first | exact Drawn0.refl _ | apply Drawn0.step)⟩
  ·rw [if_neg c6] at H
   have c6b0 : decide (0 ≤ a1) = false := decide_eq_false c6
   clear c6
   obtain rfl := Option.some.inj H
   go_enter Try.func27, Try.ntmps27
   go_wp2_with (first | ((with_reducible refine gate_callee (f := 30) rfl ?_); refine goesL_ (some 8) rfl rfl Try.func30 (by kernel_rfl) rfl #[.slice A0 l0.length c0] rfl (by (try simp only [List.map_toArray, List.map_cons, List.map_nil]); first | done | rfl | (simp only [List.length_drop, List.length_take]; rfl)) ?_; (with_reducible refine (bailiwickref03_Right.calls k _ _ l0 true _ ?side1 ?side2 A4.out).mono ?_); (case side1 => repeat (first | exact HR0.out | (with_reducible refine Kd.C_alloc ?_ _) | (with_reducible refine Kd.C_drewN ?_ _) | (with_reducible refine Kd.C_drew ?_))); (case side2 => exact HC0.out); rintro e w' ⟨rfl, ⟨nd, rfl⟩⟩; refine ⟨_, rfl, ?_⟩))
   go_ret
   exact ⟨by first | rfl | (simp; done) | (simp [*]; done), by repeat (first | exact Drawn0.refl _ | apply Drawn0.step)⟩
 ·replace c5 := Bool.eq_false_iff.mpr c5
  subst c5
  have H1 : (some false) = some r := by rw [if_neg (show ¬ (false = true) by decide)] at H; exact H
  clear H
  have H := H1
  clear H1
  obtain rfl := Option.some.inj H
  go_enter Try.func27, Try.ntmps27
  go_wp2_with (first | ((with_reducible refine gate_callee (f := 30) rfl ?_); refine goesL_ (some 8) rfl rfl Try.func30 (by kernel_rfl) rfl #[.slice A0 l0.length c0] rfl (by (try simp only [List.map_toArray, List.map_cons, List.map_nil]); first | done | rfl | (simp only [List.length_drop, List.length_take]; rfl)) ?_; (with_reducible refine (bailiwickref03_Right.calls k _ _ l0 false _ ?side1 ?side2 A4.out).mono ?_); (case side1 => repeat (first | exact HR0.out | (with_reducible refine Kd.C_alloc ?_ _) | (with_reducible refine Kd.C_drewN ?_ _) | (with_reducible refine Kd.C_drew ?_))); (case side2 => exact HC0.out); rintro e w' ⟨rfl, ⟨nd, rfl⟩⟩; refine ⟨_, rfl, ?_⟩))
  go_ret
  exact ⟨by first | rfl | (simp; done) | (simp [*]; done), by repeat (first | exact Drawn0.refl _ | apply Drawn0.step)⟩

def bailiwickref03_at.l0 : Nat → List (S45) → Int → Int → Int → Option (Int)
 | 0, _, _, _, _ => none
 | k + 1, x0, x1, x5, x6 => if x6 < (x0.length : Int) then (if 0 ≤ x6 then (if ((rd_T45 x0 x6).f0) ≤ x1 then (bailiwickref03_at.l0 k x0 x1 ((rd_T45 x0 x6).f1) (wrap64 (x6 + 1))) else (bailiwickref03_at.l0 k x0 x1 x5 (wrap64 (x6 + 1)))) else (none)) else (some x5)
def bailiwickref03_at.f (k : Nat) (l0 : List (S45)) (a1 : Int) : Option (Int) := bailiwickref03_at.l0 k l0 a1 0 0
set_option maxHeartbeats 8000000 in
set_option maxRecDepth 100000 in
theorem bailiwickref03_at.calls (k : Nat) (A0 : Option Addr) (c0 : Nat) (l0 : List (S45)) (a1 : Int) (r : Int) (w : World) (hr0 : Kd.C k45 w A0 l0.length l0) (hc0 : l0.length ≤ c0) (h : bailiwickref03_at.f k l0 a1 = some r) :
  Calls Try.prog 57 #[.slice A0 l0.length c0, .int .i64 a1] w fun e w' => e = .returned (.int .i64 r) ∧ Drawn0 w w' := by
 have HR0 := Aside0.mk hr0
 have HC0 := Aside0.mk hc0
 clear hr0 hc0
 have H : (bailiwickref03_at.l0 k l0 a1 0 0) = some r := h
 clear h
 have H' := Aside0.mk H
 clear H
 go_enter Try.func57, Try.ntmps57
 go_wp2
 go_loopg [5, 6] k (fun kq v5 v6 w' => ∃ (x5_1 : Int) (x6_1 : Int), v5 = .int .i64 x5_1 ∧ v6 = .int .i64 x6_1 ∧ Aside0 (bailiwickref03_at.l0 kq l0 a1 x5_1 x6_1 = some r) ∧ Aside0 (kq ≤ k) ∧ Drawn0 w w')
 case atStart => exact ⟨(0), (0), (by first | rfl | (simp; done) | (simp [*]; done)), (by first | rfl | (simp; done) | (simp [*]; done)), H', ⟨Nat.le_refl _⟩, by repeat (first | exact Drawn0.refl _ | apply Drawn0.step)⟩
 case round =>
  clear H'
  try clear p2
  obtain ⟨x5_1, x6_1, rfl, rfl, HA, HK1, ⟨m1, rfl⟩⟩ := hrel
  cases gk with
  | zero => exact absurd HA.out (by simp [bailiwickref03_at.l0])
  | succ k1 =>
   have H := HA.out
   clear HA
   simp only [bailiwickref03_at.l0] at H
   by_cases c3 : x6_1 < (l0.length : Int)
   ·rw [if_pos c3] at H
    have c3b0 : decide (x6_1 < (l0.length : Int)) = true := decide_eq_true c3
    clear c3
    by_cases c4 : 0 ≤ x6_1
    ·rw [if_pos c4] at H
     have c4b0 : decide (0 ≤ x6_1) = true := decide_eq_true c4
     clear c4
     by_cases c5 : ((rd_T45 l0 x6_1).f0) ≤ a1
     ·rw [if_pos c5] at H
      have c5b0 : decide (((rd_T45 l0 x6_1).f0) ≤ a1) = true := decide_eq_true c5
      clear c5
      have H' := Aside0.mk H
      clear H
      have p227 : 0 ≤ (x6_1 : Int) := of_decide_eq_true (by first | (with_reducible assumption) | assumption)
      have q227 : x6_1 < (l0.length : Int) := of_decide_eq_true (by first | (with_reducible assumption) | assumption)
      obtain ⟨ad227, e227, hx227_0, hx227_1⟩ := at_T45 HR0.out x6_1 p227 q227
      cases e227
      replace p227 := eq_true p227
      replace q227 := eq_true q227
      have p228 : 0 ≤ (x6_1 : Int) := of_decide_eq_true (by first | (with_reducible assumption) | assumption)
      have q228 : x6_1 < (l0.length : Int) := of_decide_eq_true (by first | (with_reducible assumption) | assumption)
      obtain ⟨ad228, e228, hx228_0, hx228_1⟩ := at_T45 HR0.out x6_1 p228 q228
      obtain rfl : ad227 = ad228 := (by injection e228)
      replace p228 := eq_true p228
      replace q228 := eq_true q228
      go_wp2
      go_roundg k1
      case measure => have := HK1.out; omega
      case rel => exact ⟨((rd_T45 l0 x6_1).f1), (wrap64 (x6_1 + 1)), (by first | rfl | (simp; done) | (simp [*]; done)), (by first | rfl | (simp; done) | (simp [*]; done)), H', ⟨by have := HK1.out; omega⟩, by repeat (first | exact Drawn0.refl _ | apply Drawn0.step)⟩
     ·rw [if_neg c5] at H
      have c5b0 : decide (((rd_T45 l0 x6_1).f0) ≤ a1) = false := decide_eq_false c5
      clear c5
      have H' := Aside0.mk H
      clear H
      have p227 : 0 ≤ (x6_1 : Int) := of_decide_eq_true (by first | (with_reducible assumption) | assumption)
      have q227 : x6_1 < (l0.length : Int) := of_decide_eq_true (by first | (with_reducible assumption) | assumption)
      obtain ⟨ad227, e227, hx227_0, hx227_1⟩ := at_T45 HR0.out x6_1 p227 q227
      cases e227
      replace p227 := eq_true p227
      replace q227 := eq_true q227
      go_wp2
      go_roundg k1
      case measure => have := HK1.out; omega
      case rel => exact ⟨(x5_1), (wrap64 (x6_1 + 1)), (by first | rfl | (simp; done) | (simp [*]; done)), (by first | rfl | (simp; done) | (simp [*]; done)), H', ⟨by have := HK1.out; omega⟩, by repeat (first | exact Drawn0.refl _ | apply Drawn0.step)⟩
    ·rw [if_neg c4] at H
     exact absurd H (by simp)
   ·rw [if_neg c3] at H
    have c3b0 : decide (x6_1 < (l0.length : Int)) = false := decide_eq_false c3
    clear c3
    obtain rfl := Option.some.inj H
    go_wp2
    go_ret
    exact ⟨by first | rfl | (simp; done) | (simp [*]; done), by repeat (first | exact Drawn0.refl _ | apply Drawn0.step)⟩

end Go.Proofs.Ytimllhflecippaa.F
end

section
namespace Go.Proofs.Ytimllhflecippaa.F
open Go.RowKit Go.Proofs.YtimllhflecippaaW.PrintWords Go.Proofs.YtimllhflecippaaW.PrintLast Go.Proofs.YtimllhflecippaaW.PrintMore
attribute [local go_sem] max2_int min2_int max_two min_two
set_option linter.unusedVariables false
set_option linter.unusedSimpArgs false

end Go.Proofs.Ytimllhflecippaa.F
end

section
namespace Go.Proofs.Ytimllhflecippaa.F
open Go.RowKit Go.Proofs.YtimllhflecippaaW.PrintWords Go.Proofs.YtimllhflecippaaW.PrintLast Go.Proofs.YtimllhflecippaaW.PrintMore
attribute [local go_sem] max2_int min2_int max_two min_two
set_option linter.unusedVariables false
set_option linter.unusedSimpArgs false

end Go.Proofs.Ytimllhflecippaa.F
end

section
namespace Go.Proofs.Ytimllhflecippaa.F
open Go.RowKit Go.Proofs.YtimllhflecippaaW.PrintWords Go.Proofs.YtimllhflecippaaW.PrintLast Go.Proofs.YtimllhflecippaaW.PrintMore
attribute [local go_sem] max2_int min2_int max_two min_two
set_option linter.unusedVariables false
set_option linter.unusedSimpArgs false

def bailiwickref03_Most.l0 : Nat → List (S45) → Int → Int → Int → Int → Option (Int)
 | 0, _, _, _, _, _ => none
 | k + 1, x0, x1, x2, x7, x8 => if x8 < (x0.length : Int) then (if 0 ≤ x8 then (if ((rd_T45 x0 x8).f0) > x1 then (if ((rd_T45 x0 x8).f0) < x2 then (if ((rd_T45 x0 x8).f1) > x7 then (bailiwickref03_Most.l0 k x0 x1 x2 ((rd_T45 x0 x8).f1) (wrap64 (x8 + 1))) else (bailiwickref03_Most.l0 k x0 x1 x2 x7 (wrap64 (x8 + 1)))) else (bailiwickref03_Most.l0 k x0 x1 x2 x7 (wrap64 (x8 + 1)))) else (bailiwickref03_Most.l0 k x0 x1 x2 x7 (wrap64 (x8 + 1)))) else (none)) else (some x7)
def bailiwickref03_Most.f (k : Nat) (l0 : List (S45)) (a1 : Int) (a2 : Int) : Option (Int) := (bailiwickref03_at.f k l0 a1).bind fun t322 => (bailiwickref03_Most.l0 k l0 a1 a2 t322 0)
set_option maxHeartbeats 8000000 in
set_option maxRecDepth 100000 in
theorem bailiwickref03_Most.calls (k : Nat) (A0 : Option Addr) (c0 : Nat) (l0 : List (S45)) (a1 : Int) (a2 : Int) (r : Int) (w : World) (hr0 : Kd.C k45 w A0 l0.length l0) (hc0 : l0.length ≤ c0) (h : bailiwickref03_Most.f k l0 a1 a2 = some r) :
  Calls Try.prog 56 #[.slice A0 l0.length c0, .int .i64 a1, .int .i64 a2] w fun e w' => e = .returned (.int .i64 r) ∧ Drawn0 w w' := by
 have HR0 := Aside0.mk hr0
 have HC0 := Aside0.mk hc0
 clear hr0 hc0
 have H : ((bailiwickref03_at.f k l0 a1).bind fun t322 => (bailiwickref03_Most.l0 k l0 a1 a2 t322 0)) = some r := h
 clear h
 replace H := Option.bind_eq_some_iff.mp H
 obtain ⟨t322, A40, H⟩ := H
 replace H : (bailiwickref03_Most.l0 k l0 a1 a2 t322 0) = some r := H
 have A4 := Aside0.mk A40
 clear A40
 have H' := Aside0.mk H
 clear H
 go_enter Try.func56, Try.ntmps56
 go_wp2_with (first | ((with_reducible refine gate_callee (f := 57) rfl ?_); refine goesL_ (some 11) rfl rfl Try.func57 (by kernel_rfl) rfl #[.slice A0 l0.length c0, .int .i64 a1] rfl (by (try simp only [List.map_toArray, List.map_cons, List.map_nil]); first | done | rfl | (simp only [List.length_drop, List.length_take]; rfl)) ?_; (with_reducible refine (bailiwickref03_at.calls k _ _ l0 a1 t322 _ ?side1 ?side2 A4.out).mono ?_); (case side1 => repeat (first | exact HR0.out | (with_reducible refine Kd.C_alloc ?_ _) | (with_reducible refine Kd.C_drewN ?_ _) | (with_reducible refine Kd.C_drew ?_))); (case side2 => exact HC0.out); rintro e w' ⟨rfl, ⟨nd, rfl⟩⟩; refine ⟨_, rfl, ?_⟩))
 go_loopg [7, 8] k (fun kq v7 v8 w' => ∃ (x7_1 : Int) (x8_1 : Int), v7 = .int .i64 x7_1 ∧ v8 = .int .i64 x8_1 ∧ Aside0 (bailiwickref03_Most.l0 kq l0 a1 a2 x7_1 x8_1 = some r) ∧ Aside0 (kq ≤ k) ∧ Drawn0 w w')
 case atStart => exact ⟨(t322), (0), (by first | rfl | (simp; done) | (simp [*]; done)), (by first | rfl | (simp; done) | (simp [*]; done)), H', ⟨Nat.le_refl _⟩, by repeat (first | exact Drawn0.refl _ | apply Drawn0.step)⟩
 case round =>
  clear H'
  try clear p2
  obtain ⟨x7_1, x8_1, rfl, rfl, HA, HK1, ⟨m1, rfl⟩⟩ := hrel
  cases gk with
  | zero => exact absurd HA.out (by simp [bailiwickref03_Most.l0])
  | succ k1 =>
   have H := HA.out
   clear HA
   simp only [bailiwickref03_Most.l0] at H
   by_cases c5 : x8_1 < (l0.length : Int)
   ·rw [if_pos c5] at H
    have c5b0 : decide (x8_1 < (l0.length : Int)) = true := decide_eq_true c5
    clear c5
    by_cases c6 : 0 ≤ x8_1
    ·rw [if_pos c6] at H
     have c6b0 : decide (0 ≤ x8_1) = true := decide_eq_true c6
     clear c6
     by_cases c7 : ((rd_T45 l0 x8_1).f0) > a1
     ·rw [if_pos c7] at H
      have c7b0 : decide (a1 < ((rd_T45 l0 x8_1).f0)) = true := decide_eq_true c7
      clear c7
      by_cases c8 : ((rd_T45 l0 x8_1).f0) < a2
      ·rw [if_pos c8] at H
       have c8b0 : decide (((rd_T45 l0 x8_1).f0) < a2) = true := decide_eq_true c8
       clear c8
       by_cases c9 : ((rd_T45 l0 x8_1).f1) > x7_1
       ·rw [if_pos c9] at H
        have c9b0 : decide (x7_1 < ((rd_T45 l0 x8_1).f1)) = true := decide_eq_true c9
        clear c9
        have H' := Aside0.mk H
        clear H
        have p323 : 0 ≤ (x8_1 : Int) := of_decide_eq_true (by first | (with_reducible assumption) | assumption)
        have q323 : x8_1 < (l0.length : Int) := of_decide_eq_true (by first | (with_reducible assumption) | assumption)
        obtain ⟨ad323, e323, hx323_0, hx323_1⟩ := at_T45 HR0.out x8_1 p323 q323
        cases e323
        replace p323 := eq_true p323
        replace q323 := eq_true q323
        have p324 : 0 ≤ (x8_1 : Int) := of_decide_eq_true (by first | (with_reducible assumption) | assumption)
        have q324 : x8_1 < (l0.length : Int) := of_decide_eq_true (by first | (with_reducible assumption) | assumption)
        obtain ⟨ad324, e324, hx324_0, hx324_1⟩ := at_T45 HR0.out x8_1 p324 q324
        obtain rfl : ad323 = ad324 := (by injection e324)
        replace p324 := eq_true p324
        replace q324 := eq_true q324
        have p325 : 0 ≤ (x8_1 : Int) := of_decide_eq_true (by first | (with_reducible assumption) | assumption)
        have q325 : x8_1 < (l0.length : Int) := of_decide_eq_true (by first | (with_reducible assumption) | assumption)
        obtain ⟨ad325, e325, hx325_0, hx325_1⟩ := at_T45 HR0.out x8_1 p325 q325
        obtain rfl : ad323 = ad325 := (by injection e325)
        replace p325 := eq_true p325
        replace q325 := eq_true q325
        have p326 : 0 ≤ (x8_1 : Int) := of_decide_eq_true (by first | (with_reducible assumption) | assumption)
        have q326 : x8_1 < (l0.length : Int) := of_decide_eq_true (by first | (with_reducible assumption) | assumption)
        obtain ⟨ad326, e326, hx326_0, hx326_1⟩ := at_T45 HR0.out x8_1 p326 q326
        obtain rfl : ad323 = ad326 := (by injection e326)
        replace p326 := eq_true p326
        replace q326 := eq_true q326
        go_wp2
        go_roundg k1
        case measure => have := HK1.out; omega
        case rel => exact ⟨((rd_T45 l0 x8_1).f1), (wrap64 (x8_1 + 1)), (by first | rfl | (simp; done) | (simp [*]; done)), (by first | rfl | (simp; done) | (simp [*]; done)), H', ⟨by have := HK1.out; omega⟩, by repeat (first | exact Drawn0.refl _ | apply Drawn0.step)⟩
       ·rw [if_neg c9] at H
        have c9b0 : decide (x7_1 < ((rd_T45 l0 x8_1).f1)) = false := decide_eq_false c9
        clear c9
        have H' := Aside0.mk H
        clear H
        have p323 : 0 ≤ (x8_1 : Int) := of_decide_eq_true (by first | (with_reducible assumption) | assumption)
        have q323 : x8_1 < (l0.length : Int) := of_decide_eq_true (by first | (with_reducible assumption) | assumption)
        obtain ⟨ad323, e323, hx323_0, hx323_1⟩ := at_T45 HR0.out x8_1 p323 q323
        cases e323
        replace p323 := eq_true p323
        replace q323 := eq_true q323
        have p324 : 0 ≤ (x8_1 : Int) := of_decide_eq_true (by first | (with_reducible assumption) | assumption)
        have q324 : x8_1 < (l0.length : Int) := of_decide_eq_true (by first | (with_reducible assumption) | assumption)
        obtain ⟨ad324, e324, hx324_0, hx324_1⟩ := at_T45 HR0.out x8_1 p324 q324
        obtain rfl : ad323 = ad324 := (by injection e324)
        replace p324 := eq_true p324
        replace q324 := eq_true q324
        have p325 : 0 ≤ (x8_1 : Int) := of_decide_eq_true (by first | (with_reducible assumption) | assumption)
        have q325 : x8_1 < (l0.length : Int) := of_decide_eq_true (by first | (with_reducible assumption) | assumption)
        obtain ⟨ad325, e325, hx325_0, hx325_1⟩ := at_T45 HR0.out x8_1 p325 q325
        obtain rfl : ad323 = ad325 := (by injection e325)
        replace p325 := eq_true p325
        replace q325 := eq_true q325
        go_wp2
        go_roundg k1
        case measure => have := HK1.out; omega
        case rel => exact ⟨(x7_1), (wrap64 (x8_1 + 1)), (by first | rfl | (simp; done) | (simp [*]; done)), (by first | rfl | (simp; done) | (simp [*]; done)), H', ⟨by have := HK1.out; omega⟩, by repeat (first | exact Drawn0.refl _ | apply Drawn0.step)⟩
      ·rw [if_neg c8] at H
       have c8b0 : decide (((rd_T45 l0 x8_1).f0) < a2) = false := decide_eq_false c8
       clear c8
       have H' := Aside0.mk H
       clear H
       have p323 : 0 ≤ (x8_1 : Int) := of_decide_eq_true (by first | (with_reducible assumption) | assumption)
       have q323 : x8_1 < (l0.length : Int) := of_decide_eq_true (by first | (with_reducible assumption) | assumption)
       obtain ⟨ad323, e323, hx323_0, hx323_1⟩ := at_T45 HR0.out x8_1 p323 q323
       cases e323
       replace p323 := eq_true p323
       replace q323 := eq_true q323
       have p324 : 0 ≤ (x8_1 : Int) := of_decide_eq_true (by first | (with_reducible assumption) | assumption)
       have q324 : x8_1 < (l0.length : Int) := of_decide_eq_true (by first | (with_reducible assumption) | assumption)
       obtain ⟨ad324, e324, hx324_0, hx324_1⟩ := at_T45 HR0.out x8_1 p324 q324
       obtain rfl : ad323 = ad324 := (by injection e324)
       replace p324 := eq_true p324
       replace q324 := eq_true q324
       go_wp2
       go_roundg k1
       case measure => have := HK1.out; omega
       case rel => exact ⟨(x7_1), (wrap64 (x8_1 + 1)), (by first | rfl | (simp; done) | (simp [*]; done)), (by first | rfl | (simp; done) | (simp [*]; done)), H', ⟨by have := HK1.out; omega⟩, by repeat (first | exact Drawn0.refl _ | apply Drawn0.step)⟩
     ·rw [if_neg c7] at H
      have c7b0 : decide (a1 < ((rd_T45 l0 x8_1).f0)) = false := decide_eq_false c7
      clear c7
      have H' := Aside0.mk H
      clear H
      have p323 : 0 ≤ (x8_1 : Int) := of_decide_eq_true (by first | (with_reducible assumption) | assumption)
      have q323 : x8_1 < (l0.length : Int) := of_decide_eq_true (by first | (with_reducible assumption) | assumption)
      obtain ⟨ad323, e323, hx323_0, hx323_1⟩ := at_T45 HR0.out x8_1 p323 q323
      cases e323
      replace p323 := eq_true p323
      replace q323 := eq_true q323
      go_wp2
      go_roundg k1
      case measure => have := HK1.out; omega
      case rel => exact ⟨(x7_1), (wrap64 (x8_1 + 1)), (by first | rfl | (simp; done) | (simp [*]; done)), (by first | rfl | (simp; done) | (simp [*]; done)), H', ⟨by have := HK1.out; omega⟩, by repeat (first | exact Drawn0.refl _ | apply Drawn0.step)⟩
    ·rw [if_neg c6] at H
     exact absurd H (by simp)
   ·rw [if_neg c5] at H
    have c5b0 : decide (x8_1 < (l0.length : Int)) = false := decide_eq_false c5
    clear c5
    obtain rfl := Option.some.inj H
    go_wp2
    go_ret
    exact ⟨by first | rfl | (simp; done) | (simp [*]; done), by repeat (first | exact Drawn0.refl _ | apply Drawn0.step)⟩

end Go.Proofs.Ytimllhflecippaa.F
end

section
namespace Go.Proofs.Ytimllhflecippaa.F
open Go.RowKit Go.Proofs.YtimllhflecippaaW.PrintWords Go.Proofs.YtimllhflecippaaW.PrintLast Go.Proofs.YtimllhflecippaaW.PrintMore
attribute [local go_sem] max2_int min2_int max_two min_two
set_option linter.unusedVariables false
set_option linter.unusedSimpArgs false

def bailiwickref03_At.f (k : Nat) (l0 : List (S45)) (a1 : Int) : Option (Int) := (bailiwickref03_Right.f k l0).bind fun t333 => (if t333 = true then (if a1 < 0 then (some 0) else (if a1 > 4611686018427387904 then (some 0) else ((bailiwickref03_at.f k l0 a1).bind fun t334 => (some t334)))) else (some 0))
set_option maxHeartbeats 8000000 in
set_option maxRecDepth 100000 in
theorem bailiwickref03_At.calls (k : Nat) (A0 : Option Addr) (c0 : Nat) (l0 : List (S45)) (a1 : Int) (r : Int) (w : World) (hr0 : Kd.C k45 w A0 l0.length l0) (hc0 : l0.length ≤ c0) (h : bailiwickref03_At.f k l0 a1 = some r) :
  Calls Try.prog 32 #[.slice A0 l0.length c0, .int .i64 a1] w fun e w' => e = .returned (.int .i64 r) ∧ Drawn0 w w' := by
 have HR0 := Aside0.mk hr0
 have HC0 := Aside0.mk hc0
 clear hr0 hc0
 have H : ((bailiwickref03_Right.f k l0).bind fun t333 => (if t333 = true then (if a1 < 0 then (some 0) else (if a1 > 4611686018427387904 then (some 0) else ((bailiwickref03_at.f k l0 a1).bind fun t334 => (some t334)))) else (some 0))) = some r := h
 clear h
 replace H := Option.bind_eq_some_iff.mp H
 obtain ⟨t333, A30, H⟩ := H
 replace H : (if t333 = true then (if a1 < 0 then (some 0) else (if a1 > 4611686018427387904 then (some 0) else ((bailiwickref03_at.f k l0 a1).bind fun t334 => (some t334)))) else (some 0)) = some r := H
 have A3 := Aside0.mk A30
 clear A30
 by_cases c4 : t333 = true
 ·subst c4
  have H1 : (if a1 < 0 then (some 0) else (if a1 > 4611686018427387904 then (some 0) else ((bailiwickref03_at.f k l0 a1).bind fun t334 => (some t334)))) = some r := by rw [if_pos rfl] at H; exact H
  clear H
  have H := H1
  clear H1
  by_cases c5 : a1 < 0
  ·rw [if_pos c5] at H
   have c5b0 : decide (a1 < 0) = true := decide_eq_true c5
   clear c5
   obtain rfl := Option.some.inj H
   go_enter Try.func32, Try.ntmps32
   go_wp2_with (first | ((with_reducible refine gate_callee (f := 30) rfl ?_); refine goesL_ (some 6) rfl rfl Try.func30 (by kernel_rfl) rfl #[.slice A0 l0.length c0] rfl (by (try simp only [List.map_toArray, List.map_cons, List.map_nil]); first | done | rfl | (simp only [List.length_drop, List.length_take]; rfl)) ?_; (with_reducible refine (bailiwickref03_Right.calls k _ _ l0 true _ ?side1 ?side2 A3.out).mono ?_); (case side1 => repeat (first | exact HR0.out | (with_reducible refine Kd.C_alloc ?_ _) | (with_reducible refine Kd.C_drewN ?_ _) | (with_reducible refine Kd.C_drew ?_))); (case side2 => exact HC0.out); rintro e w' ⟨rfl, ⟨nd, rfl⟩⟩; refine ⟨_, rfl, ?_⟩))
   go_ret
   exact ⟨by first | rfl | (simp; done) | (simp [*]; done), by repeat (first | exact Drawn0.refl _ | apply Drawn0.step)⟩
  ·rw [if_neg c5] at H
   have c5b0 : decide (a1 < 0) = false := decide_eq_false c5
   clear c5
   by_cases c6 : a1 > 4611686018427387904
   ·rw [if_pos c6] at H
    have c6b0 : decide (4611686018427387904 < a1) = true := decide_eq_true c6
    clear c6
    obtain rfl := Option.some.inj H
    go_enter Try.func32, Try.ntmps32
    go_wp2_with (first | ((with_reducible refine gate_callee (f := 30) rfl ?_); refine goesL_ (some 6) rfl rfl Try.func30 (by kernel_rfl) rfl #[.slice A0 l0.length c0] rfl (by (try simp only [List.map_toArray, List.map_cons, List.map_nil]); first | done | rfl | (simp only [List.length_drop, List.length_take]; rfl)) ?_; (with_reducible refine (bailiwickref03_Right.calls k _ _ l0 true _ ?side1 ?side2 A3.out).mono ?_); (case side1 => repeat (first | exact HR0.out | (with_reducible refine Kd.C_alloc ?_ _) | (with_reducible refine Kd.C_drewN ?_ _) | (with_reducible refine Kd.C_drew ?_))); (case side2 => exact HC0.out); rintro e w' ⟨rfl, ⟨nd, rfl⟩⟩; refine ⟨_, rfl, ?_⟩))
    go_ret
    exact ⟨by first | rfl | (simp; done) | (simp [*]; done), by repeat (first | exact Drawn0.refl _ | apply Drawn0.step)⟩
   ·rw [if_neg c6] at H
    have c6b0 : decide (4611686018427387904 < a1) = false := decide_eq_false c6
    clear c6
    replace H := Option.bind_eq_some_iff.mp H
    obtain ⟨t334, A70, H⟩ := H
    replace H : (some t334) = some r := H
    have A7 := Aside0.mk A70
    clear A70
    obtain rfl := Option.some.inj H
    go_enter Try.func32, Try.ntmps32
    go_wp2_with (first | ((with_reducible refine gate_callee (f := 30) rfl ?_); refine goesL_ (some 6) rfl rfl Try.func30 (by kernel_rfl) rfl #[.slice A0 l0.length c0] rfl (by (try simp only [List.map_toArray, List.map_cons, List.map_nil]); first | done | rfl | (simp only [List.length_drop, List.length_take]; rfl)) ?_; (with_reducible refine (bailiwickref03_Right.calls k _ _ l0 true _ ?side1 ?side2 A3.out).mono ?_); (case side1 => repeat (first | exact HR0.out | (with_reducible refine Kd.C_alloc ?_ _) | (with_reducible refine Kd.C_drewN ?_ _) | (with_reducible refine Kd.C_drew ?_))); (case side2 => exact HC0.out); rintro e w' ⟨rfl, ⟨nd, rfl⟩⟩; refine ⟨_, rfl, ?_⟩) | ((with_reducible refine gate_callee (f := 57) rfl ?_); refine goesL_ (some 18) rfl rfl Try.func57 (by kernel_rfl) rfl #[.slice A0 l0.length c0, .int .i64 a1] rfl (by (try simp only [List.map_toArray, List.map_cons, List.map_nil]); first | done | rfl | (simp only [List.length_drop, List.length_take]; rfl)) ?_; (with_reducible refine (bailiwickref03_at.calls k _ _ l0 a1 t334 _ ?side1 ?side2 A7.out).mono ?_); (case side1 => repeat (first | exact HR0.out | (with_reducible refine Kd.C_alloc ?_ _) | (with_reducible refine Kd.C_drewN ?_ _) | (with_reducible refine Kd.C_drew ?_))); (case side2 => exact HC0.out); rintro e w' ⟨rfl, ⟨nd, rfl⟩⟩; refine ⟨_, rfl, ?_⟩))
    go_ret
    exact ⟨by first | rfl | (simp; done) | (simp [*]; done), by repeat (first | exact Drawn0.refl _ | apply Drawn0.step)⟩
 ·replace c4 := Bool.eq_false_iff.mpr c4
  subst c4
  have H1 : (some 0) = some r := by rw [if_neg (show ¬ (false = true) by decide)] at H; exact H
  clear H
  have H := H1
  clear H1
  obtain rfl := Option.some.inj H
  go_enter Try.func32, Try.ntmps32
  go_wp2_with (first | ((with_reducible refine gate_callee (f := 30) rfl ?_); refine goesL_ (some 6) rfl rfl Try.func30 (by kernel_rfl) rfl #[.slice A0 l0.length c0] rfl (by (try simp only [List.map_toArray, List.map_cons, List.map_nil]); first | done | rfl | (simp only [List.length_drop, List.length_take]; rfl)) ?_; (with_reducible refine (bailiwickref03_Right.calls k _ _ l0 false _ ?side1 ?side2 A3.out).mono ?_); (case side1 => repeat (first | exact HR0.out | (with_reducible refine Kd.C_alloc ?_ _) | (with_reducible refine Kd.C_drewN ?_ _) | (with_reducible refine Kd.C_drew ?_))); (case side2 => exact HC0.out); rintro e w' ⟨rfl, ⟨nd, rfl⟩⟩; refine ⟨_, rfl, ?_⟩))
  go_ret
  exact ⟨by first | rfl | (simp; done) | (simp [*]; done), by repeat (first | exact Drawn0.refl _ | apply Drawn0.step)⟩

-- NOT PRINTED: function 6 (bailiwicklaw03_StepRight)

end Go.Proofs.Ytimllhflecippaa.F
end

section
namespace Go.Proofs.Ytimllhflecippaa.F
open Go.RowKit Go.Proofs.YtimllhflecippaaW.PrintWords Go.Proofs.YtimllhflecippaaW.PrintLast Go.Proofs.YtimllhflecippaaW.PrintMore
attribute [local go_sem] max2_int min2_int max_two min_two
set_option linter.unusedVariables false
set_option linter.unusedSimpArgs false

def bailiwickref03_Least.l0 : Nat → List (S45) → Int → Int → Int → Int → Option (Int)
 | 0, _, _, _, _, _ => none
 | k + 1, x0, x1, x2, x7, x8 => if x8 < (x0.length : Int) then (if 0 ≤ x8 then (if ((rd_T45 x0 x8).f0) > x1 then (if ((rd_T45 x0 x8).f0) < x2 then (if ((rd_T45 x0 x8).f1) < x7 then (bailiwickref03_Least.l0 k x0 x1 x2 ((rd_T45 x0 x8).f1) (wrap64 (x8 + 1))) else (bailiwickref03_Least.l0 k x0 x1 x2 x7 (wrap64 (x8 + 1)))) else (bailiwickref03_Least.l0 k x0 x1 x2 x7 (wrap64 (x8 + 1)))) else (bailiwickref03_Least.l0 k x0 x1 x2 x7 (wrap64 (x8 + 1)))) else (none)) else (some x7)
def bailiwickref03_Least.f (k : Nat) (l0 : List (S45)) (a1 : Int) (a2 : Int) : Option (Int) := (bailiwickref03_at.f k l0 a1).bind fun t229 => (bailiwickref03_Least.l0 k l0 a1 a2 t229 0)
set_option maxHeartbeats 8000000 in
set_option maxRecDepth 100000 in
theorem bailiwickref03_Least.calls (k : Nat) (A0 : Option Addr) (c0 : Nat) (l0 : List (S45)) (a1 : Int) (a2 : Int) (r : Int) (w : World) (hr0 : Kd.C k45 w A0 l0.length l0) (hc0 : l0.length ≤ c0) (h : bailiwickref03_Least.f k l0 a1 a2 = some r) :
  Calls Try.prog 28 #[.slice A0 l0.length c0, .int .i64 a1, .int .i64 a2] w fun e w' => e = .returned (.int .i64 r) ∧ Drawn0 w w' := by
 have HR0 := Aside0.mk hr0
 have HC0 := Aside0.mk hc0
 clear hr0 hc0
 have H : ((bailiwickref03_at.f k l0 a1).bind fun t229 => (bailiwickref03_Least.l0 k l0 a1 a2 t229 0)) = some r := h
 clear h
 replace H := Option.bind_eq_some_iff.mp H
 obtain ⟨t229, A40, H⟩ := H
 replace H : (bailiwickref03_Least.l0 k l0 a1 a2 t229 0) = some r := H
 have A4 := Aside0.mk A40
 clear A40
 have H' := Aside0.mk H
 clear H
 go_enter Try.func28, Try.ntmps28
 go_wp2_with (first | ((with_reducible refine gate_callee (f := 57) rfl ?_); refine goesL_ (some 11) rfl rfl Try.func57 (by kernel_rfl) rfl #[.slice A0 l0.length c0, .int .i64 a1] rfl (by (try simp only [List.map_toArray, List.map_cons, List.map_nil]); first | done | rfl | (simp only [List.length_drop, List.length_take]; rfl)) ?_; (with_reducible refine (bailiwickref03_at.calls k _ _ l0 a1 t229 _ ?side1 ?side2 A4.out).mono ?_); (case side1 => repeat (first | exact HR0.out | (with_reducible refine Kd.C_alloc ?_ _) | (with_reducible refine Kd.C_drewN ?_ _) | (with_reducible refine Kd.C_drew ?_))); (case side2 => exact HC0.out); rintro e w' ⟨rfl, ⟨nd, rfl⟩⟩; refine ⟨_, rfl, ?_⟩))
 go_loopg [7, 8] k (fun kq v7 v8 w' => ∃ (x7_1 : Int) (x8_1 : Int), v7 = .int .i64 x7_1 ∧ v8 = .int .i64 x8_1 ∧ Aside0 (bailiwickref03_Least.l0 kq l0 a1 a2 x7_1 x8_1 = some r) ∧ Aside0 (kq ≤ k) ∧ Drawn0 w w')
 case atStart => exact ⟨(t229), (0), (by first | rfl | (simp; done) | (simp [*]; done)), (by first | rfl | (simp; done) | (simp [*]; done)), H', ⟨Nat.le_refl _⟩, by repeat (first | exact Drawn0.refl _ | apply Drawn0.step)⟩
 case round =>
  clear H'
  try clear c2
  try clear p2
  obtain ⟨x7_1, x8_1, rfl, rfl, HA, HK1, ⟨m1, rfl⟩⟩ := hrel
  cases gk with
  | zero => exact absurd HA.out (by simp [bailiwickref03_Least.l0])
  | succ k1 =>
   have H := HA.out
   clear HA
   simp only [bailiwickref03_Least.l0] at H
   by_cases c5 : x8_1 < (l0.length : Int)
   ·rw [if_pos c5] at H
    have c5b0 : decide (x8_1 < (l0.length : Int)) = true := decide_eq_true c5
    clear c5
    by_cases c6 : 0 ≤ x8_1
    ·rw [if_pos c6] at H
     have c6b0 : decide (0 ≤ x8_1) = true := decide_eq_true c6
     clear c6
     by_cases c7 : ((rd_T45 l0 x8_1).f0) > a1
     ·rw [if_pos c7] at H
      have c7b0 : decide (a1 < ((rd_T45 l0 x8_1).f0)) = true := decide_eq_true c7
      clear c7
      by_cases c8 : ((rd_T45 l0 x8_1).f0) < a2
      ·rw [if_pos c8] at H
       have c8b0 : decide (((rd_T45 l0 x8_1).f0) < a2) = true := decide_eq_true c8
       clear c8
       by_cases c9 : ((rd_T45 l0 x8_1).f1) < x7_1
       ·rw [if_pos c9] at H
        have c9b0 : decide (((rd_T45 l0 x8_1).f1) < x7_1) = true := decide_eq_true c9
        clear c9
        have H' := Aside0.mk H
        clear H
        have p230 : 0 ≤ (x8_1 : Int) := of_decide_eq_true (by first | (with_reducible assumption) | assumption)
        have q230 : x8_1 < (l0.length : Int) := of_decide_eq_true (by first | (with_reducible assumption) | assumption)
        obtain ⟨ad230, e230, hx230_0, hx230_1⟩ := at_T45 HR0.out x8_1 p230 q230
        cases e230
        replace p230 := eq_true p230
        replace q230 := eq_true q230
        have p231 : 0 ≤ (x8_1 : Int) := of_decide_eq_true (by first | (with_reducible assumption) | assumption)
        have q231 : x8_1 < (l0.length : Int) := of_decide_eq_true (by first | (with_reducible assumption) | assumption)
        obtain ⟨ad231, e231, hx231_0, hx231_1⟩ := at_T45 HR0.out x8_1 p231 q231
        obtain rfl : ad230 = ad231 := (by injection e231)
        replace p231 := eq_true p231
        replace q231 := eq_true q231
        have p232 : 0 ≤ (x8_1 : Int) := of_decide_eq_true (by first | (with_reducible assumption) | assumption)
        have q232 : x8_1 < (l0.length : Int) := of_decide_eq_true (by first | (with_reducible assumption) | assumption)
        obtain ⟨ad232, e232, hx232_0, hx232_1⟩ := at_T45 HR0.out x8_1 p232 q232
        obtain rfl : ad230 = ad232 := (by injection e232)
        replace p232 := eq_true p232
        replace q232 := eq_true q232
        have p233 : 0 ≤ (x8_1 : Int) := of_decide_eq_true (by first | (with_reducible assumption) | assumption)
        have q233 : x8_1 < (l0.length : Int) := of_decide_eq_true (by first | (with_reducible assumption) | assumption)
        obtain ⟨ad233, e233, hx233_0, hx233_1⟩ := at_T45 HR0.out x8_1 p233 q233
        obtain rfl : ad230 = ad233 := (by injection e233)
        replace p233 := eq_true p233
        replace q233 := eq_true q233
        go_wp2
        go_roundg k1
        case measure => have := HK1.out; omega
        case rel => exact ⟨((rd_T45 l0 x8_1).f1), (wrap64 (x8_1 + 1)), (by first | rfl | (simp; done) | (simp [*]; done)), (by first | rfl | (simp; done) | (simp [*]; done)), H', ⟨by have := HK1.out; omega⟩, by repeat (first | exact Drawn0.refl _ | apply Drawn0.step)⟩
       ·rw [if_neg c9] at H
        have c9b0 : decide (((rd_T45 l0 x8_1).f1) < x7_1) = false := decide_eq_false c9
        clear c9
        have H' := Aside0.mk H
        clear H
        have p230 : 0 ≤ (x8_1 : Int) := of_decide_eq_true (by first | (with_reducible assumption) | assumption)
        have q230 : x8_1 < (l0.length : Int) := of_decide_eq_true (by first | (with_reducible assumption) | assumption)
        obtain ⟨ad230, e230, hx230_0, hx230_1⟩ := at_T45 HR0.out x8_1 p230 q230
        cases e230
        replace p230 := eq_true p230
        replace q230 := eq_true q230
        have p231 : 0 ≤ (x8_1 : Int) := of_decide_eq_true (by first | (with_reducible assumption) | assumption)
        have q231 : x8_1 < (l0.length : Int) := of_decide_eq_true (by first | (with_reducible assumption) | assumption)
        obtain ⟨ad231, e231, hx231_0, hx231_1⟩ := at_T45 HR0.out x8_1 p231 q231
        obtain rfl : ad230 = ad231 := (by injection e231)
        replace p231 := eq_true p231
        replace q231 := eq_true q231
        have p232 : 0 ≤ (x8_1 : Int) := of_decide_eq_true (by first | (with_reducible assumption) | assumption)
        have q232 : x8_1 < (l0.length : Int) := of_decide_eq_true (by first | (with_reducible assumption) | assumption)
        obtain ⟨ad232, e232, hx232_0, hx232_1⟩ := at_T45 HR0.out x8_1 p232 q232
        obtain rfl : ad230 = ad232 := (by injection e232)
        replace p232 := eq_true p232
        replace q232 := eq_true q232
        go_wp2
        go_roundg k1
        case measure => have := HK1.out; omega
        case rel => exact ⟨(x7_1), (wrap64 (x8_1 + 1)), (by first | rfl | (simp; done) | (simp [*]; done)), (by first | rfl | (simp; done) | (simp [*]; done)), H', ⟨by have := HK1.out; omega⟩, by repeat (first | exact Drawn0.refl _ | apply Drawn0.step)⟩
      ·rw [if_neg c8] at H
       have c8b0 : decide (((rd_T45 l0 x8_1).f0) < a2) = false := decide_eq_false c8
       clear c8
       have H' := Aside0.mk H
       clear H
       have p230 : 0 ≤ (x8_1 : Int) := of_decide_eq_true (by first | (with_reducible assumption) | assumption)
       have q230 : x8_1 < (l0.length : Int) := of_decide_eq_true (by first | (with_reducible assumption) | assumption)
       obtain ⟨ad230, e230, hx230_0, hx230_1⟩ := at_T45 HR0.out x8_1 p230 q230
       cases e230
       replace p230 := eq_true p230
       replace q230 := eq_true q230
       have p231 : 0 ≤ (x8_1 : Int) := of_decide_eq_true (by first | (with_reducible assumption) | assumption)
       have q231 : x8_1 < (l0.length : Int) := of_decide_eq_true (by first | (with_reducible assumption) | assumption)
       obtain ⟨ad231, e231, hx231_0, hx231_1⟩ := at_T45 HR0.out x8_1 p231 q231
       obtain rfl : ad230 = ad231 := (by injection e231)
       replace p231 := eq_true p231
       replace q231 := eq_true q231
       go_wp2
       go_roundg k1
       case measure => have := HK1.out; omega
       case rel => exact ⟨(x7_1), (wrap64 (x8_1 + 1)), (by first | rfl | (simp; done) | (simp [*]; done)), (by first | rfl | (simp; done) | (simp [*]; done)), H', ⟨by have := HK1.out; omega⟩, by repeat (first | exact Drawn0.refl _ | apply Drawn0.step)⟩
     ·rw [if_neg c7] at H
      have c7b0 : decide (a1 < ((rd_T45 l0 x8_1).f0)) = false := decide_eq_false c7
      clear c7
      have H' := Aside0.mk H
      clear H
      have p230 : 0 ≤ (x8_1 : Int) := of_decide_eq_true (by first | (with_reducible assumption) | assumption)
      have q230 : x8_1 < (l0.length : Int) := of_decide_eq_true (by first | (with_reducible assumption) | assumption)
      obtain ⟨ad230, e230, hx230_0, hx230_1⟩ := at_T45 HR0.out x8_1 p230 q230
      cases e230
      replace p230 := eq_true p230
      replace q230 := eq_true q230
      go_wp2
      go_roundg k1
      case measure => have := HK1.out; omega
      case rel => exact ⟨(x7_1), (wrap64 (x8_1 + 1)), (by first | rfl | (simp; done) | (simp [*]; done)), (by first | rfl | (simp; done) | (simp [*]; done)), H', ⟨by have := HK1.out; omega⟩, by repeat (first | exact Drawn0.refl _ | apply Drawn0.step)⟩
    ·rw [if_neg c6] at H
     exact absurd H (by simp)
   ·rw [if_neg c5] at H
    have c5b0 : decide (x8_1 < (l0.length : Int)) = false := decide_eq_false c5
    clear c5
    obtain rfl := Option.some.inj H
    go_wp2
    go_ret
    exact ⟨by first | rfl | (simp; done) | (simp [*]; done), by repeat (first | exact Drawn0.refl _ | apply Drawn0.step)⟩

end Go.Proofs.Ytimllhflecippaa.F
end
