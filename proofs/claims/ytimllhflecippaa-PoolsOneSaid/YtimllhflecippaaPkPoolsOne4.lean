/- The texts of the law PoolsOne, without what it does not use, laid together: part 4. -/
import Derived.Test.YtimllhflecippaaPkPoolsOne1
import Derived.Test.YtimllhflecippaaPkPoolsOne2
import Derived.Test.YtimllhflecippaaPkPoolsOne3
import Derived.Test.YtimllhflecippaaProg
import Derived.WalkSpells
import Derived.Below
import Derived.Deep.Draws
import Derived.Deep.AppendLies
import Derived.Maps.AppendAt
import Derived.OwnWalk
import Derived.Laws.BytesArg
import Derived.Laws.MakeOwn
import Derived.Laws.OwnMore
import Derived.Deep.OwnRows
import Derived.Tactics
import Derived.Lib.ConvBytes
import Derived.Laws.Slices
import Derived.WalkKit
import Derived.KernelRfl
import Derived.RowKit3
import Derived.Deep.LoopGhost
import Derived.Deep.QuietTactic
import Derived.BigQuiet
import Derived.WideLaws
import Derived.Deep.DeepCutAuto
import Derived.Deep.CutBlock
import Derived.Deep.RegionHeld3
import Derived.Laws.Rows
import Derived.Lib.AppendStr
import Derived.ArgAppend
import Derived.Laws.IdiomCopy
import Derived.RowKit
import Derived.OrdersHeld
import Derived.Laws.BitsLemmas
import Derived.Laws.StructEq
import Derived.Laws.Strings

section
namespace Go.Proofs.Ytimllhflecippaa.F
open Go.RowKit Go.Proofs.YtimllhflecippaaW.PrintWords Go.Proofs.YtimllhflecippaaW.PrintLast Go.Proofs.YtimllhflecippaaW.PrintMore
attribute [local go_sem] max2_int min2_int max_two min_two
set_option linter.unusedVariables false
set_option linter.unusedSimpArgs false

mutual
def pools_First.j0 : Nat → List (List (S45)) → Int → Int → List Int → Bool → Option (Int × Bool)
 | 0, _, _, _, _, _ => none
 | k + 1, x0, x1, x2, x3, x25 => if x25 = true then (some (0, false)) else (pools_First.l0 k x0 x2 x3 x1)
def pools_First.l0 : Nat → List (List (S45)) → Int → List Int → Int → Option (Int × Bool)
 | 0, _, _, _, _ => none
 | k + 1, x0, x2, x3, x10 => pools_First.l1 k x0 x2 x3 x10 x10 x0 (x0.length : Int) 0
def pools_First.l1 : Nat → List (List (S45)) → Int → List Int → Int → Int → List (List (S45)) → Int → Int → Option (Int × Bool)
 | 0, _, _, _, _, _, _, _, _ => none
 | k + 1, x0, x2, x3, x10, x11, x28, x29, x30 => if x30 < x29 then (if 0 ≤ x30 then (if x30 < (x28.length : Int) then (if x30 < (x3.length : Int) then ((step_First.f k (rd_L2 x28 x30) x10 x2 (rd x3 x30)).bind fun bt387 => (if bt387.2 = true then (pools_First.l1 k x0 x2 x3 x10 (mx x11 bt387.1) x28 x29 (wrap64 (x30 + 1))) else (some (0, false)))) else (none)) else (none)) else (none)) else (if x11 = x10 then (some (x10, true)) else (pools_First.l0 k x0 x2 x3 x11))
end
def pools_First.f (k : Nat) (l0 : List (List (S45))) (a1 : Int) (a2 : Int) (l3 : List Int) : Option (Int × Bool) := (pools_Right.f k l0).bind fun t384 => (if t384 = true then (pools_First.j0 k l0 a1 a2 l3 ((l3.length : Int) != (l0.length : Int))) else (pools_First.j0 k l0 a1 a2 l3 true))
theorem pools_First.mono_l : ∀ k, (∀ y0 y1 y2 y3 y4, LeO (pools_First.j0 k y0 y1 y2 y3 y4) (pools_First.j0 (k + 1) y0 y1 y2 y3 y4)) ∧ (∀ y0 y1 y2 y3, LeO (pools_First.l0 k y0 y1 y2 y3) (pools_First.l0 (k + 1) y0 y1 y2 y3)) ∧ (∀ y0 y1 y2 y3 y4 y5 y6 y7, LeO (pools_First.l1 k y0 y1 y2 y3 y4 y5 y6 y7) (pools_First.l1 (k + 1) y0 y1 y2 y3 y4 y5 y6 y7))
 | 0 => ⟨fun _ _ _ _ _ r h => by simp [pools_First.j0] at h, fun _ _ _ _ r h => by simp [pools_First.l0] at h, fun _ _ _ _ _ _ _ _ r h => by simp [pools_First.l1] at h⟩
 | k + 1 => by
  obtain ⟨ih0, ih1, ih2⟩ := pools_First.mono_l k
  refine ⟨?_, ?_, ?_⟩
  ·intro y0 y1 y2 y3 y4
   unfold pools_First.j0
   repeat' first
   | (with_reducible exact ih0 _ _ _ _ _)
   | (with_reducible exact ih1 _ _ _ _)
   | (with_reducible exact ih2 _ _ _ _ _ _ _ _)
   | (with_reducible exact pools_Right.mono _ _)
   | (with_reducible exact step_First.mono _ _ _ _ _)
   | (with_reducible exact LeO.refl _)
   | (with_reducible exact LeO.none _)
   | (with_reducible refine LeO.ite ?_ ?_)
   | (with_reducible refine LeO.bind ?_ (fun _ => ?_))
   | exact ih0 _ _ _ _ _
   | exact ih1 _ _ _ _
   | exact ih2 _ _ _ _ _ _ _ _
   | exact pools_Right.mono _ _
   | exact step_First.mono _ _ _ _ _
   | exact LeO.none _
   | refine LeO.ite ?_ ?_
   | refine LeO.bind ?_ (fun _ => ?_)
  ·intro y0 y1 y2 y3
   unfold pools_First.l0
   repeat' first
   | (with_reducible exact ih0 _ _ _ _ _)
   | (with_reducible exact ih1 _ _ _ _)
   | (with_reducible exact ih2 _ _ _ _ _ _ _ _)
   | (with_reducible exact pools_Right.mono _ _)
   | (with_reducible exact step_First.mono _ _ _ _ _)
   | (with_reducible exact LeO.refl _)
   | (with_reducible exact LeO.none _)
   | (with_reducible refine LeO.ite ?_ ?_)
   | (with_reducible refine LeO.bind ?_ (fun _ => ?_))
   | exact ih0 _ _ _ _ _
   | exact ih1 _ _ _ _
   | exact ih2 _ _ _ _ _ _ _ _
   | exact pools_Right.mono _ _
   | exact step_First.mono _ _ _ _ _
   | exact LeO.none _
   | refine LeO.ite ?_ ?_
   | refine LeO.bind ?_ (fun _ => ?_)
  ·intro y0 y1 y2 y3 y4 y5 y6 y7
   unfold pools_First.l1
   repeat' first
   | (with_reducible exact ih0 _ _ _ _ _)
   | (with_reducible exact ih1 _ _ _ _)
   | (with_reducible exact ih2 _ _ _ _ _ _ _ _)
   | (with_reducible exact pools_Right.mono _ _)
   | (with_reducible exact step_First.mono _ _ _ _ _)
   | (with_reducible exact LeO.refl _)
   | (with_reducible exact LeO.none _)
   | (with_reducible refine LeO.ite ?_ ?_)
   | (with_reducible refine LeO.bind ?_ (fun _ => ?_))
   | exact ih0 _ _ _ _ _
   | exact ih1 _ _ _ _
   | exact ih2 _ _ _ _ _ _ _ _
   | exact pools_Right.mono _ _
   | exact step_First.mono _ _ _ _ _
   | exact LeO.none _
   | refine LeO.ite ?_ ?_
   | refine LeO.bind ?_ (fun _ => ?_)
theorem pools_First.mono : ∀ a0 a1 a2 a3 k, LeO (pools_First.f k a0 a1 a2 a3) (pools_First.f (k + 1) a0 a1 a2 a3) := by
 intro a0 a1 a2 a3 k
 obtain ⟨ih0, ih1, ih2⟩ := pools_First.mono_l k
 unfold pools_First.f
 repeat' first
   | (with_reducible exact ih0 _ _ _ _ _)
   | (with_reducible exact ih1 _ _ _ _)
   | (with_reducible exact ih2 _ _ _ _ _ _ _ _)
   | (with_reducible exact pools_Right.mono _ _)
   | (with_reducible exact step_First.mono _ _ _ _ _)
   | (with_reducible exact LeO.refl _)
   | (with_reducible exact LeO.none _)
   | (with_reducible refine LeO.ite ?_ ?_)
   | (with_reducible refine LeO.bind ?_ (fun _ => ?_))
   | exact ih0 _ _ _ _ _
   | exact ih1 _ _ _ _
   | exact ih2 _ _ _ _ _ _ _ _
   | exact pools_Right.mono _ _
   | exact step_First.mono _ _ _ _ _
   | exact LeO.none _
   | refine LeO.ite ?_ ?_
   | refine LeO.bind ?_ (fun _ => ?_)
set_option maxHeartbeats 8000000 in
set_option maxRecDepth 100000 in
theorem pools_First.calls (k : Nat) (A0 : Option Addr) (c0 : Nat) (l0 : List (List (S45))) (a1 : Int) (a2 : Int) (A3 : Option Addr) (c3 : Nat) (l3 : List Int) (r1 : Int) (r2 : Bool) (w : World) (hr0 : Kd.C (Kd.slice 45 k45) w A0 l0.length l0) (hc0 : l0.length ≤ c0) (hr3 : Kd.C (Kd.int .i64) w A3 l3.length l3) (hc3 : l3.length ≤ c3) (h : pools_First.f k l0 a1 a2 l3 = some (r1, r2)) :
  Calls Try.prog 40 #[.slice A0 l0.length c0, .int .i64 a1, .int .i64 a2, .slice A3 l3.length c3] w fun e w' => e = .returned (.tuple #[.int .i64 r1, .bool r2]) ∧ Below w.heap.size w w' := by
 have HR0 := Aside0.mk hr0
 have HC0 := Aside0.mk hc0
 clear hr0 hc0
 have HR3 := Aside0.mk hr3
 have HC3 := Aside0.mk hc3
 clear hr3 hc3
 have HB := Aside0.mk (Below.refl w.heap.size w)
 have H : ((pools_Right.f k l0).bind fun t384 => (if t384 = true then (pools_First.j0 k l0 a1 a2 l3 ((l3.length : Int) != (l0.length : Int))) else (pools_First.j0 k l0 a1 a2 l3 true))) = some (r1, r2) := h
 clear h
 have HC5 := Aside0.mk H
 clear H
 go_enter Try.func40, Try.ntmps40
 go_upto_region 1 with (fail)
 go_cut [25] (fun v25 wc => ∃ (kq : Nat) (x25_4 : Bool), v25 = .bool x25_4 ∧ Aside0 (pools_First.j0 kq l0 a1 a2 l3 x25_4 = some (r1, r2)) ∧ Aside0 (kq ≤ k) ∧ Aside0 (Below w.heap.size w wc))
 case first =>
  have H := HC5.out
  clear HC5
  replace H := Option.bind_eq_some_iff.mp H
  obtain ⟨t384, A60, H⟩ := H
  replace H : (if t384 = true then (pools_First.j0 k l0 a1 a2 l3 ((l3.length : Int) != (l0.length : Int))) else (pools_First.j0 k l0 a1 a2 l3 true)) = some (r1, r2) := H
  have A6 := Aside0.mk A60
  clear A60
  by_cases c7 : t384 = true
  ·subst c7
   have H1 : (pools_First.j0 k l0 a1 a2 l3 ((l3.length : Int) != (l0.length : Int))) = some (r1, r2) := by rw [if_pos rfl] at H; exact H
   clear H
   have H := H1
   clear H1
   have H' := Aside0.mk H
   clear H
   go_wp2_with (first | ((with_reducible refine gate_callee (f := 36) rfl ?_); refine goesL_ (some 17) rfl rfl Try.func36 (by kernel_rfl) rfl #[.slice A0 l0.length c0] rfl (by (try simp only [List.map_toArray, List.map_cons, List.map_nil]); first | done | rfl | (simp only [List.length_drop, List.length_take]; rfl)) ?_; (with_reducible refine (pools_Right.calls k _ _ l0 true _ ?side1 ?side2 A6.out).mono ?_); (case side1 => repeat (first | exact (Kd.C_below HR0.out HB.out) | (with_reducible refine Kd.C_alloc ?_ _) | (with_reducible refine Kd.C_drewN ?_ _) | (with_reducible refine Kd.C_drew ?_))); (case side2 => exact HC0.out); rintro e w8 ⟨rfl, hb⟩; refine ⟨_, rfl, ?_⟩; have n0_ := Aside0.mk (below_step (by repeat (first | (with_reducible first | exact HB.out | apply below_alloc | apply pw_below_drewN | apply below_drew1) | exact HB.out)) hb); clear HB; have HB := n0_; clear n0_; (try clear hb); (try clear hb2); (try clear hk); (try clear hi)))
   go_meet
   case rel => exact ⟨_, (((l3.length : Int) != (l0.length : Int))), (by first | rfl | (simp; done) | (simp [*]; done)), H', ⟨by first | omega | exact Nat.le_refl _⟩, ⟨by repeat (first | (with_reducible first | exact HB.out | apply below_alloc | apply pw_below_drewN | apply below_drew1) | exact HB.out)⟩⟩
  ·replace c7 := Bool.eq_false_iff.mpr c7
   subst c7
   have H1 : (pools_First.j0 k l0 a1 a2 l3 true) = some (r1, r2) := by rw [if_neg (show ¬ (false = true) by decide)] at H; exact H
   clear H
   have H := H1
   clear H1
   have H' := Aside0.mk H
   clear H
   go_wp2_with (first | ((with_reducible refine gate_callee (f := 36) rfl ?_); refine goesL_ (some 17) rfl rfl Try.func36 (by kernel_rfl) rfl #[.slice A0 l0.length c0] rfl (by (try simp only [List.map_toArray, List.map_cons, List.map_nil]); first | done | rfl | (simp only [List.length_drop, List.length_take]; rfl)) ?_; (with_reducible refine (pools_Right.calls k _ _ l0 false _ ?side1 ?side2 A6.out).mono ?_); (case side1 => repeat (first | exact (Kd.C_below HR0.out HB.out) | (with_reducible refine Kd.C_alloc ?_ _) | (with_reducible refine Kd.C_drewN ?_ _) | (with_reducible refine Kd.C_drew ?_))); (case side2 => exact HC0.out); rintro e w9 ⟨rfl, hb⟩; refine ⟨_, rfl, ?_⟩; have n0_ := Aside0.mk (below_step (by repeat (first | (with_reducible first | exact HB.out | apply below_alloc | apply pw_below_drewN | apply below_drew1) | exact HB.out)) hb); clear HB; have HB := n0_; clear n0_; (try clear hb); (try clear hb2); (try clear hk); (try clear hi)))
   go_meet
   case rel => exact ⟨_, (true), (by first | rfl | (simp; done) | (simp [*]; done)), H', ⟨by first | omega | exact Nat.le_refl _⟩, ⟨by repeat (first | (with_reducible first | exact HB.out | apply below_alloc | apply pw_below_drewN | apply below_drew1) | exact HB.out)⟩⟩
 case rest =>
  clear HC5
  try clear p2
  try clear c3
  try clear c4
  try clear c7
  obtain ⟨kq, x25_4, rfl, HA, HJ4, HB⟩ := hcut
  cases kq with
  | zero => exact absurd HA.out (by simp [pools_First.j0])
  | succ kj4 =>
   have H := HA.out
   clear HA
   simp only [pools_First.j0] at H
   by_cases c10 : x25_4 = true
   ·subst c10
    have H1 : (some (0, false)) = some (r1, r2) := by rw [if_pos rfl] at H; exact H
    clear H
    have H := H1
    clear H1
    simp only [Option.some.injEq, Prod.mk.injEq] at H
    obtain ⟨rfl, rfl⟩ := H
    go_wp2
    go_ret2
    exact ⟨by first | rfl | (simp [errW_none, errW_some] <;> rfl) | (simp [*, errW_none, errW_some] <;> rfl), by repeat (first | (with_reducible first | exact HB.out | apply below_alloc | apply pw_below_drewN | apply below_drew1) | exact HB.out)⟩
   ·replace c10 := Bool.eq_false_iff.mpr c10
    subst c10
    have H1 : (pools_First.l0 kj4 l0 a2 l3 a1) = some (r1, r2) := by rw [if_neg (show ¬ (false = true) by decide)] at H; exact H
    clear H
    have H := H1
    clear H1
    have H' := Aside0.mk H
    clear H
    go_wp2
    go_loopg [10] kj4 (fun kq v10 w' => ∃ (x10_2 : Int), v10 = .int .i64 x10_2 ∧ Aside0 (pools_First.l0 kq l0 a2 l3 x10_2 = some (r1, r2)) ∧ Aside0 (kq ≤ kj4) ∧ Aside0 (Below w.heap.size w w'))
    case atStart => exact ⟨(a1), (by first | rfl | (simp; done) | (simp [*]; done)), H', ⟨Nat.le_refl _⟩, ⟨by repeat (first | (with_reducible first | exact HB.out | apply below_alloc | apply pw_below_drewN | apply below_drew1) | exact HB.out)⟩⟩
    case round =>
     clear H'
     try clear c1
     try clear p2
     try clear c3
     try clear c4
     try clear c7
     try clear c10
     try clear p2
     obtain ⟨x10_2, rfl, HA, HK2, HB⟩ := hrel
     cases gk with
     | zero => exact absurd HA.out (by simp [pools_First.l0])
     | succ k2 =>
      have H := HA.out
      clear HA
      simp only [pools_First.l0] at H
      have H' := Aside0.mk H
      clear H
      go_wp2
      go_loopg [11, 30] k2 (fun kq v11 v30 w' => ∃ (x11_3 : Int) (x30_3 : Int), v11 = .int .i64 x11_3 ∧ v30 = .int .i64 x30_3 ∧ Aside0 (pools_First.l1 kq l0 a2 l3 x10_2 x11_3 l0 (l0.length : Int) x30_3 = some (r1, r2)) ∧ Aside0 (kq ≤ k2) ∧ Aside0 (Below w.heap.size w w'))
      case atStart => exact ⟨(x10_2), (0), (by first | rfl | (simp; done) | (simp [*]; done)), (by first | rfl | (simp; done) | (simp [*]; done)), H', ⟨Nat.le_refl _⟩, ⟨by repeat (first | (with_reducible first | exact HB.out | apply below_alloc | apply pw_below_drewN | apply below_drew1) | exact HB.out)⟩⟩
      case round =>
       clear H'
       try clear c1
       try clear p2
       try clear c3
       try clear c4
       try clear c7
       try clear c10
       try clear p2
       obtain ⟨x11_3, x30_3, rfl, rfl, HA, HK3, HB⟩ := hrel
       cases gk with
       | zero => exact absurd HA.out (by simp [pools_First.l1])
       | succ k3 =>
        have H := HA.out
        clear HA
        simp only [pools_First.l1] at H
        by_cases c11 : x30_3 < (l0.length : Int)
        ·rw [if_pos c11] at H
         have c11b0 : decide (x30_3 < (l0.length : Int)) = true := decide_eq_true c11
         clear c11
         by_cases c12 : 0 ≤ x30_3
         ·rw [if_pos c12] at H
          have c12b0 : decide (0 ≤ x30_3) = true := decide_eq_true c12
          clear c12
          by_cases c13 : x30_3 < (l0.length : Int)
          ·rw [if_pos c13] at H
           have c13b0 : decide (x30_3 < (l0.length : Int)) = true := decide_eq_true c13
           clear c13
           by_cases c14 : x30_3 < (l3.length : Int)
           ·rw [if_pos c14] at H
            have c14b0 : decide (x30_3 < (l3.length : Int)) = true := decide_eq_true c14
            clear c14
            replace H := Option.bind_eq_some_iff.mp H
            obtain ⟨⟨t387, t388⟩, A150, H⟩ := H
            replace H : (if t388 = true then (pools_First.l1 k3 l0 a2 l3 x10_2 (mx x11_3 t387) l0 (l0.length : Int) (wrap64 (x30_3 + 1))) else (some (0, false))) = some (r1, r2) := H
            have A15 := Aside0.mk A150
            clear A150
            by_cases c16 : t388 = true
            ·subst c16
             have H1 : (pools_First.l1 k3 l0 a2 l3 x10_2 (mx x11_3 t387) l0 (l0.length : Int) (wrap64 (x30_3 + 1))) = some (r1, r2) := by rw [if_pos rfl] at H; exact H
             clear H
             have H := H1
             clear H1
             obtain ⟨ji17, hji17⟩ : ∃ j_ : Int, (mx x11_3 t387) = j_ := ⟨_, rfl⟩
             replace H : (pools_First.l1 k3 l0 a2 l3 x10_2 ji17 l0 (l0.length : Int) (wrap64 (x30_3 + 1))) = some (r1, r2) := by first | (rw [hji17] at H; exact H) | (simp only [hji17] at H ⊢; exact H)
             (try rw [hji17] at A15)
             have hji17_ : (if x11_3 < t387 then t387 else x11_3) = ji17 := hji17
             have H' := Aside0.mk H
             clear H
             have p385 : 0 ≤ (x30_3 : Int) := of_decide_eq_true (by first | (with_reducible assumption) | assumption)
             have q385 : x30_3 < (l0.length : Int) := of_decide_eq_true (by first | (with_reducible assumption) | assumption)
             obtain ⟨ad385, A385_0, c385_0, e385, hx385_0, hl385_0, hi385_0⟩ := at_L2 HR0.out x30_3 p385 q385
             cases e385
             replace hx385_0 := (HB.out.cell (World.block_lt_of_cell? w _ hx385_0)).trans hx385_0
             have HR385_0 := Aside0.mk hi385_0
             have HC385_0 := Aside0.mk hl385_0
             clear hi385_0 hl385_0
             replace p385 := eq_true p385
             replace q385 := eq_true q385
             have p386 : 0 ≤ (x30_3 : Int) := of_decide_eq_true (by first | (with_reducible assumption) | assumption)
             have q386 : x30_3 < (l3.length : Int) := of_decide_eq_true (by first | (with_reducible assumption) | assumption)
             obtain ⟨ad386, e386, hx386_0⟩ := Kd.at_int HR3.out x30_3 p386 q386
             cases e386
             replace hx386_0 := (HB.out.cell (World.block_lt_of_cell? w _ hx386_0)).trans hx386_0
             replace p386 := eq_true p386
             replace q386 := eq_true q386
             go_wp2_with (first | ((with_reducible refine gate_callee (f := 15) rfl ?_); refine goesL_ (some 43) rfl rfl Try.func15 (by kernel_rfl) rfl #[.slice A385_0 (rd_L2 l0 x30_3).length c385_0, .int .i64 x10_2, .int .i64 a2, .int .i64 (rd l3 x30_3)] rfl (by (try simp only [List.map_toArray, List.map_cons, List.map_nil]); first | done | rfl | (simp only [List.length_drop, List.length_take]; rfl)) ?_; (with_reducible refine (step_First.calls k3 _ _ (rd_L2 l0 x30_3) x10_2 a2 (rd l3 x30_3) t387 true _ ?side1 ?side2 A15.out).mono ?_); (case side1 => repeat (first | exact (Kd.C_below HR385_0.out HB.out) | (with_reducible refine Kd.C_alloc ?_ _) | (with_reducible refine Kd.C_drewN ?_ _) | (with_reducible refine Kd.C_drew ?_))); (case side2 => exact HC385_0.out); rintro e w18 ⟨rfl, hb⟩; refine ⟨_, rfl, ?_⟩; have n0_ := Aside0.mk (below_step (by repeat (first | (with_reducible first | exact HB.out | apply below_alloc | apply pw_below_drewN | apply below_drew1) | exact HB.out)) hb); clear HB; have HB := n0_; clear n0_; (try clear hb); (try clear hb2); (try clear hk); (try clear hi)))
             go_roundg k3
             case measure => have := HJ4.out; have := HK2.out; have := HK3.out; omega
             case rel => exact ⟨(ji17), (wrap64 (x30_3 + 1)), (by first | rfl | (simp; done) | (simp only [← hji17] <;> (first | rfl | simp)) | (simp [*]; done)), (by first | rfl | (simp; done) | (simp [*]; done)), H', ⟨by have := HJ4.out; have := HK2.out; have := HK3.out; omega⟩, ⟨by repeat (first | (with_reducible first | exact HB.out | apply below_alloc | apply pw_below_drewN | apply below_drew1) | exact HB.out)⟩⟩
            ·replace c16 := Bool.eq_false_iff.mpr c16
             subst c16
             have H1 : (some (0, false)) = some (r1, r2) := by rw [if_neg (show ¬ (false = true) by decide)] at H; exact H
             clear H
             have H := H1
             clear H1
             simp only [Option.some.injEq, Prod.mk.injEq] at H
             obtain ⟨rfl, rfl⟩ := H
             have p385 : 0 ≤ (x30_3 : Int) := of_decide_eq_true (by first | (with_reducible assumption) | assumption)
             have q385 : x30_3 < (l0.length : Int) := of_decide_eq_true (by first | (with_reducible assumption) | assumption)
             obtain ⟨ad385, A385_0, c385_0, e385, hx385_0, hl385_0, hi385_0⟩ := at_L2 HR0.out x30_3 p385 q385
             cases e385
             replace hx385_0 := (HB.out.cell (World.block_lt_of_cell? w _ hx385_0)).trans hx385_0
             have HR385_0 := Aside0.mk hi385_0
             have HC385_0 := Aside0.mk hl385_0
             clear hi385_0 hl385_0
             replace p385 := eq_true p385
             replace q385 := eq_true q385
             have p386 : 0 ≤ (x30_3 : Int) := of_decide_eq_true (by first | (with_reducible assumption) | assumption)
             have q386 : x30_3 < (l3.length : Int) := of_decide_eq_true (by first | (with_reducible assumption) | assumption)
             obtain ⟨ad386, e386, hx386_0⟩ := Kd.at_int HR3.out x30_3 p386 q386
             cases e386
             replace hx386_0 := (HB.out.cell (World.block_lt_of_cell? w _ hx386_0)).trans hx386_0
             replace p386 := eq_true p386
             replace q386 := eq_true q386
             go_wp2_with (first | ((with_reducible refine gate_callee (f := 15) rfl ?_); refine goesL_ (some 43) rfl rfl Try.func15 (by kernel_rfl) rfl #[.slice A385_0 (rd_L2 l0 x30_3).length c385_0, .int .i64 x10_2, .int .i64 a2, .int .i64 (rd l3 x30_3)] rfl (by (try simp only [List.map_toArray, List.map_cons, List.map_nil]); first | done | rfl | (simp only [List.length_drop, List.length_take]; rfl)) ?_; (with_reducible refine (step_First.calls k3 _ _ (rd_L2 l0 x30_3) x10_2 a2 (rd l3 x30_3) t387 false _ ?side1 ?side2 A15.out).mono ?_); (case side1 => repeat (first | exact (Kd.C_below HR385_0.out HB.out) | (with_reducible refine Kd.C_alloc ?_ _) | (with_reducible refine Kd.C_drewN ?_ _) | (with_reducible refine Kd.C_drew ?_))); (case side2 => exact HC385_0.out); rintro e w19 ⟨rfl, hb⟩; refine ⟨_, rfl, ?_⟩; have n0_ := Aside0.mk (below_step (by repeat (first | (with_reducible first | exact HB.out | apply below_alloc | apply pw_below_drewN | apply below_drew1) | exact HB.out)) hb); clear HB; have HB := n0_; clear n0_; (try clear hb); (try clear hb2); (try clear hk); (try clear hi)))
             go_ret2
             exact ⟨by first | rfl | (simp [errW_none, errW_some] <;> rfl) | (simp [*, errW_none, errW_some] <;> rfl), by repeat (first | (with_reducible first | exact HB.out | apply below_alloc | apply pw_below_drewN | apply below_drew1) | exact HB.out)⟩
           ·rw [if_neg c14] at H
            exact absurd H (by simp)
          ·rw [if_neg c13] at H
           exact absurd H (by simp)
         ·rw [if_neg c12] at H
          exact absurd H (by simp)
        ·rw [if_neg c11] at H
         have c11b0 : decide (x30_3 < (l0.length : Int)) = false := decide_eq_false c11
         clear c11
         by_cases c20 : x11_3 = x10_2
         ·rw [if_pos c20] at H
          have c20b0 : (x11_3 == x10_2) = true := beq_iff_eq.mpr c20
          have c20b1 : (x11_3 != x10_2) = false := bne_eq_false_iff_eq.mpr c20
          clear c20
          simp only [Option.some.injEq, Prod.mk.injEq] at H
          obtain ⟨rfl, rfl⟩ := H
          go_wp2
          go_ret2
          exact ⟨by first | rfl | (simp [errW_none, errW_some] <;> rfl) | (simp [*, errW_none, errW_some] <;> rfl), by repeat (first | (with_reducible first | exact HB.out | apply below_alloc | apply pw_below_drewN | apply below_drew1) | exact HB.out)⟩
         ·rw [if_neg c20] at H
          have c20b0 : (x11_3 == x10_2) = false := beq_eq_false_iff_ne.mpr c20
          have c20b1 : (x11_3 != x10_2) = true := bne_iff_ne.mpr c20
          have H' := Aside0.mk H
          clear H
          go_wp2
          go_roundg k3
          case measure => have := HJ4.out; have := HK2.out; have := HK3.out; omega
          case rel => exact ⟨(x11_3), (by first | rfl | (simp; done) | (simp [*]; done)), H', ⟨by have := HJ4.out; have := HK2.out; have := HK3.out; omega⟩, ⟨by repeat (first | (with_reducible first | exact HB.out | apply below_alloc | apply pw_below_drewN | apply below_drew1) | exact HB.out)⟩⟩

end Go.Proofs.Ytimllhflecippaa.F
end

section
namespace Go.Proofs.Ytimllhflecippaa.F
open Go.RowKit Go.Proofs.YtimllhflecippaaW.PrintWords Go.Proofs.YtimllhflecippaaW.PrintLast Go.Proofs.YtimllhflecippaaW.PrintMore
attribute [local go_sem] max2_int min2_int max_two min_two
set_option linter.unusedVariables false
set_option linter.unusedSimpArgs false

theorem eqA45 (d : Nat) (w : World) (x0 y0 : Int) (x1 y1 : Int) :
  (Op.equalIn (d + 2) 45 (.agg #[.int .i64 x0, .int .i64 x1]) (.agg #[.int .i64 y0, .int .i64 y1])).run Try.prog w = .ok (x0 == y0 && (x1 == y1)) w := by
 refine eqA_of Try.underlying45 (by kernel_rfl) ?_
 refine eqf_cons (by rfl) (by go_simp; rfl) (by go_simp; rfl) (by go_simp) ?_
 exact eqf_last (by rfl) (by go_simp; rfl) (by go_simp; rfl) (by go_simp)
end Go.Proofs.Ytimllhflecippaa.F
end

section
namespace Go.Proofs.Ytimllhflecippaa.F
open Go.RowKit Go.Proofs.YtimllhflecippaaW.PrintWords Go.Proofs.YtimllhflecippaaW.PrintLast Go.Proofs.YtimllhflecippaaW.PrintMore
attribute [local go_sem] max2_int min2_int max_two min_two
set_option linter.unusedVariables false
set_option linter.unusedSimpArgs false

attribute [local go_sem high] eqA45
def bailiwickref03_Same.l0 : Nat → List (S45) → List (S45) → Int → Option (Bool)
 | 0, _, _, _ => none
 | k + 1, x0, x1, x5 => if x5 < (x0.length : Int) then (if 0 ≤ x5 then (if x5 < (x1.length : Int) then (if (!(((rd_T45 x0 x5).f0) == ((rd_T45 x1 x5).f0)) || (!(((rd_T45 x0 x5).f1) == ((rd_T45 x1 x5).f1)))) = true then (some false) else (bailiwickref03_Same.l0 k x0 x1 (wrap64 (x5 + 1)))) else (none)) else (none)) else (some true)
def bailiwickref03_Same.f (k : Nat) (l0 : List (S45)) (l1 : List (S45)) : Option (Bool) := if (l0.length : Int) = (l1.length : Int) then (bailiwickref03_Same.l0 k l0 l1 0) else (some false)
set_option maxHeartbeats 8000000 in
set_option maxRecDepth 100000 in
theorem bailiwickref03_Same.calls (k : Nat) (A0 : Option Addr) (c0 : Nat) (l0 : List (S45)) (A1 : Option Addr) (c1 : Nat) (l1 : List (S45)) (r : Bool) (w : World) (hr0 : Kd.C k45 w A0 l0.length l0) (hc0 : l0.length ≤ c0) (hr1 : Kd.C k45 w A1 l1.length l1) (hc1 : l1.length ≤ c1) (h : bailiwickref03_Same.f k l0 l1 = some r) :
  Calls Try.prog 22 #[.slice A0 l0.length c0, .slice A1 l1.length c1] w fun e w' => e = .returned (.bool r) ∧ Drawn0 w w' := by
 have hu45 := Try.underlying45
 have HR0 := Aside0.mk hr0
 have HC0 := Aside0.mk hc0
 clear hr0 hc0
 have HR1 := Aside0.mk hr1
 have HC1 := Aside0.mk hc1
 clear hr1 hc1
 have H : (if (l0.length : Int) = (l1.length : Int) then (bailiwickref03_Same.l0 k l0 l1 0) else (some false)) = some r := h
 clear h
 by_cases c3 : (l0.length : Int) = (l1.length : Int)
 ·rw [if_pos c3] at H
  have c3b0 : ((l0.length : Int) == (l1.length : Int)) = true := beq_iff_eq.mpr c3
  have c3b1 : ((l0.length : Int) != (l1.length : Int)) = false := bne_eq_false_iff_eq.mpr c3
  have c3b2 : (l0.length == l1.length) = true := by first | simpa using c3 | (simp at c3 ⊢; omega)
  clear c3
  have H' := Aside0.mk H
  clear H
  go_enter Try.func22, Try.ntmps22
  go_wp2
  repeat (go_quiet (fail); try go_wp2)
  go_loopg [5] k (fun kq v5 w' => ∃ (x5_1 : Int), v5 = .int .i64 x5_1 ∧ Aside0 (bailiwickref03_Same.l0 kq l0 l1 x5_1 = some r) ∧ Aside0 (kq ≤ k) ∧ Drawn0 w w')
  case atStart => exact ⟨(0), (by first | rfl | (simp; done) | (simp [*]; done)), H', ⟨Nat.le_refl _⟩, by repeat (first | exact Drawn0.refl _ | apply Drawn0.step)⟩
  case round =>
   clear H'
   try clear c1
   try clear c2
   try clear p2
   try clear c3
   try clear c3b0
   try clear c3b1
   try clear c3b2
   obtain ⟨x5_1, rfl, HA, HK1, ⟨m1, rfl⟩⟩ := hrel
   cases gk with
   | zero => exact absurd HA.out (by simp [bailiwickref03_Same.l0])
   | succ k1 =>
    have H := HA.out
    clear HA
    simp only [bailiwickref03_Same.l0] at H
    by_cases c4 : x5_1 < (l0.length : Int)
    ·rw [if_pos c4] at H
     have c4b0 : decide (x5_1 < (l0.length : Int)) = true := decide_eq_true c4
     clear c4
     by_cases c5 : 0 ≤ x5_1
     ·rw [if_pos c5] at H
      have c5b0 : decide (0 ≤ x5_1) = true := decide_eq_true c5
      clear c5
      by_cases c6 : x5_1 < (l1.length : Int)
      ·rw [if_pos c6] at H
       have c6b0 : decide (x5_1 < (l1.length : Int)) = true := decide_eq_true c6
       clear c6
       by_cases c7 : (!(((rd_T45 l0 x5_1).f0) == ((rd_T45 l1 x5_1).f0)) || (!(((rd_T45 l0 x5_1).f1) == ((rd_T45 l1 x5_1).f1)))) = true
       ·rw [if_pos c7] at H
        have c7b0 : (!(((rd_T45 l0 x5_1).f0) == ((rd_T45 l1 x5_1).f0)) || (!(((rd_T45 l0 x5_1).f1) == ((rd_T45 l1 x5_1).f1)))) = true := c7
        clear c7
        obtain rfl := Option.some.inj H
        have p180 : 0 ≤ (x5_1 : Int) := of_decide_eq_true (by first | (with_reducible assumption) | assumption)
        have q180 : x5_1 < (l0.length : Int) := of_decide_eq_true (by first | (with_reducible assumption) | assumption)
        obtain ⟨ad180, e180, hx180_0, hx180_1⟩ := at_T45 HR0.out x5_1 p180 q180
        cases e180
        replace p180 := eq_true p180
        replace q180 := eq_true q180
        have p181 : 0 ≤ (x5_1 : Int) := of_decide_eq_true (by first | (with_reducible assumption) | assumption)
        have q181 : x5_1 < (l1.length : Int) := of_decide_eq_true (by first | (with_reducible assumption) | assumption)
        obtain ⟨ad181, e181, hx181_0, hx181_1⟩ := at_T45 HR1.out x5_1 p181 q181
        cases e181
        replace p181 := eq_true p181
        replace q181 := eq_true q181
        go_wp2
        repeat (go_quiet (fail); try go_wp2)
        go_ret
        exact ⟨by first | rfl | (simp; done) | (simp [*]; done), by repeat (first | exact Drawn0.refl _ | apply Drawn0.step)⟩
       ·rw [if_neg c7] at H
        have c7b0 : (!(((rd_T45 l0 x5_1).f0) == ((rd_T45 l1 x5_1).f0)) || (!(((rd_T45 l0 x5_1).f1) == ((rd_T45 l1 x5_1).f1)))) = false := by simpa using c7
        clear c7
        have H' := Aside0.mk H
        clear H
        have p180 : 0 ≤ (x5_1 : Int) := of_decide_eq_true (by first | (with_reducible assumption) | assumption)
        have q180 : x5_1 < (l0.length : Int) := of_decide_eq_true (by first | (with_reducible assumption) | assumption)
        obtain ⟨ad180, e180, hx180_0, hx180_1⟩ := at_T45 HR0.out x5_1 p180 q180
        cases e180
        replace p180 := eq_true p180
        replace q180 := eq_true q180
        have p181 : 0 ≤ (x5_1 : Int) := of_decide_eq_true (by first | (with_reducible assumption) | assumption)
        have q181 : x5_1 < (l1.length : Int) := of_decide_eq_true (by first | (with_reducible assumption) | assumption)
        obtain ⟨ad181, e181, hx181_0, hx181_1⟩ := at_T45 HR1.out x5_1 p181 q181
        cases e181
        replace p181 := eq_true p181
        replace q181 := eq_true q181
        go_wp2
        repeat (go_quiet (fail); try go_wp2)
        go_roundg k1
        case measure => have := HK1.out; omega
        case rel => exact ⟨(wrap64 (x5_1 + 1)), (by first | rfl | (simp; done) | (simp [*]; done)), H', ⟨by have := HK1.out; omega⟩, by repeat (first | exact Drawn0.refl _ | apply Drawn0.step)⟩
      ·rw [if_neg c6] at H
       exact absurd H (by simp)
     ·rw [if_neg c5] at H
      exact absurd H (by simp)
    ·rw [if_neg c4] at H
     have c4b0 : decide (x5_1 < (l0.length : Int)) = false := decide_eq_false c4
     clear c4
     obtain rfl := Option.some.inj H
     go_wp2
     repeat (go_quiet (fail); try go_wp2)
     go_ret
     exact ⟨by first | rfl | (simp; done) | (simp [*]; done), by repeat (first | exact Drawn0.refl _ | apply Drawn0.step)⟩
 ·rw [if_neg c3] at H
  have c3b0 : ((l0.length : Int) == (l1.length : Int)) = false := beq_eq_false_iff_ne.mpr c3
  have c3b1 : ((l0.length : Int) != (l1.length : Int)) = true := bne_iff_ne.mpr c3
  have c3b2 : (l0.length == l1.length) = false := by first | simpa using c3 | (simp at c3 ⊢; omega)
  obtain rfl := Option.some.inj H
  go_enter Try.func22, Try.ntmps22
  go_wp2
  repeat (go_quiet (fail); try go_wp2)
  go_ret
  exact ⟨by first | rfl | (simp; done) | (simp [*]; done), by repeat (first | exact Drawn0.refl _ | apply Drawn0.step)⟩

end Go.Proofs.Ytimllhflecippaa.F
end

section
namespace Go.Proofs.Ytimllhflecippaa.F
open Go.RowKit Go.Proofs.YtimllhflecippaaW.PrintWords Go.Proofs.YtimllhflecippaaW.PrintLast Go.Proofs.YtimllhflecippaaW.PrintMore
attribute [local go_sem] max2_int min2_int max_two min_two
set_option linter.unusedVariables false
set_option linter.unusedSimpArgs false

mutual
def pools_New.j0 : Nat → List Int → Bool → Option ((List (List (S45))) × Int)
 | 0, _, _ => none
 | k + 1, x0, x16 => if x16 = true then (some (([] : List (List (S45))), 1)) else (pools_New.l0 k ([] : List (List (S45))) x0 (x0.length : Int) 0)
def pools_New.l0 : Nat → List (List (S45)) → List Int → Int → Int → Option ((List (List (S45))) × Int)
 | 0, _, _, _, _ => none
 | k + 1, x4, x17, x18, x19 => if x19 < x18 then (if 0 ≤ x19 then (if x19 < (x17.length : Int) then ((step_New.f (rd x17 x19)).bind fun bt364 => (if bt364.2 = 0 then (if x4.length < 5864062014805 then (pools_New.l0 k (x4 ++ [bt364.1]) x17 x18 (wrap64 (x19 + 1))) else (none)) else (some (([] : List (List (S45))), bt364.2)))) else (none)) else (none)) else (some (x4, 0))
end
def pools_New.f (k : Nat) (l0 : List Int) : Option ((List (List (S45))) × Int) := if (l0.length : Int) < 1 then (pools_New.j0 k l0 true) else (pools_New.j0 k l0 (decide ((l0.length : Int) > 4)))
theorem pools_New.mono_l : ∀ k, (∀ y0 y1, LeO (pools_New.j0 k y0 y1) (pools_New.j0 (k + 1) y0 y1)) ∧ (∀ y0 y1 y2 y3, LeO (pools_New.l0 k y0 y1 y2 y3) (pools_New.l0 (k + 1) y0 y1 y2 y3))
 | 0 => ⟨fun _ _ r h => by simp [pools_New.j0] at h, fun _ _ _ _ r h => by simp [pools_New.l0] at h⟩
 | k + 1 => by
  obtain ⟨ih0, ih1⟩ := pools_New.mono_l k
  refine ⟨?_, ?_⟩
  ·intro y0 y1
   unfold pools_New.j0
   repeat' first
   | (with_reducible exact ih0 _ _)
   | (with_reducible exact ih1 _ _ _ _)
   | (with_reducible exact LeO.refl _)
   | (with_reducible exact LeO.none _)
   | (with_reducible refine LeO.ite ?_ ?_)
   | (with_reducible refine LeO.bind ?_ (fun _ => ?_))
   | exact ih0 _ _
   | exact ih1 _ _ _ _
   | exact LeO.none _
   | refine LeO.ite ?_ ?_
   | refine LeO.bind ?_ (fun _ => ?_)
  ·intro y0 y1 y2 y3
   unfold pools_New.l0
   repeat' first
   | (with_reducible exact ih0 _ _)
   | (with_reducible exact ih1 _ _ _ _)
   | (with_reducible exact LeO.refl _)
   | (with_reducible exact LeO.none _)
   | (with_reducible refine LeO.ite ?_ ?_)
   | (with_reducible refine LeO.bind ?_ (fun _ => ?_))
   | exact ih0 _ _
   | exact ih1 _ _ _ _
   | exact LeO.none _
   | refine LeO.ite ?_ ?_
   | refine LeO.bind ?_ (fun _ => ?_)
theorem pools_New.mono : ∀ a0 k, LeO (pools_New.f k a0) (pools_New.f (k + 1) a0) := by
 intro a0 k
 obtain ⟨ih0, ih1⟩ := pools_New.mono_l k
 unfold pools_New.f
 repeat' first
   | (with_reducible exact ih0 _ _)
   | (with_reducible exact ih1 _ _ _ _)
   | (with_reducible exact LeO.refl _)
   | (with_reducible exact LeO.none _)
   | (with_reducible refine LeO.ite ?_ ?_)
   | (with_reducible refine LeO.bind ?_ (fun _ => ?_))
   | exact ih0 _ _
   | exact ih1 _ _ _ _
   | exact LeO.none _
   | refine LeO.ite ?_ ?_
   | refine LeO.bind ?_ (fun _ => ?_)
set_option maxHeartbeats 8000000 in
set_option maxRecDepth 100000 in
theorem pools_New.calls (k : Nat) (A0 : Option Addr) (c0 : Nat) (l0 : List Int) (r1 : List (List (S45))) (r2 : Int) (w : World) (hr0 : Kd.C (Kd.int .i64) w A0 l0.length l0) (hc0 : l0.length ≤ c0) (h : pools_New.f k l0 = some (r1, r2)) :
  Calls Try.prog 35 #[.slice A0 l0.length c0] w fun e w' => ∃ v0_ : Value, e = .returned (.tuple #[v0_, .int .i64 r2]) ∧ Kd.S (Kd.slice 45 k45) 22 w' w.heap.size (fun _ => True) v0_ r1 ∧ Below w.heap.size w w' := by
 have HR0 := Aside0.mk hr0
 have HC0 := Aside0.mk hc0
 clear hr0 hc0
 have HB := Aside0.mk (Below.refl w.heap.size w)
 have H : (if (l0.length : Int) < 1 then (pools_New.j0 k l0 true) else (pools_New.j0 k l0 (decide ((l0.length : Int) > 4)))) = some (r1, r2) := h
 clear h
 have HC2 := Aside0.mk H
 clear H
 go_enter Try.func35, Try.ntmps35
 go_upto_region 1 with (fail)
 go_cut [16] (fun v16 wc => ∃ (kq : Nat) (x16_1 : Bool), v16 = .bool x16_1 ∧ Aside0 (pools_New.j0 kq l0 x16_1 = some (r1, r2)) ∧ Aside0 (kq ≤ k) ∧ Aside0 (Below w.heap.size w wc))
 case first =>
  have H := HC2.out
  clear HC2
  by_cases c3 : (l0.length : Int) < 1
  ·rw [if_pos c3] at H
   have c3b0 : decide ((l0.length : Int) < 1) = true := decide_eq_true c3
   have c3b1 : decide (l0.length < 1) = true := decide_eq_true (by omega)
   clear c3
   (first | rw [c3b0] | (simp only [i64_w, i32_w]; rw [c3b0]) | skip)
   have H' := Aside0.mk H
   clear H
   go_wp2
   go_meet
   case rel => exact ⟨_, (true), (by first | rfl | (simp; done) | (simp [*]; done)), H', ⟨by first | omega | exact Nat.le_refl _⟩, ⟨by repeat (first | (with_reducible first | exact HB.out | apply below_alloc | apply pw_below_drewN | apply below_drew1) | exact HB.out)⟩⟩
  ·rw [if_neg c3] at H
   have c3b0 : decide ((l0.length : Int) < 1) = false := decide_eq_false c3
   have c3b1 : decide (l0.length < 1) = false := decide_eq_false (by omega)
   clear c3
   (first | rw [c3b0] | (simp only [i64_w, i32_w]; rw [c3b0]) | skip)
   have H' := Aside0.mk H
   clear H
   go_wp2
   go_meet
   case rel => exact ⟨_, (decide ((l0.length : Int) > 4)), (by first | rfl | (simp; done) | (simp [*]; done)), H', ⟨by first | omega | exact Nat.le_refl _⟩, ⟨by repeat (first | (with_reducible first | exact HB.out | apply below_alloc | apply pw_below_drewN | apply below_drew1) | exact HB.out)⟩⟩
 case rest =>
  clear HC2
  try clear p2
  try clear c3
  try clear c3b0
  try clear c3b1
  obtain ⟨kq, x16_1, rfl, HA, HJ1, HB⟩ := hcut
  cases kq with
  | zero => exact absurd HA.out (by simp [pools_New.j0])
  | succ kj1 =>
   have H := HA.out
   clear HA
   simp only [pools_New.j0] at H
   by_cases c4 : x16_1 = true
   ·subst c4
    have H1 : (some (([] : List (List (S45))), 1)) = some (r1, r2) := by rw [if_pos rfl] at H; exact H
    clear H
    have H := H1
    clear H1
    simp only [Option.some.injEq, Prod.mk.injEq] at H
    obtain ⟨rfl, rfl⟩ := H
    go_wp2
    go_ret2
    exact ⟨_, by first | rfl | (simp [errW_none, errW_some] <;> rfl) | (simp [*, errW_none, errW_some] <;> rfl), by first | exact Kd.S_nil _ _ _ _ _ | exact Kd.N_nil _ _ _ _ _ | exact Kd.V_nil _ _ _ _ _ | exact Kd.Q_nil _ _ _ _ _ | exact Kd.R_nil _ _ _ _ _, by repeat (first | (with_reducible first | exact HB.out | apply below_alloc | apply pw_below_drewN | apply below_drew1) | exact HB.out)⟩
   ·replace c4 := Bool.eq_false_iff.mpr c4
    subst c4
    have H1 : (pools_New.l0 kj1 ([] : List (List (S45))) l0 (l0.length : Int) 0) = some (r1, r2) := by rw [if_neg (show ¬ (false = true) by decide)] at H; exact H
    clear H
    have H := H1
    clear H1
    have H' := Aside0.mk H
    clear H
    go_wp2
    go_loopg [4, 19] kj1 (fun kq v4 v19 w' => ∃ (x4_2 : List (List (S45))) (x19_2 : Int), v19 = .int .i64 x19_2 ∧ Aside0 (pools_New.l0 kq x4_2 l0 (l0.length : Int) x19_2 = some (r1, r2)) ∧ Aside0 (kq ≤ kj1) ∧ Aside0 (Kd.S (Kd.slice 45 k45) 22 w' w.heap.size (fun _ => True) v4 x4_2) ∧ Aside0 (Below w.heap.size w w'))
    case atStart => exact ⟨(([] : List (List (S45)))), (0), (by first | rfl | (simp; done) | (simp [*]; done)), H', ⟨Nat.le_refl _⟩, ⟨by first | exact Kd.S_nil _ _ _ _ _ | exact Kd.N_nil _ _ _ _ _ | exact Kd.V_nil _ _ _ _ _ | exact Kd.Q_nil _ _ _ _ _ | exact Kd.R_nil _ _ _ _ _⟩, ⟨by repeat (first | (with_reducible first | exact HB.out | apply below_alloc | apply pw_below_drewN | apply below_drew1) | exact HB.out)⟩⟩
    case round =>
     clear H'
     try clear p2
     try clear c3
     try clear c3b0
     try clear c3b1
     try clear c4
     try clear p2
     obtain ⟨x4_2, x19_2, rfl, HA, HK2, HO_4, HB⟩ := hrel
     cases gk with
     | zero => exact absurd HA.out (by simp [pools_New.l0])
     | succ k2 =>
      have H := HA.out
      clear HA
      simp only [pools_New.l0] at H
      by_cases c5 : x19_2 < (l0.length : Int)
      ·rw [if_pos c5] at H
       have c5b0 : decide (x19_2 < (l0.length : Int)) = true := decide_eq_true c5
       clear c5
       by_cases c6 : 0 ≤ x19_2
       ·rw [if_pos c6] at H
        have c6b0 : decide (0 ≤ x19_2) = true := decide_eq_true c6
        clear c6
        by_cases c7 : x19_2 < (l0.length : Int)
        ·rw [if_pos c7] at H
         have c7b0 : decide (x19_2 < (l0.length : Int)) = true := decide_eq_true c7
         clear c7
         replace H := Option.bind_eq_some_iff.mp H
         obtain ⟨⟨t364, t365⟩, A80, H⟩ := H
         replace H : (if t365 = 0 then (if x4_2.length < 5864062014805 then (pools_New.l0 k2 (x4_2 ++ [t364]) l0 (l0.length : Int) (wrap64 (x19_2 + 1))) else (none)) else (some (([] : List (List (S45))), t365))) = some (r1, r2) := H
         have A8 := Aside0.mk A80
         clear A80
         by_cases c9 : t365 = 0
         ·rw [if_pos c9] at H
          have c9b0 : (t365 == 0) = true := beq_iff_eq.mpr c9
          have c9b1 : (t365 != 0) = false := bne_eq_false_iff_eq.mpr c9
          clear c9
          by_cases c10 : x4_2.length < 5864062014805
          ·rw [if_pos c10] at H
           have LMc10 := Aside0.mk c10
           clear c10
           obtain ⟨y368, hy368⟩ : ∃ y_ : List (List (S45)), y_ = (x4_2 ++ [t364]) := ⟨_, rfl⟩
           replace H : (pools_New.l0 k2 y368 l0 (l0.length : Int) (wrap64 (x19_2 + 1))) = some (r1, r2) := by first | (rw [hy368]; with_reducible exact H) | (have H2_ := (Option.bind_some _ _).symm.trans H; rw [hy368]; with_reducible exact H2_) | (have H2_ := (Option.bind_some _ _).symm.trans H; with_reducible exact H2_) | with_reducible exact H | (rw [hy368]; exact H) | exact H
           have Ny368 := Aside0.mk hy368
           clear hy368
           have H' := Aside0.mk H
           clear H
           have p363 : 0 ≤ (x19_2 : Int) := of_decide_eq_true (by first | (with_reducible assumption) | assumption)
           have q363 : x19_2 < (l0.length : Int) := of_decide_eq_true (by first | (with_reducible assumption) | assumption)
           obtain ⟨ad363, e363, hx363_0⟩ := Kd.at_int HR0.out x19_2 p363 q363
           cases e363
           replace hx363_0 := (HB.out.cell (World.block_lt_of_cell? w _ hx363_0)).trans hx363_0
           replace p363 := eq_true p363
           replace q363 := eq_true q363
           go_wp2_with (first | ((with_reducible refine gate_callee (f := 29) rfl ?_); refine goesL_ (some 25) rfl rfl Try.func29 (by kernel_rfl) rfl #[.int .i64 (rd l0 x19_2)] rfl (by (try simp only [List.map_toArray, List.map_cons, List.map_nil]); first | done | rfl | (simp only [List.length_drop, List.length_take]; rfl)) ?_; (with_reducible refine (step_New.calls (rd l0 x19_2) t364 t365 _ A8.out).mono ?_); rintro e w11 ⟨v366, rfl, ho0, hb⟩; refine ⟨_, rfl, ?_⟩; have n0_ := Aside0.mk (Kd.S_elder' (by (with_reducible repeat (first | apply Kd.S_alloc | apply Kd.S_drewN | apply Kd.S_drew)); exact HO_4.out) (Kd.R_base ho0) hb); have n1_ := Aside0.mk (Kd.R_lower ho0 (below_size (by repeat (first | (with_reducible first | exact HB.out | apply below_alloc | apply pw_below_drewN | apply below_drew1) | exact HB.out)))); have n2_ := Aside0.mk (below_step (by repeat (first | (with_reducible first | exact HB.out | apply below_alloc | apply pw_below_drewN | apply below_drew1) | exact HB.out)) hb); clear HO_4; clear HB; have HO_4 := n0_; have HO367 := n1_; have HB := n2_; clear n0_ n1_ n2_; (try clear hb); (try clear hb2); (try clear hk); (try clear hi); (try clear ho0); obtain ⟨Ao13, co13, eo13⟩ := Kd.R_slice HO367.out; subst eo13) | ((with_reducible refine gate_builtin (b := .append) (xs := #[.tmp 31, .tmp 33]) rfl ?_); (try (refine gate_guard (by rfl) ?_; dsimp only)); at_builtin; refine Kd.S_append (Kd.slice 45 k45) (w0 := w) w.heap.size rfl (.tmp 31) (.tmp 33) 49 22 (.slice none 0 0) 24 rfl Try.underlying49 info22 rfl (by decide) (by omega) u4 x4_2 t364 [.slice Ao13 t364.length co13] (fun _ => True) (fun k_ => some k_ = (.slice Ao13 t364.length co13 : Value).ownBlock) rfl rfl ?aP (fun k_ hk_ => ((Kd.R_mono (ok' := fun k_ => ((fun _ => True)) k_ ∧ some k_ ≠ (u4 : Value).ownBlock) (Kd.R_apart' (HO367.out) (Kd.S_typed HO_4.out) (by decide)) (fun k_ hk => ⟨trivial, hk.2⟩))).1 k_ hk_.symm) ?aF ?aO ?aB ?aS ?aL ?_; (case aP => exact Kd.M_row (Kd.R_mono (Kd.R_tight rfl (Kd.R_mono (ok' := fun k_ => ((fun _ => True)) k_ ∧ some k_ ≠ (u4 : Value).ownBlock) (Kd.R_apart' (HO367.out) (Kd.S_typed HO_4.out) (by decide)) (fun k_ hk => ⟨trivial, hk.2⟩))) (fun _ h_ => h_))); (case aB => exact (by repeat (first | (with_reducible first | exact HB.out | apply below_alloc | apply pw_below_drewN | apply below_drew1) | exact HB.out))); (case aF => exact (fun _ _ => trivial)); (case aO => exact (by (with_reducible repeat (first | apply Kd.S_alloc | apply Kd.S_drewN | apply Kd.S_drew)); exact Kd.S_mono HO_4.out (fun k_ hk => ⟨trivial, fun e_ => hk.2 e_⟩))); (case aS => exact (below_size (by repeat (first | (with_reducible first | exact HB.out | apply below_alloc | apply pw_below_drewN | apply below_drew1) | exact HB.out)))); (case aL => have := LMc10.out; omega); intro v369 w12 ho hb hg hat; rw [← Ny368.out] at ho; have n0_ := Aside0.mk (hb); have n1_ := Aside0.mk (ho); clear HB; clear HO_4; clear HO367; have HB := n0_; have HO370 := n1_; clear n0_ n1_; clear ho hb hg hat))
           go_roundg k2
           case measure => have := HJ1.out; have := HK2.out; omega
           case rel => exact ⟨(y368), (wrap64 (x19_2 + 1)), (by first | rfl | (simp; done) | (simp [*]; done)), H', ⟨by have := HJ1.out; have := HK2.out; omega⟩, ⟨by (with_reducible repeat (first | apply Kd.S_alloc | apply Kd.S_drewN | apply Kd.S_drew)); exact HO370.out⟩, ⟨by repeat (first | (with_reducible first | exact HB.out | apply below_alloc | apply pw_below_drewN | apply below_drew1) | exact HB.out)⟩⟩
          ·rw [if_neg c10] at H
           exact absurd H (by simp)
         ·rw [if_neg c9] at H
          have c9b0 : (t365 == 0) = false := beq_eq_false_iff_ne.mpr c9
          have c9b1 : (t365 != 0) = true := bne_iff_ne.mpr c9
          simp only [Option.some.injEq, Prod.mk.injEq] at H
          obtain ⟨rfl, rfl⟩ := H
          have p363 : 0 ≤ (x19_2 : Int) := of_decide_eq_true (by first | (with_reducible assumption) | assumption)
          have q363 : x19_2 < (l0.length : Int) := of_decide_eq_true (by first | (with_reducible assumption) | assumption)
          obtain ⟨ad363, e363, hx363_0⟩ := Kd.at_int HR0.out x19_2 p363 q363
          cases e363
          replace hx363_0 := (HB.out.cell (World.block_lt_of_cell? w _ hx363_0)).trans hx363_0
          replace p363 := eq_true p363
          replace q363 := eq_true q363
          go_wp2_with (first | ((with_reducible refine gate_callee (f := 29) rfl ?_); refine goesL_ (some 25) rfl rfl Try.func29 (by kernel_rfl) rfl #[.int .i64 (rd l0 x19_2)] rfl (by (try simp only [List.map_toArray, List.map_cons, List.map_nil]); first | done | rfl | (simp only [List.length_drop, List.length_take]; rfl)) ?_; (with_reducible refine (step_New.calls (rd l0 x19_2) t364 t365 _ A8.out).mono ?_); rintro e w14 ⟨v366, rfl, ho0, hb⟩; refine ⟨_, rfl, ?_⟩; have n0_ := Aside0.mk (Kd.S_elder' (by (with_reducible repeat (first | apply Kd.S_alloc | apply Kd.S_drewN | apply Kd.S_drew)); exact HO_4.out) (Kd.R_base ho0) hb); have n1_ := Aside0.mk (Kd.R_lower ho0 (below_size (by repeat (first | (with_reducible first | exact HB.out | apply below_alloc | apply pw_below_drewN | apply below_drew1) | exact HB.out)))); have n2_ := Aside0.mk (below_step (by repeat (first | (with_reducible first | exact HB.out | apply below_alloc | apply pw_below_drewN | apply below_drew1) | exact HB.out)) hb); clear HO_4; clear HB; have HO_4 := n0_; have HO367 := n1_; have HB := n2_; clear n0_ n1_ n2_; (try clear hb); (try clear hb2); (try clear hk); (try clear hi); (try clear ho0)))
          go_ret2
          exact ⟨_, by first | rfl | (simp [errW_none, errW_some] <;> rfl) | (simp [*, errW_none, errW_some] <;> rfl), by first | exact Kd.S_nil _ _ _ _ _ | exact Kd.N_nil _ _ _ _ _ | exact Kd.V_nil _ _ _ _ _ | exact Kd.Q_nil _ _ _ _ _ | exact Kd.R_nil _ _ _ _ _, by repeat (first | (with_reducible first | exact HB.out | apply below_alloc | apply pw_below_drewN | apply below_drew1) | exact HB.out)⟩
        ·rw [if_neg c7] at H
         exact absurd H (by simp)
       ·rw [if_neg c6] at H
        exact absurd H (by simp)
      ·rw [if_neg c5] at H
       have c5b0 : decide (x19_2 < (l0.length : Int)) = false := decide_eq_false c5
       clear c5
       simp only [Option.some.injEq, Prod.mk.injEq] at H
       obtain ⟨rfl, rfl⟩ := H
       go_wp2
       go_ret2
       exact ⟨_, by first | rfl | (simp [errW_none, errW_some] <;> rfl) | (simp [*, errW_none, errW_some] <;> rfl), by (with_reducible repeat (first | apply Kd.S_alloc | apply Kd.S_drewN | apply Kd.S_drew)); exact HO_4.out, by repeat (first | (with_reducible first | exact HB.out | apply below_alloc | apply pw_below_drewN | apply below_drew1) | exact HB.out)⟩

end Go.Proofs.Ytimllhflecippaa.F
end

section
namespace Go.Proofs.Ytimllhflecippaa.F
open Go.RowKit Go.Proofs.YtimllhflecippaaW.PrintWords Go.Proofs.YtimllhflecippaaW.PrintLast Go.Proofs.YtimllhflecippaaW.PrintMore
attribute [local go_sem] max2_int min2_int max_two min_two
set_option linter.unusedVariables false
set_option linter.unusedSimpArgs false

def bailiwicklaw04_awake.f (k : Nat)  : Option (Bool) := (pools_New.f k (([4, 2] : List Int))).bind fun bt419 => ((pools_Take.f k bt419.1 0 5 (([3, 0] : List Int))).bind fun bt426 => ((pools_Take.f k bt426.1 0 9 (([0, 2] : List Int))).bind fun bt433 => ((pools_First.f k bt433.1 1 2 (([2, 1] : List Int))).bind fun bt440 => (if bt419.2 = 0 then (if bt426.2 = 0 then (if bt433.2 = 0 then (if bt440.2 = true then (if bt440.1 = 9 then ((pools_At.f k bt433.1 5).bind fun t442 => ((bailiwickref01_Same.f k t442 (([4, 0] : List Int))).bind fun t448 => (some t448))) else (some false)) else (some false)) else (some false)) else (some false)) else (some false)))))
theorem bailiwicklaw04_awake.mono : ∀ k, LeO (bailiwicklaw04_awake.f k ) (bailiwicklaw04_awake.f (k + 1) ) := by
 intro  k
 unfold bailiwicklaw04_awake.f
 repeat' first
   | (with_reducible exact bailiwickref01_Same.mono _ _ _)
   | (with_reducible exact pools_At.mono _ _ _)
   | (with_reducible exact pools_First.mono _ _ _ _ _)
   | (with_reducible exact pools_New.mono _ _)
   | (with_reducible exact pools_Take.mono _ _ _ _ _)
   | (with_reducible exact LeO.refl _)
   | (with_reducible exact LeO.none _)
   | (with_reducible refine LeO.ite ?_ ?_)
   | (with_reducible refine LeO.bind ?_ (fun _ => ?_))
   | exact bailiwickref01_Same.mono _ _ _
   | exact pools_At.mono _ _ _
   | exact pools_First.mono _ _ _ _ _
   | exact pools_New.mono _ _
   | exact pools_Take.mono _ _ _ _ _
   | exact LeO.none _
   | refine LeO.ite ?_ ?_
   | refine LeO.bind ?_ (fun _ => ?_)
set_option maxHeartbeats 8000000 in
set_option maxRecDepth 100000 in
theorem bailiwicklaw04_awake.calls (k : Nat)  (r : Bool) (w : World) (h : bailiwicklaw04_awake.f k  = some r) :
  Calls Try.prog 34 #[] w fun e w' => e = .returned (.bool r) ∧ Below w.heap.size w w' := by
 have HB := Aside0.mk (Below.refl w.heap.size w)
 have H : ((pools_New.f k (([4, 2] : List Int))).bind fun bt419 => ((pools_Take.f k bt419.1 0 5 (([3, 0] : List Int))).bind fun bt426 => ((pools_Take.f k bt426.1 0 9 (([0, 2] : List Int))).bind fun bt433 => ((pools_First.f k bt433.1 1 2 (([2, 1] : List Int))).bind fun bt440 => (if bt419.2 = 0 then (if bt426.2 = 0 then (if bt433.2 = 0 then (if bt440.2 = true then (if bt440.1 = 9 then ((pools_At.f k bt433.1 5).bind fun t442 => ((bailiwickref01_Same.f k t442 (([4, 0] : List Int))).bind fun t448 => (some t448))) else (some false)) else (some false)) else (some false)) else (some false)) else (some false)))))) = some r := h
 clear h
 obtain ⟨y416, hy416⟩ : ∃ y_ : List Int, y_ = (([4, 2] : List Int)) := ⟨_, rfl⟩
 replace H : ((pools_New.f k y416).bind fun bt419 => ((pools_Take.f k bt419.1 0 5 (([3, 0] : List Int))).bind fun bt426 => ((pools_Take.f k bt426.1 0 9 (([0, 2] : List Int))).bind fun bt433 => ((pools_First.f k bt433.1 1 2 (([2, 1] : List Int))).bind fun bt440 => (if bt419.2 = 0 then (if bt426.2 = 0 then (if bt433.2 = 0 then (if bt440.2 = true then (if bt440.1 = 9 then ((pools_At.f k bt433.1 5).bind fun t442 => ((bailiwickref01_Same.f k t442 (([4, 0] : List Int))).bind fun t448 => (some t448))) else (some false)) else (some false)) else (some false)) else (some false)) else (some false)))))) = some r := by first | (rw [hy416]; with_reducible exact H) | (have H2_ := (Option.bind_some _ _).symm.trans H; rw [hy416]; with_reducible exact H2_) | (have H2_ := (Option.bind_some _ _).symm.trans H; with_reducible exact H2_) | with_reducible exact H | (rw [hy416]; exact H) | exact H
 have Ny416 := Aside0.mk hy416
 clear hy416
 replace H := Option.bind_eq_some_iff.mp H
 obtain ⟨⟨t419, t420⟩, A10, H⟩ := H
 replace H : ((pools_Take.f k t419 0 5 (([3, 0] : List Int))).bind fun bt426 => ((pools_Take.f k bt426.1 0 9 (([0, 2] : List Int))).bind fun bt433 => ((pools_First.f k bt433.1 1 2 (([2, 1] : List Int))).bind fun bt440 => (if t420 = 0 then (if bt426.2 = 0 then (if bt433.2 = 0 then (if bt440.2 = true then (if bt440.1 = 9 then ((pools_At.f k bt433.1 5).bind fun t442 => ((bailiwickref01_Same.f k t442 (([4, 0] : List Int))).bind fun t448 => (some t448))) else (some false)) else (some false)) else (some false)) else (some false)) else (some false))))) = some r := H
 have A1 := Aside0.mk A10
 clear A10
 obtain ⟨y423, hy423⟩ : ∃ y_ : List Int, y_ = (([3, 0] : List Int)) := ⟨_, rfl⟩
 replace H : ((pools_Take.f k t419 0 5 y423).bind fun bt426 => ((pools_Take.f k bt426.1 0 9 (([0, 2] : List Int))).bind fun bt433 => ((pools_First.f k bt433.1 1 2 (([2, 1] : List Int))).bind fun bt440 => (if t420 = 0 then (if bt426.2 = 0 then (if bt433.2 = 0 then (if bt440.2 = true then (if bt440.1 = 9 then ((pools_At.f k bt433.1 5).bind fun t442 => ((bailiwickref01_Same.f k t442 (([4, 0] : List Int))).bind fun t448 => (some t448))) else (some false)) else (some false)) else (some false)) else (some false)) else (some false))))) = some r := by first | (rw [hy423]; with_reducible exact H) | (have H2_ := (Option.bind_some _ _).symm.trans H; rw [hy423]; with_reducible exact H2_) | (have H2_ := (Option.bind_some _ _).symm.trans H; with_reducible exact H2_) | with_reducible exact H | (rw [hy423]; exact H) | exact H
 have Ny423 := Aside0.mk hy423
 clear hy423
 replace H := Option.bind_eq_some_iff.mp H
 obtain ⟨⟨t426, t427⟩, A20, H⟩ := H
 replace H : ((pools_Take.f k t426 0 9 (([0, 2] : List Int))).bind fun bt433 => ((pools_First.f k bt433.1 1 2 (([2, 1] : List Int))).bind fun bt440 => (if t420 = 0 then (if t427 = 0 then (if bt433.2 = 0 then (if bt440.2 = true then (if bt440.1 = 9 then ((pools_At.f k bt433.1 5).bind fun t442 => ((bailiwickref01_Same.f k t442 (([4, 0] : List Int))).bind fun t448 => (some t448))) else (some false)) else (some false)) else (some false)) else (some false)) else (some false)))) = some r := H
 have A2 := Aside0.mk A20
 clear A20
 obtain ⟨y430, hy430⟩ : ∃ y_ : List Int, y_ = (([0, 2] : List Int)) := ⟨_, rfl⟩
 replace H : ((pools_Take.f k t426 0 9 y430).bind fun bt433 => ((pools_First.f k bt433.1 1 2 (([2, 1] : List Int))).bind fun bt440 => (if t420 = 0 then (if t427 = 0 then (if bt433.2 = 0 then (if bt440.2 = true then (if bt440.1 = 9 then ((pools_At.f k bt433.1 5).bind fun t442 => ((bailiwickref01_Same.f k t442 (([4, 0] : List Int))).bind fun t448 => (some t448))) else (some false)) else (some false)) else (some false)) else (some false)) else (some false)))) = some r := by first | (rw [hy430]; with_reducible exact H) | (have H2_ := (Option.bind_some _ _).symm.trans H; rw [hy430]; with_reducible exact H2_) | (have H2_ := (Option.bind_some _ _).symm.trans H; with_reducible exact H2_) | with_reducible exact H | (rw [hy430]; exact H) | exact H
 have Ny430 := Aside0.mk hy430
 clear hy430
 replace H := Option.bind_eq_some_iff.mp H
 obtain ⟨⟨t433, t434⟩, A30, H⟩ := H
 replace H : ((pools_First.f k t433 1 2 (([2, 1] : List Int))).bind fun bt440 => (if t420 = 0 then (if t427 = 0 then (if t434 = 0 then (if bt440.2 = true then (if bt440.1 = 9 then ((pools_At.f k t433 5).bind fun t442 => ((bailiwickref01_Same.f k t442 (([4, 0] : List Int))).bind fun t448 => (some t448))) else (some false)) else (some false)) else (some false)) else (some false)) else (some false))) = some r := H
 have A3 := Aside0.mk A30
 clear A30
 obtain ⟨y437, hy437⟩ : ∃ y_ : List Int, y_ = (([2, 1] : List Int)) := ⟨_, rfl⟩
 replace H : ((pools_First.f k t433 1 2 y437).bind fun bt440 => (if t420 = 0 then (if t427 = 0 then (if t434 = 0 then (if bt440.2 = true then (if bt440.1 = 9 then ((pools_At.f k t433 5).bind fun t442 => ((bailiwickref01_Same.f k t442 (([4, 0] : List Int))).bind fun t448 => (some t448))) else (some false)) else (some false)) else (some false)) else (some false)) else (some false))) = some r := by first | (rw [hy437]; with_reducible exact H) | (have H2_ := (Option.bind_some _ _).symm.trans H; rw [hy437]; with_reducible exact H2_) | (have H2_ := (Option.bind_some _ _).symm.trans H; with_reducible exact H2_) | with_reducible exact H | (rw [hy437]; exact H) | exact H
 have Ny437 := Aside0.mk hy437
 clear hy437
 replace H := Option.bind_eq_some_iff.mp H
 obtain ⟨⟨t440, t441⟩, A40, H⟩ := H
 replace H : (if t420 = 0 then (if t427 = 0 then (if t434 = 0 then (if t441 = true then (if t440 = 9 then ((pools_At.f k t433 5).bind fun t442 => ((bailiwickref01_Same.f k t442 (([4, 0] : List Int))).bind fun t448 => (some t448))) else (some false)) else (some false)) else (some false)) else (some false)) else (some false)) = some r := H
 have A4 := Aside0.mk A40
 clear A40
 by_cases c5 : t420 = 0
 ·rw [if_pos c5] at H
  have c5b0 : (t420 == 0) = true := beq_iff_eq.mpr c5
  have c5b1 : (t420 != 0) = false := bne_eq_false_iff_eq.mpr c5
  clear c5
  by_cases c6 : t427 = 0
  ·rw [if_pos c6] at H
   have c6b0 : (t427 == 0) = true := beq_iff_eq.mpr c6
   have c6b1 : (t427 != 0) = false := bne_eq_false_iff_eq.mpr c6
   clear c6
   by_cases c7 : t434 = 0
   ·rw [if_pos c7] at H
    have c7b0 : (t434 == 0) = true := beq_iff_eq.mpr c7
    have c7b1 : (t434 != 0) = false := bne_eq_false_iff_eq.mpr c7
    clear c7
    by_cases c8 : t441 = true
    ·subst c8
     have H1 : (if t440 = 9 then ((pools_At.f k t433 5).bind fun t442 => ((bailiwickref01_Same.f k t442 (([4, 0] : List Int))).bind fun t448 => (some t448))) else (some false)) = some r := by rw [if_pos rfl] at H; exact H
     clear H
     have H := H1
     clear H1
     by_cases c9 : t440 = 9
     ·rw [if_pos c9] at H
      have c9b0 : (t440 == 9) = true := beq_iff_eq.mpr c9
      have c9b1 : (t440 != 9) = false := bne_eq_false_iff_eq.mpr c9
      clear c9
      replace H := Option.bind_eq_some_iff.mp H
      obtain ⟨t442, A100, H⟩ := H
      replace H : ((bailiwickref01_Same.f k t442 (([4, 0] : List Int))).bind fun t448 => (some t448)) = some r := H
      have A10 := Aside0.mk A100
      clear A100
      obtain ⟨y445, hy445⟩ : ∃ y_ : List Int, y_ = (([4, 0] : List Int)) := ⟨_, rfl⟩
      replace H : ((bailiwickref01_Same.f k t442 y445).bind fun t448 => (some t448)) = some r := by first | (rw [hy445]; with_reducible exact H) | (have H2_ := (Option.bind_some _ _).symm.trans H; rw [hy445]; with_reducible exact H2_) | (have H2_ := (Option.bind_some _ _).symm.trans H; with_reducible exact H2_) | with_reducible exact H | (rw [hy445]; exact H) | exact H
      have Ny445 := Aside0.mk hy445
      clear hy445
      replace H := Option.bind_eq_some_iff.mp H
      obtain ⟨t448, A110, H⟩ := H
      replace H : (some t448) = some r := H
      have A11 := Aside0.mk A110
      clear A110
      obtain rfl := Option.some.inj H
      go_enter Try.func34, Try.ntmps34
      go_wp2_with (first | ((with_reducible refine gate_dst (N := 8) rfl ?_); (try (refine gate_guard (by rfl) ?_; dsimp only)); refine Kd.R_lit (Kd.int .i64) _ 3 ?hg (N := 8) ?hd (xs := ([4, 2] : List Int)) (inner := [.int .i64 4, .int .i64 2]) (ok := fun _ => True) (okp := fun _ => True) ?hr ?hp (fun _ hk => hk) trivial (Below.refl _ _) (Nat.le_refl _) (by simp) ?_; (case hd => rfl); (case hg => rfl); (case hr => first | (go_simp; done) | (go_simp; rfl)); (case hp => exact (Reps.one (show Kd.M (Kd.int .i64) _ _ _ 4 [.int .i64 4] from rfl) (Reps.one (show Kd.M (Kd.int .i64) _ _ _ 2 [.int .i64 2] from rfl) (Reps.none _ _)))); intro v417 w12 ho13 hb hg_ hnew_; clear hg_ hnew_; (first | rw [← Ny416.out] at ho13 | (simp only [Int.reduceToNat] at ho13; rw [← Ny416.out] at ho13)); have n0_ := Aside0.mk (Kd.R_lower ho13 (below_size (by repeat (first | (with_reducible first | exact HB.out | apply below_alloc | apply pw_below_drewN | apply below_drew1) | exact HB.out)))); have n1_ := Aside0.mk (below_step (by repeat (first | (with_reducible first | exact HB.out | apply below_alloc | apply pw_below_drewN | apply below_drew1) | exact HB.out)) hb); clear HB; have HO418 := n0_; have HB := n1_; clear n0_ n1_; clear hb ho13; obtain ⟨Ao14, co14, eo14⟩ := Kd.R_slice HO418.out; subst eo14) | ((with_reducible refine gate_callee (f := 35) rfl ?_); refine goesL_ (some 9) rfl rfl Try.func35 (by kernel_rfl) rfl #[.slice Ao14 y416.length co14] rfl (by (try simp only [List.map_toArray, List.map_cons, List.map_nil]); first | done | rfl | (simp only [List.length_drop, List.length_take]; rfl)) ?_; (with_reducible refine (pools_New.calls k _ _ y416 t419 t420 _ ?side1 ?side2 A1.out).mono ?_); (case side1 => repeat (first | exact (Kd.R_reads' HO418.out).2.2 | (with_reducible refine Kd.C_alloc ?_ _) | (with_reducible refine Kd.C_drewN ?_ _) | (with_reducible refine Kd.C_drew ?_))); (case side2 => exact (Kd.R_reads' HO418.out).2.1); rintro e w15 ⟨v421, rfl, ho0, hb⟩; refine ⟨_, rfl, ?_⟩; have n0_ := Aside0.mk (Kd.R_below (by (with_reducible repeat (first | apply Kd.R_alloc | apply Kd.R_drewN | apply Kd.R_drew)); exact HO418.out) hb); have n1_ := Aside0.mk (Kd.S_lower ho0 (below_size (by repeat (first | (with_reducible first | exact HB.out | apply below_alloc | apply pw_below_drewN | apply below_drew1) | exact HB.out)))); have n2_ := Aside0.mk (below_step (by repeat (first | (with_reducible first | exact HB.out | apply below_alloc | apply pw_below_drewN | apply below_drew1) | exact HB.out)) hb); clear HO418; clear HB; have HO418 := n0_; have HO422 := n1_; have HB := n2_; clear n0_ n1_ n2_; (try clear hb); (try clear hb2); (try clear hk); (try clear hi); (try clear ho0)) | ((with_reducible refine gate_dst (N := 14) rfl ?_); (try (refine gate_guard (by rfl) ?_; dsimp only)); refine Kd.R_lit (Kd.int .i64) _ 3 ?hg (N := 14) ?hd (xs := ([3, 0] : List Int)) (inner := [.int .i64 3, .int .i64 0]) (ok := fun _ => True) (okp := fun _ => True) ?hr ?hp (fun _ hk => hk) trivial (Below.refl _ _) (Nat.le_refl _) (by simp) ?_; (case hd => rfl); (case hg => rfl); (case hr => first | (go_simp; done) | (go_simp; rfl)); (case hp => exact (Reps.one (show Kd.M (Kd.int .i64) _ _ _ 3 [.int .i64 3] from rfl) (Reps.one (show Kd.M (Kd.int .i64) _ _ _ 0 [.int .i64 0] from rfl) (Reps.none _ _)))); intro v424 w16 ho17 hb hg_ hnew_; clear hg_ hnew_; (first | rw [← Ny423.out] at ho17 | (simp only [Int.reduceToNat] at ho17; rw [← Ny423.out] at ho17)); have n0_ := Aside0.mk (Kd.R_elder' (by (with_reducible repeat (first | apply Kd.R_alloc | apply Kd.R_drewN | apply Kd.R_drew)); exact HO418.out) (Kd.R_base ho17) hb); have n1_ := Aside0.mk (Kd.S_below (by (with_reducible repeat (first | apply Kd.S_alloc | apply Kd.S_drewN | apply Kd.S_drew)); exact HO422.out) hb); have n2_ := Aside0.mk (Kd.R_lower (Kd.R_new' ho17 (Kd.R_lt (by (with_reducible repeat (first | apply Kd.R_alloc | apply Kd.R_drewN | apply Kd.R_drew)); exact HO418.out))) (below_size (by repeat (first | (with_reducible first | exact HB.out | apply below_alloc | apply pw_below_drewN | apply below_drew1) | exact HB.out)))); have n3_ := Aside0.mk (below_step (by repeat (first | (with_reducible first | exact HB.out | apply below_alloc | apply pw_below_drewN | apply below_drew1) | exact HB.out)) hb); clear HO418; clear HO422; clear HB; have HO418 := n0_; have HO422 := n1_; have HO425 := n2_; have HB := n3_; clear n0_ n1_ n2_ n3_; clear hb ho17; obtain ⟨Ao18, co18, eo18⟩ := Kd.S_slice HO422.out; subst eo18; obtain ⟨Ao19, co19, eo19⟩ := Kd.R_slice HO425.out; subst eo19) | ((with_reducible refine gate_callee (f := 42) rfl ?_); refine goesL_ (some 15) rfl rfl Try.func42 (by kernel_rfl) rfl #[.slice Ao18 t419.length co18, .int .i64 0, .int .i64 5, .slice Ao19 y423.length co19] rfl (by (try simp only [List.map_toArray, List.map_cons, List.map_nil]); first | done | rfl | (simp only [List.length_drop, List.length_take]; rfl)) ?_; (with_reducible refine (pools_Take.calls k _ _ t419 0 5 _ _ y423 t426 t427 _ ?side1 ?side2 ?side3 ?side4 A2.out).mono ?_); (case side1 => repeat (first | exact (Kd.S_reads' HO422.out).2.2 | (with_reducible refine Kd.C_alloc ?_ _) | (with_reducible refine Kd.C_drewN ?_ _) | (with_reducible refine Kd.C_drew ?_))); (case side2 => exact (Kd.S_reads' HO422.out).2.1); (case side3 => repeat (first | exact (Kd.R_reads' HO425.out).2.2 | (with_reducible refine Kd.C_alloc ?_ _) | (with_reducible refine Kd.C_drewN ?_ _) | (with_reducible refine Kd.C_drew ?_))); (case side4 => exact (Kd.R_reads' HO425.out).2.1); rintro e w20 ⟨v428, rfl, ho0, hb⟩; refine ⟨_, rfl, ?_⟩; have n0_ := Aside0.mk (Kd.R_below (by (with_reducible repeat (first | apply Kd.R_alloc | apply Kd.R_drewN | apply Kd.R_drew)); exact HO418.out) hb); have n1_ := Aside0.mk (Kd.S_elder' (by (with_reducible repeat (first | apply Kd.S_alloc | apply Kd.S_drewN | apply Kd.S_drew)); exact HO422.out) (Kd.S_base ho0) hb); have n2_ := Aside0.mk (Kd.R_below (by (with_reducible repeat (first | apply Kd.R_alloc | apply Kd.R_drewN | apply Kd.R_drew)); exact HO425.out) hb); have n3_ := Aside0.mk (Kd.S_lower (Kd.S_new' ho0 (Kd.S_lt (by (with_reducible repeat (first | apply Kd.S_alloc | apply Kd.S_drewN | apply Kd.S_drew)); exact HO422.out))) (below_size (by repeat (first | (with_reducible first | exact HB.out | apply below_alloc | apply pw_below_drewN | apply below_drew1) | exact HB.out)))); have n4_ := Aside0.mk (below_step (by repeat (first | (with_reducible first | exact HB.out | apply below_alloc | apply pw_below_drewN | apply below_drew1) | exact HB.out)) hb); clear HO418; clear HO422; clear HO425; clear HB; have HO418 := n0_; have HO422 := n1_; have HO425 := n2_; have HO429 := n3_; have HB := n4_; clear n0_ n1_ n2_ n3_ n4_; (try clear hb); (try clear hb2); (try clear hk); (try clear hi); (try clear ho0)) | ((with_reducible refine gate_dst (N := 20) rfl ?_); (try (refine gate_guard (by rfl) ?_; dsimp only)); refine Kd.R_lit (Kd.int .i64) _ 3 ?hg (N := 20) ?hd (xs := ([0, 2] : List Int)) (inner := [.int .i64 0, .int .i64 2]) (ok := fun _ => True) (okp := fun _ => True) ?hr ?hp (fun _ hk => hk) trivial (Below.refl _ _) (Nat.le_refl _) (by simp) ?_; (case hd => rfl); (case hg => rfl); (case hr => first | (go_simp; done) | (go_simp; rfl)); (case hp => exact (Reps.one (show Kd.M (Kd.int .i64) _ _ _ 0 [.int .i64 0] from rfl) (Reps.one (show Kd.M (Kd.int .i64) _ _ _ 2 [.int .i64 2] from rfl) (Reps.none _ _)))); intro v431 w21 ho22 hb hg_ hnew_; clear hg_ hnew_; (first | rw [← Ny430.out] at ho22 | (simp only [Int.reduceToNat] at ho22; rw [← Ny430.out] at ho22)); have n0_ := Aside0.mk (Kd.R_elder' (by (with_reducible repeat (first | apply Kd.R_alloc | apply Kd.R_drewN | apply Kd.R_drew)); exact HO418.out) (Kd.R_base ho22) hb); have n1_ := Aside0.mk (Kd.S_below (by (with_reducible repeat (first | apply Kd.S_alloc | apply Kd.S_drewN | apply Kd.S_drew)); exact HO422.out) hb); have n2_ := Aside0.mk (Kd.R_elder' (by (with_reducible repeat (first | apply Kd.R_alloc | apply Kd.R_drewN | apply Kd.R_drew)); exact HO425.out) (Kd.R_base ho22) hb); have n3_ := Aside0.mk (Kd.S_below (by (with_reducible repeat (first | apply Kd.S_alloc | apply Kd.S_drewN | apply Kd.S_drew)); exact HO429.out) hb); have n4_ := Aside0.mk (Kd.R_lower (Kd.R_new' (Kd.R_new' ho22 (Kd.R_lt (by (with_reducible repeat (first | apply Kd.R_alloc | apply Kd.R_drewN | apply Kd.R_drew)); exact HO418.out))) (Kd.R_lt (by (with_reducible repeat (first | apply Kd.R_alloc | apply Kd.R_drewN | apply Kd.R_drew)); exact HO425.out))) (below_size (by repeat (first | (with_reducible first | exact HB.out | apply below_alloc | apply pw_below_drewN | apply below_drew1) | exact HB.out)))); have n5_ := Aside0.mk (below_step (by repeat (first | (with_reducible first | exact HB.out | apply below_alloc | apply pw_below_drewN | apply below_drew1) | exact HB.out)) hb); clear HO418; clear HO422; clear HO425; clear HO429; clear HB; have HO418 := n0_; have HO422 := n1_; have HO425 := n2_; have HO429 := n3_; have HO432 := n4_; have HB := n5_; clear n0_ n1_ n2_ n3_ n4_ n5_; clear hb ho22; obtain ⟨Ao23, co23, eo23⟩ := Kd.S_slice HO429.out; subst eo23; obtain ⟨Ao24, co24, eo24⟩ := Kd.R_slice HO432.out; subst eo24) | ((with_reducible refine gate_callee (f := 42) rfl ?_); refine goesL_ (some 21) rfl rfl Try.func42 (by kernel_rfl) rfl #[.slice Ao23 t426.length co23, .int .i64 0, .int .i64 9, .slice Ao24 y430.length co24] rfl (by (try simp only [List.map_toArray, List.map_cons, List.map_nil]); first | done | rfl | (simp only [List.length_drop, List.length_take]; rfl)) ?_; (with_reducible refine (pools_Take.calls k _ _ t426 0 9 _ _ y430 t433 t434 _ ?side1 ?side2 ?side3 ?side4 A3.out).mono ?_); (case side1 => repeat (first | exact (Kd.S_reads' HO429.out).2.2 | (with_reducible refine Kd.C_alloc ?_ _) | (with_reducible refine Kd.C_drewN ?_ _) | (with_reducible refine Kd.C_drew ?_))); (case side2 => exact (Kd.S_reads' HO429.out).2.1); (case side3 => repeat (first | exact (Kd.R_reads' HO432.out).2.2 | (with_reducible refine Kd.C_alloc ?_ _) | (with_reducible refine Kd.C_drewN ?_ _) | (with_reducible refine Kd.C_drew ?_))); (case side4 => exact (Kd.R_reads' HO432.out).2.1); rintro e w25 ⟨v435, rfl, ho0, hb⟩; refine ⟨_, rfl, ?_⟩; have n0_ := Aside0.mk (Kd.R_below (by (with_reducible repeat (first | apply Kd.R_alloc | apply Kd.R_drewN | apply Kd.R_drew)); exact HO418.out) hb); have n1_ := Aside0.mk (Kd.S_elder' (by (with_reducible repeat (first | apply Kd.S_alloc | apply Kd.S_drewN | apply Kd.S_drew)); exact HO422.out) (Kd.S_base ho0) hb); have n2_ := Aside0.mk (Kd.R_below (by (with_reducible repeat (first | apply Kd.R_alloc | apply Kd.R_drewN | apply Kd.R_drew)); exact HO425.out) hb); have n3_ := Aside0.mk (Kd.S_elder' (by (with_reducible repeat (first | apply Kd.S_alloc | apply Kd.S_drewN | apply Kd.S_drew)); exact HO429.out) (Kd.S_base ho0) hb); have n4_ := Aside0.mk (Kd.R_below (by (with_reducible repeat (first | apply Kd.R_alloc | apply Kd.R_drewN | apply Kd.R_drew)); exact HO432.out) hb); have n5_ := Aside0.mk (Kd.S_lower (Kd.S_new' (Kd.S_new' ho0 (Kd.S_lt (by (with_reducible repeat (first | apply Kd.S_alloc | apply Kd.S_drewN | apply Kd.S_drew)); exact HO422.out))) (Kd.S_lt (by (with_reducible repeat (first | apply Kd.S_alloc | apply Kd.S_drewN | apply Kd.S_drew)); exact HO429.out))) (below_size (by repeat (first | (with_reducible first | exact HB.out | apply below_alloc | apply pw_below_drewN | apply below_drew1) | exact HB.out)))); have n6_ := Aside0.mk (below_step (by repeat (first | (with_reducible first | exact HB.out | apply below_alloc | apply pw_below_drewN | apply below_drew1) | exact HB.out)) hb); clear HO418; clear HO422; clear HO425; clear HO429; clear HO432; clear HB; have HO418 := n0_; have HO422 := n1_; have HO425 := n2_; have HO429 := n3_; have HO432 := n4_; have HO436 := n5_; have HB := n6_; clear n0_ n1_ n2_ n3_ n4_ n5_ n6_; (try clear hb); (try clear hb2); (try clear hk); (try clear hi); (try clear ho0)) | ((with_reducible refine gate_dst (N := 26) rfl ?_); (try (refine gate_guard (by rfl) ?_; dsimp only)); refine Kd.R_lit (Kd.int .i64) _ 3 ?hg (N := 26) ?hd (xs := ([2, 1] : List Int)) (inner := [.int .i64 2, .int .i64 1]) (ok := fun _ => True) (okp := fun _ => True) ?hr ?hp (fun _ hk => hk) trivial (Below.refl _ _) (Nat.le_refl _) (by simp) ?_; (case hd => rfl); (case hg => rfl); (case hr => first | (go_simp; done) | (go_simp; rfl)); (case hp => exact (Reps.one (show Kd.M (Kd.int .i64) _ _ _ 2 [.int .i64 2] from rfl) (Reps.one (show Kd.M (Kd.int .i64) _ _ _ 1 [.int .i64 1] from rfl) (Reps.none _ _)))); intro v438 w26 ho27 hb hg_ hnew_; clear hg_ hnew_; (first | rw [← Ny437.out] at ho27 | (simp only [Int.reduceToNat] at ho27; rw [← Ny437.out] at ho27)); have n0_ := Aside0.mk (Kd.R_elder' (by (with_reducible repeat (first | apply Kd.R_alloc | apply Kd.R_drewN | apply Kd.R_drew)); exact HO418.out) (Kd.R_base ho27) hb); have n1_ := Aside0.mk (Kd.S_below (by (with_reducible repeat (first | apply Kd.S_alloc | apply Kd.S_drewN | apply Kd.S_drew)); exact HO422.out) hb); have n2_ := Aside0.mk (Kd.R_elder' (by (with_reducible repeat (first | apply Kd.R_alloc | apply Kd.R_drewN | apply Kd.R_drew)); exact HO425.out) (Kd.R_base ho27) hb); have n3_ := Aside0.mk (Kd.S_below (by (with_reducible repeat (first | apply Kd.S_alloc | apply Kd.S_drewN | apply Kd.S_drew)); exact HO429.out) hb); have n4_ := Aside0.mk (Kd.R_elder' (by (with_reducible repeat (first | apply Kd.R_alloc | apply Kd.R_drewN | apply Kd.R_drew)); exact HO432.out) (Kd.R_base ho27) hb); have n5_ := Aside0.mk (Kd.S_below (by (with_reducible repeat (first | apply Kd.S_alloc | apply Kd.S_drewN | apply Kd.S_drew)); exact HO436.out) hb); have n6_ := Aside0.mk (Kd.R_lower (Kd.R_new' (Kd.R_new' (Kd.R_new' ho27 (Kd.R_lt (by (with_reducible repeat (first | apply Kd.R_alloc | apply Kd.R_drewN | apply Kd.R_drew)); exact HO418.out))) (Kd.R_lt (by (with_reducible repeat (first | apply Kd.R_alloc | apply Kd.R_drewN | apply Kd.R_drew)); exact HO425.out))) (Kd.R_lt (by (with_reducible repeat (first | apply Kd.R_alloc | apply Kd.R_drewN | apply Kd.R_drew)); exact HO432.out))) (below_size (by repeat (first | (with_reducible first | exact HB.out | apply below_alloc | apply pw_below_drewN | apply below_drew1) | exact HB.out)))); have n7_ := Aside0.mk (below_step (by repeat (first | (with_reducible first | exact HB.out | apply below_alloc | apply pw_below_drewN | apply below_drew1) | exact HB.out)) hb); clear HO418; clear HO422; clear HO425; clear HO429; clear HO432; clear HO436; clear HB; have HO418 := n0_; have HO422 := n1_; have HO425 := n2_; have HO429 := n3_; have HO432 := n4_; have HO436 := n5_; have HO439 := n6_; have HB := n7_; clear n0_ n1_ n2_ n3_ n4_ n5_ n6_ n7_; clear hb ho27; obtain ⟨Ao28, co28, eo28⟩ := Kd.S_slice HO436.out; subst eo28; obtain ⟨Ao29, co29, eo29⟩ := Kd.R_slice HO439.out; subst eo29) | ((with_reducible refine gate_callee (f := 40) rfl ?_); refine goesL_ (some 27) rfl rfl Try.func40 (by kernel_rfl) rfl #[.slice Ao28 t433.length co28, .int .i64 1, .int .i64 2, .slice Ao29 y437.length co29] rfl (by (try simp only [List.map_toArray, List.map_cons, List.map_nil]); first | done | rfl | (simp only [List.length_drop, List.length_take]; rfl)) ?_; (with_reducible refine (pools_First.calls k _ _ t433 1 2 _ _ y437 t440 true _ ?side1 ?side2 ?side3 ?side4 A4.out).mono ?_); (case side1 => repeat (first | exact (Kd.S_reads' HO436.out).2.2 | (with_reducible refine Kd.C_alloc ?_ _) | (with_reducible refine Kd.C_drewN ?_ _) | (with_reducible refine Kd.C_drew ?_))); (case side2 => exact (Kd.S_reads' HO436.out).2.1); (case side3 => repeat (first | exact (Kd.R_reads' HO439.out).2.2 | (with_reducible refine Kd.C_alloc ?_ _) | (with_reducible refine Kd.C_drewN ?_ _) | (with_reducible refine Kd.C_drew ?_))); (case side4 => exact (Kd.R_reads' HO439.out).2.1); rintro e w30 ⟨rfl, hb⟩; refine ⟨_, rfl, ?_⟩; have n0_ := Aside0.mk (Kd.R_below (by (with_reducible repeat (first | apply Kd.R_alloc | apply Kd.R_drewN | apply Kd.R_drew)); exact HO418.out) hb); have n1_ := Aside0.mk (Kd.S_below (by (with_reducible repeat (first | apply Kd.S_alloc | apply Kd.S_drewN | apply Kd.S_drew)); exact HO422.out) hb); have n2_ := Aside0.mk (Kd.R_below (by (with_reducible repeat (first | apply Kd.R_alloc | apply Kd.R_drewN | apply Kd.R_drew)); exact HO425.out) hb); have n3_ := Aside0.mk (Kd.S_below (by (with_reducible repeat (first | apply Kd.S_alloc | apply Kd.S_drewN | apply Kd.S_drew)); exact HO429.out) hb); have n4_ := Aside0.mk (Kd.R_below (by (with_reducible repeat (first | apply Kd.R_alloc | apply Kd.R_drewN | apply Kd.R_drew)); exact HO432.out) hb); have n5_ := Aside0.mk (Kd.S_below (by (with_reducible repeat (first | apply Kd.S_alloc | apply Kd.S_drewN | apply Kd.S_drew)); exact HO436.out) hb); have n6_ := Aside0.mk (Kd.R_below (by (with_reducible repeat (first | apply Kd.R_alloc | apply Kd.R_drewN | apply Kd.R_drew)); exact HO439.out) hb); have n7_ := Aside0.mk (below_step (by repeat (first | (with_reducible first | exact HB.out | apply below_alloc | apply pw_below_drewN | apply below_drew1) | exact HB.out)) hb); clear HO418; clear HO422; clear HO425; clear HO429; clear HO432; clear HO436; clear HO439; clear HB; have HO418 := n0_; have HO422 := n1_; have HO425 := n2_; have HO429 := n3_; have HO432 := n4_; have HO436 := n5_; have HO439 := n6_; have HB := n7_; clear n0_ n1_ n2_ n3_ n4_ n5_ n6_ n7_; (try clear hb); (try clear hb2); (try clear hk); (try clear hi)) | (go_at_call 38; (with_reducible refine (pools_At.calls k _ _ t433 5 t442 _ ?side1 ?side2 A10.out).mono ?_); (case side1 => repeat (first | exact (Kd.S_reads' HO436.out).2.2 | (with_reducible refine Kd.C_alloc ?_ _) | (with_reducible refine Kd.C_drewN ?_ _) | (with_reducible refine Kd.C_drew ?_))); (case side2 => exact (Kd.S_reads' HO436.out).2.1); rintro e w31 ⟨v443, rfl, ho0, hb⟩; have n0_ := Aside0.mk (Kd.R_elder' (by (with_reducible repeat (first | apply Kd.R_alloc | apply Kd.R_drewN | apply Kd.R_drew)); exact HO418.out) (Kd.R_base ho0) hb); have n1_ := Aside0.mk (Kd.S_below (by (with_reducible repeat (first | apply Kd.S_alloc | apply Kd.S_drewN | apply Kd.S_drew)); exact HO422.out) hb); have n2_ := Aside0.mk (Kd.R_elder' (by (with_reducible repeat (first | apply Kd.R_alloc | apply Kd.R_drewN | apply Kd.R_drew)); exact HO425.out) (Kd.R_base ho0) hb); have n3_ := Aside0.mk (Kd.S_below (by (with_reducible repeat (first | apply Kd.S_alloc | apply Kd.S_drewN | apply Kd.S_drew)); exact HO429.out) hb); have n4_ := Aside0.mk (Kd.R_elder' (by (with_reducible repeat (first | apply Kd.R_alloc | apply Kd.R_drewN | apply Kd.R_drew)); exact HO432.out) (Kd.R_base ho0) hb); have n5_ := Aside0.mk (Kd.S_below (by (with_reducible repeat (first | apply Kd.S_alloc | apply Kd.S_drewN | apply Kd.S_drew)); exact HO436.out) hb); have n6_ := Aside0.mk (Kd.R_elder' (by (with_reducible repeat (first | apply Kd.R_alloc | apply Kd.R_drewN | apply Kd.R_drew)); exact HO439.out) (Kd.R_base ho0) hb); have n7_ := Aside0.mk (Kd.R_lower (Kd.R_new' (Kd.R_new' (Kd.R_new' (Kd.R_new' ho0 (Kd.R_lt (by (with_reducible repeat (first | apply Kd.R_alloc | apply Kd.R_drewN | apply Kd.R_drew)); exact HO418.out))) (Kd.R_lt (by (with_reducible repeat (first | apply Kd.R_alloc | apply Kd.R_drewN | apply Kd.R_drew)); exact HO425.out))) (Kd.R_lt (by (with_reducible repeat (first | apply Kd.R_alloc | apply Kd.R_drewN | apply Kd.R_drew)); exact HO432.out))) (Kd.R_lt (by (with_reducible repeat (first | apply Kd.R_alloc | apply Kd.R_drewN | apply Kd.R_drew)); exact HO439.out))) (below_size (by repeat (first | (with_reducible first | exact HB.out | apply below_alloc | apply pw_below_drewN | apply below_drew1) | exact HB.out)))); have n8_ := Aside0.mk (below_step (by repeat (first | (with_reducible first | exact HB.out | apply below_alloc | apply pw_below_drewN | apply below_drew1) | exact HB.out)) hb); clear HO418; clear HO422; clear HO425; clear HO429; clear HO432; clear HO436; clear HO439; clear HB; have HO418 := n0_; have HO422 := n1_; have HO425 := n2_; have HO429 := n3_; have HO432 := n4_; have HO436 := n5_; have HO439 := n6_; have HO444 := n7_; have HB := n8_; clear n0_ n1_ n2_ n3_ n4_ n5_ n6_ n7_ n8_; (try clear hb); (try clear hb2); (try clear hk); (try clear hi); (try clear ho0)) | ((with_reducible refine gate_dst (N := 50) rfl ?_); (try (refine gate_guard (by rfl) ?_; dsimp only)); refine Kd.R_lit (Kd.int .i64) _ 3 ?hg (N := 50) ?hd (xs := ([4, 0] : List Int)) (inner := [.int .i64 4, .int .i64 0]) (ok := fun _ => True) (okp := fun _ => True) ?hr ?hp (fun _ hk => hk) trivial (Below.refl _ _) (Nat.le_refl _) (by simp) ?_; (case hd => rfl); (case hg => rfl); (case hr => first | (go_simp; done) | (go_simp; rfl)); (case hp => exact (Reps.one (show Kd.M (Kd.int .i64) _ _ _ 4 [.int .i64 4] from rfl) (Reps.one (show Kd.M (Kd.int .i64) _ _ _ 0 [.int .i64 0] from rfl) (Reps.none _ _)))); intro v446 w32 ho33 hb hg_ hnew_; clear hg_ hnew_; (first | rw [← Ny445.out] at ho33 | (simp only [Int.reduceToNat] at ho33; rw [← Ny445.out] at ho33)); have n0_ := Aside0.mk (Kd.R_elder' (by (with_reducible repeat (first | apply Kd.R_alloc | apply Kd.R_drewN | apply Kd.R_drew)); exact HO418.out) (Kd.R_base ho33) hb); have n1_ := Aside0.mk (Kd.S_below (by (with_reducible repeat (first | apply Kd.S_alloc | apply Kd.S_drewN | apply Kd.S_drew)); exact HO422.out) hb); have n2_ := Aside0.mk (Kd.R_elder' (by (with_reducible repeat (first | apply Kd.R_alloc | apply Kd.R_drewN | apply Kd.R_drew)); exact HO425.out) (Kd.R_base ho33) hb); have n3_ := Aside0.mk (Kd.S_below (by (with_reducible repeat (first | apply Kd.S_alloc | apply Kd.S_drewN | apply Kd.S_drew)); exact HO429.out) hb); have n4_ := Aside0.mk (Kd.R_elder' (by (with_reducible repeat (first | apply Kd.R_alloc | apply Kd.R_drewN | apply Kd.R_drew)); exact HO432.out) (Kd.R_base ho33) hb); have n5_ := Aside0.mk (Kd.S_below (by (with_reducible repeat (first | apply Kd.S_alloc | apply Kd.S_drewN | apply Kd.S_drew)); exact HO436.out) hb); have n6_ := Aside0.mk (Kd.R_elder' (by (with_reducible repeat (first | apply Kd.R_alloc | apply Kd.R_drewN | apply Kd.R_drew)); exact HO439.out) (Kd.R_base ho33) hb); have n7_ := Aside0.mk (Kd.R_elder' (by (with_reducible repeat (first | apply Kd.R_alloc | apply Kd.R_drewN | apply Kd.R_drew)); exact HO444.out) (Kd.R_base ho33) hb); have n8_ := Aside0.mk (Kd.R_lower (Kd.R_new' (Kd.R_new' (Kd.R_new' (Kd.R_new' (Kd.R_new' ho33 (Kd.R_lt (by (with_reducible repeat (first | apply Kd.R_alloc | apply Kd.R_drewN | apply Kd.R_drew)); exact HO418.out))) (Kd.R_lt (by (with_reducible repeat (first | apply Kd.R_alloc | apply Kd.R_drewN | apply Kd.R_drew)); exact HO425.out))) (Kd.R_lt (by (with_reducible repeat (first | apply Kd.R_alloc | apply Kd.R_drewN | apply Kd.R_drew)); exact HO432.out))) (Kd.R_lt (by (with_reducible repeat (first | apply Kd.R_alloc | apply Kd.R_drewN | apply Kd.R_drew)); exact HO439.out))) (Kd.R_lt (by (with_reducible repeat (first | apply Kd.R_alloc | apply Kd.R_drewN | apply Kd.R_drew)); exact HO444.out))) (below_size (by repeat (first | (with_reducible first | exact HB.out | apply below_alloc | apply pw_below_drewN | apply below_drew1) | exact HB.out)))); have n9_ := Aside0.mk (below_step (by repeat (first | (with_reducible first | exact HB.out | apply below_alloc | apply pw_below_drewN | apply below_drew1) | exact HB.out)) hb); clear HO418; clear HO422; clear HO425; clear HO429; clear HO432; clear HO436; clear HO439; clear HO444; clear HB; have HO418 := n0_; have HO422 := n1_; have HO425 := n2_; have HO429 := n3_; have HO432 := n4_; have HO436 := n5_; have HO439 := n6_; have HO444 := n7_; have HO447 := n8_; have HB := n9_; clear n0_ n1_ n2_ n3_ n4_ n5_ n6_ n7_ n8_ n9_; clear hb ho33; obtain ⟨Ao34, co34, eo34⟩ := Kd.R_slice HO444.out; subst eo34; obtain ⟨Ao35, co35, eo35⟩ := Kd.R_slice HO447.out; subst eo35) | (go_at_call 37; (with_reducible refine (bailiwickref01_Same.calls k _ _ t442 _ _ y445 t448 _ ?side1 ?side2 ?side3 ?side4 A11.out).mono ?_); (case side1 => repeat (first | exact (Kd.R_reads' HO444.out).2.2 | (with_reducible refine Kd.C_alloc ?_ _) | (with_reducible refine Kd.C_drewN ?_ _) | (with_reducible refine Kd.C_drew ?_))); (case side2 => exact (Kd.R_reads' HO444.out).2.1); (case side3 => repeat (first | exact (Kd.R_reads' HO447.out).2.2 | (with_reducible refine Kd.C_alloc ?_ _) | (with_reducible refine Kd.C_drewN ?_ _) | (with_reducible refine Kd.C_drew ?_))); (case side4 => exact (Kd.R_reads' HO447.out).2.1); rintro e w' ⟨rfl, ⟨nd, rfl⟩⟩))
      go_ret
      exact ⟨by first | rfl | (simp [errW_none, errW_some] <;> rfl) | (simp [*, errW_none, errW_some] <;> rfl), by repeat (first | (with_reducible first | exact HB.out | apply below_alloc | apply pw_below_drewN | apply below_drew1) | exact HB.out)⟩
     ·rw [if_neg c9] at H
      have c9b0 : (t440 == 9) = false := beq_eq_false_iff_ne.mpr c9
      have c9b1 : (t440 != 9) = true := bne_iff_ne.mpr c9
      obtain rfl := Option.some.inj H
      go_enter Try.func34, Try.ntmps34
      go_wp2_with (first | ((with_reducible refine gate_dst (N := 8) rfl ?_); (try (refine gate_guard (by rfl) ?_; dsimp only)); refine Kd.R_lit (Kd.int .i64) _ 3 ?hg (N := 8) ?hd (xs := ([4, 2] : List Int)) (inner := [.int .i64 4, .int .i64 2]) (ok := fun _ => True) (okp := fun _ => True) ?hr ?hp (fun _ hk => hk) trivial (Below.refl _ _) (Nat.le_refl _) (by simp) ?_; (case hd => rfl); (case hg => rfl); (case hr => first | (go_simp; done) | (go_simp; rfl)); (case hp => exact (Reps.one (show Kd.M (Kd.int .i64) _ _ _ 4 [.int .i64 4] from rfl) (Reps.one (show Kd.M (Kd.int .i64) _ _ _ 2 [.int .i64 2] from rfl) (Reps.none _ _)))); intro v417 w36 ho37 hb hg_ hnew_; clear hg_ hnew_; (first | rw [← Ny416.out] at ho37 | (simp only [Int.reduceToNat] at ho37; rw [← Ny416.out] at ho37)); have n0_ := Aside0.mk (Kd.R_lower ho37 (below_size (by repeat (first | (with_reducible first | exact HB.out | apply below_alloc | apply pw_below_drewN | apply below_drew1) | exact HB.out)))); have n1_ := Aside0.mk (below_step (by repeat (first | (with_reducible first | exact HB.out | apply below_alloc | apply pw_below_drewN | apply below_drew1) | exact HB.out)) hb); clear HB; have HO418 := n0_; have HB := n1_; clear n0_ n1_; clear hb ho37; obtain ⟨Ao38, co38, eo38⟩ := Kd.R_slice HO418.out; subst eo38) | ((with_reducible refine gate_callee (f := 35) rfl ?_); refine goesL_ (some 9) rfl rfl Try.func35 (by kernel_rfl) rfl #[.slice Ao38 y416.length co38] rfl (by (try simp only [List.map_toArray, List.map_cons, List.map_nil]); first | done | rfl | (simp only [List.length_drop, List.length_take]; rfl)) ?_; (with_reducible refine (pools_New.calls k _ _ y416 t419 t420 _ ?side1 ?side2 A1.out).mono ?_); (case side1 => repeat (first | exact (Kd.R_reads' HO418.out).2.2 | (with_reducible refine Kd.C_alloc ?_ _) | (with_reducible refine Kd.C_drewN ?_ _) | (with_reducible refine Kd.C_drew ?_))); (case side2 => exact (Kd.R_reads' HO418.out).2.1); rintro e w39 ⟨v421, rfl, ho0, hb⟩; refine ⟨_, rfl, ?_⟩; have n0_ := Aside0.mk (Kd.R_below (by (with_reducible repeat (first | apply Kd.R_alloc | apply Kd.R_drewN | apply Kd.R_drew)); exact HO418.out) hb); have n1_ := Aside0.mk (Kd.S_lower ho0 (below_size (by repeat (first | (with_reducible first | exact HB.out | apply below_alloc | apply pw_below_drewN | apply below_drew1) | exact HB.out)))); have n2_ := Aside0.mk (below_step (by repeat (first | (with_reducible first | exact HB.out | apply below_alloc | apply pw_below_drewN | apply below_drew1) | exact HB.out)) hb); clear HO418; clear HB; have HO418 := n0_; have HO422 := n1_; have HB := n2_; clear n0_ n1_ n2_; (try clear hb); (try clear hb2); (try clear hk); (try clear hi); (try clear ho0)) | ((with_reducible refine gate_dst (N := 14) rfl ?_); (try (refine gate_guard (by rfl) ?_; dsimp only)); refine Kd.R_lit (Kd.int .i64) _ 3 ?hg (N := 14) ?hd (xs := ([3, 0] : List Int)) (inner := [.int .i64 3, .int .i64 0]) (ok := fun _ => True) (okp := fun _ => True) ?hr ?hp (fun _ hk => hk) trivial (Below.refl _ _) (Nat.le_refl _) (by simp) ?_; (case hd => rfl); (case hg => rfl); (case hr => first | (go_simp; done) | (go_simp; rfl)); (case hp => exact (Reps.one (show Kd.M (Kd.int .i64) _ _ _ 3 [.int .i64 3] from rfl) (Reps.one (show Kd.M (Kd.int .i64) _ _ _ 0 [.int .i64 0] from rfl) (Reps.none _ _)))); intro v424 w40 ho41 hb hg_ hnew_; clear hg_ hnew_; (first | rw [← Ny423.out] at ho41 | (simp only [Int.reduceToNat] at ho41; rw [← Ny423.out] at ho41)); have n0_ := Aside0.mk (Kd.R_elder' (by (with_reducible repeat (first | apply Kd.R_alloc | apply Kd.R_drewN | apply Kd.R_drew)); exact HO418.out) (Kd.R_base ho41) hb); have n1_ := Aside0.mk (Kd.S_below (by (with_reducible repeat (first | apply Kd.S_alloc | apply Kd.S_drewN | apply Kd.S_drew)); exact HO422.out) hb); have n2_ := Aside0.mk (Kd.R_lower (Kd.R_new' ho41 (Kd.R_lt (by (with_reducible repeat (first | apply Kd.R_alloc | apply Kd.R_drewN | apply Kd.R_drew)); exact HO418.out))) (below_size (by repeat (first | (with_reducible first | exact HB.out | apply below_alloc | apply pw_below_drewN | apply below_drew1) | exact HB.out)))); have n3_ := Aside0.mk (below_step (by repeat (first | (with_reducible first | exact HB.out | apply below_alloc | apply pw_below_drewN | apply below_drew1) | exact HB.out)) hb); clear HO418; clear HO422; clear HB; have HO418 := n0_; have HO422 := n1_; have HO425 := n2_; have HB := n3_; clear n0_ n1_ n2_ n3_; clear hb ho41; obtain ⟨Ao42, co42, eo42⟩ := Kd.S_slice HO422.out; subst eo42; obtain ⟨Ao43, co43, eo43⟩ := Kd.R_slice HO425.out; subst eo43) | ((with_reducible refine gate_callee (f := 42) rfl ?_); refine goesL_ (some 15) rfl rfl Try.func42 (by kernel_rfl) rfl #[.slice Ao42 t419.length co42, .int .i64 0, .int .i64 5, .slice Ao43 y423.length co43] rfl (by (try simp only [List.map_toArray, List.map_cons, List.map_nil]); first | done | rfl | (simp only [List.length_drop, List.length_take]; rfl)) ?_; (with_reducible refine (pools_Take.calls k _ _ t419 0 5 _ _ y423 t426 t427 _ ?side1 ?side2 ?side3 ?side4 A2.out).mono ?_); (case side1 => repeat (first | exact (Kd.S_reads' HO422.out).2.2 | (with_reducible refine Kd.C_alloc ?_ _) | (with_reducible refine Kd.C_drewN ?_ _) | (with_reducible refine Kd.C_drew ?_))); (case side2 => exact (Kd.S_reads' HO422.out).2.1); (case side3 => repeat (first | exact (Kd.R_reads' HO425.out).2.2 | (with_reducible refine Kd.C_alloc ?_ _) | (with_reducible refine Kd.C_drewN ?_ _) | (with_reducible refine Kd.C_drew ?_))); (case side4 => exact (Kd.R_reads' HO425.out).2.1); rintro e w44 ⟨v428, rfl, ho0, hb⟩; refine ⟨_, rfl, ?_⟩; have n0_ := Aside0.mk (Kd.R_below (by (with_reducible repeat (first | apply Kd.R_alloc | apply Kd.R_drewN | apply Kd.R_drew)); exact HO418.out) hb); have n1_ := Aside0.mk (Kd.S_elder' (by (with_reducible repeat (first | apply Kd.S_alloc | apply Kd.S_drewN | apply Kd.S_drew)); exact HO422.out) (Kd.S_base ho0) hb); have n2_ := Aside0.mk (Kd.R_below (by (with_reducible repeat (first | apply Kd.R_alloc | apply Kd.R_drewN | apply Kd.R_drew)); exact HO425.out) hb); have n3_ := Aside0.mk (Kd.S_lower (Kd.S_new' ho0 (Kd.S_lt (by (with_reducible repeat (first | apply Kd.S_alloc | apply Kd.S_drewN | apply Kd.S_drew)); exact HO422.out))) (below_size (by repeat (first | (with_reducible first | exact HB.out | apply below_alloc | apply pw_below_drewN | apply below_drew1) | exact HB.out)))); have n4_ := Aside0.mk (below_step (by repeat (first | (with_reducible first | exact HB.out | apply below_alloc | apply pw_below_drewN | apply below_drew1) | exact HB.out)) hb); clear HO418; clear HO422; clear HO425; clear HB; have HO418 := n0_; have HO422 := n1_; have HO425 := n2_; have HO429 := n3_; have HB := n4_; clear n0_ n1_ n2_ n3_ n4_; (try clear hb); (try clear hb2); (try clear hk); (try clear hi); (try clear ho0)) | ((with_reducible refine gate_dst (N := 20) rfl ?_); (try (refine gate_guard (by rfl) ?_; dsimp only)); refine Kd.R_lit (Kd.int .i64) _ 3 ?hg (N := 20) ?hd (xs := ([0, 2] : List Int)) (inner := [.int .i64 0, .int .i64 2]) (ok := fun _ => True) (okp := fun _ => True) ?hr ?hp (fun _ hk => hk) trivial (Below.refl _ _) (Nat.le_refl _) (by simp) ?_; (case hd => rfl); (case hg => rfl); (case hr => first | (go_simp; done) | (go_simp; rfl)); (case hp => exact (Reps.one (show Kd.M (Kd.int .i64) _ _ _ 0 [.int .i64 0] from rfl) (Reps.one (show Kd.M (Kd.int .i64) _ _ _ 2 [.int .i64 2] from rfl) (Reps.none _ _)))); intro v431 w45 ho46 hb hg_ hnew_; clear hg_ hnew_; (first | rw [← Ny430.out] at ho46 | (simp only [Int.reduceToNat] at ho46; rw [← Ny430.out] at ho46)); have n0_ := Aside0.mk (Kd.R_elder' (by (with_reducible repeat (first | apply Kd.R_alloc | apply Kd.R_drewN | apply Kd.R_drew)); exact HO418.out) (Kd.R_base ho46) hb); have n1_ := Aside0.mk (Kd.S_below (by (with_reducible repeat (first | apply Kd.S_alloc | apply Kd.S_drewN | apply Kd.S_drew)); exact HO422.out) hb); have n2_ := Aside0.mk (Kd.R_elder' (by (with_reducible repeat (first | apply Kd.R_alloc | apply Kd.R_drewN | apply Kd.R_drew)); exact HO425.out) (Kd.R_base ho46) hb); have n3_ := Aside0.mk (Kd.S_below (by (with_reducible repeat (first | apply Kd.S_alloc | apply Kd.S_drewN | apply Kd.S_drew)); exact HO429.out) hb); have n4_ := Aside0.mk (Kd.R_lower (Kd.R_new' (Kd.R_new' ho46 (Kd.R_lt (by (with_reducible repeat (first | apply Kd.R_alloc | apply Kd.R_drewN | apply Kd.R_drew)); exact HO418.out))) (Kd.R_lt (by (with_reducible repeat (first | apply Kd.R_alloc | apply Kd.R_drewN | apply Kd.R_drew)); exact HO425.out))) (below_size (by repeat (first | (with_reducible first | exact HB.out | apply below_alloc | apply pw_below_drewN | apply below_drew1) | exact HB.out)))); have n5_ := Aside0.mk (below_step (by repeat (first | (with_reducible first | exact HB.out | apply below_alloc | apply pw_below_drewN | apply below_drew1) | exact HB.out)) hb); clear HO418; clear HO422; clear HO425; clear HO429; clear HB; have HO418 := n0_; have HO422 := n1_; have HO425 := n2_; have HO429 := n3_; have HO432 := n4_; have HB := n5_; clear n0_ n1_ n2_ n3_ n4_ n5_; clear hb ho46; obtain ⟨Ao47, co47, eo47⟩ := Kd.S_slice HO429.out; subst eo47; obtain ⟨Ao48, co48, eo48⟩ := Kd.R_slice HO432.out; subst eo48) | ((with_reducible refine gate_callee (f := 42) rfl ?_); refine goesL_ (some 21) rfl rfl Try.func42 (by kernel_rfl) rfl #[.slice Ao47 t426.length co47, .int .i64 0, .int .i64 9, .slice Ao48 y430.length co48] rfl (by (try simp only [List.map_toArray, List.map_cons, List.map_nil]); first | done | rfl | (simp only [List.length_drop, List.length_take]; rfl)) ?_; (with_reducible refine (pools_Take.calls k _ _ t426 0 9 _ _ y430 t433 t434 _ ?side1 ?side2 ?side3 ?side4 A3.out).mono ?_); (case side1 => repeat (first | exact (Kd.S_reads' HO429.out).2.2 | (with_reducible refine Kd.C_alloc ?_ _) | (with_reducible refine Kd.C_drewN ?_ _) | (with_reducible refine Kd.C_drew ?_))); (case side2 => exact (Kd.S_reads' HO429.out).2.1); (case side3 => repeat (first | exact (Kd.R_reads' HO432.out).2.2 | (with_reducible refine Kd.C_alloc ?_ _) | (with_reducible refine Kd.C_drewN ?_ _) | (with_reducible refine Kd.C_drew ?_))); (case side4 => exact (Kd.R_reads' HO432.out).2.1); rintro e w49 ⟨v435, rfl, ho0, hb⟩; refine ⟨_, rfl, ?_⟩; have n0_ := Aside0.mk (Kd.R_below (by (with_reducible repeat (first | apply Kd.R_alloc | apply Kd.R_drewN | apply Kd.R_drew)); exact HO418.out) hb); have n1_ := Aside0.mk (Kd.S_elder' (by (with_reducible repeat (first | apply Kd.S_alloc | apply Kd.S_drewN | apply Kd.S_drew)); exact HO422.out) (Kd.S_base ho0) hb); have n2_ := Aside0.mk (Kd.R_below (by (with_reducible repeat (first | apply Kd.R_alloc | apply Kd.R_drewN | apply Kd.R_drew)); exact HO425.out) hb); have n3_ := Aside0.mk (Kd.S_elder' (by (with_reducible repeat (first | apply Kd.S_alloc | apply Kd.S_drewN | apply Kd.S_drew)); exact HO429.out) (Kd.S_base ho0) hb); have n4_ := Aside0.mk (Kd.R_below (by (with_reducible repeat (first | apply Kd.R_alloc | apply Kd.R_drewN | apply Kd.R_drew)); exact HO432.out) hb); have n5_ := Aside0.mk (Kd.S_lower (Kd.S_new' (Kd.S_new' ho0 (Kd.S_lt (by (with_reducible repeat (first | apply Kd.S_alloc | apply Kd.S_drewN | apply Kd.S_drew)); exact HO422.out))) (Kd.S_lt (by (with_reducible repeat (first | apply Kd.S_alloc | apply Kd.S_drewN | apply Kd.S_drew)); exact HO429.out))) (below_size (by repeat (first | (with_reducible first | exact HB.out | apply below_alloc | apply pw_below_drewN | apply below_drew1) | exact HB.out)))); have n6_ := Aside0.mk (below_step (by repeat (first | (with_reducible first | exact HB.out | apply below_alloc | apply pw_below_drewN | apply below_drew1) | exact HB.out)) hb); clear HO418; clear HO422; clear HO425; clear HO429; clear HO432; clear HB; have HO418 := n0_; have HO422 := n1_; have HO425 := n2_; have HO429 := n3_; have HO432 := n4_; have HO436 := n5_; have HB := n6_; clear n0_ n1_ n2_ n3_ n4_ n5_ n6_; (try clear hb); (try clear hb2); (try clear hk); (try clear hi); (try clear ho0)) | ((with_reducible refine gate_dst (N := 26) rfl ?_); (try (refine gate_guard (by rfl) ?_; dsimp only)); refine Kd.R_lit (Kd.int .i64) _ 3 ?hg (N := 26) ?hd (xs := ([2, 1] : List Int)) (inner := [.int .i64 2, .int .i64 1]) (ok := fun _ => True) (okp := fun _ => True) ?hr ?hp (fun _ hk => hk) trivial (Below.refl _ _) (Nat.le_refl _) (by simp) ?_; (case hd => rfl); (case hg => rfl); (case hr => first | (go_simp; done) | (go_simp; rfl)); (case hp => exact (Reps.one (show Kd.M (Kd.int .i64) _ _ _ 2 [.int .i64 2] from rfl) (Reps.one (show Kd.M (Kd.int .i64) _ _ _ 1 [.int .i64 1] from rfl) (Reps.none _ _)))); intro v438 w50 ho51 hb hg_ hnew_; clear hg_ hnew_; (first | rw [← Ny437.out] at ho51 | (simp only [Int.reduceToNat] at ho51; rw [← Ny437.out] at ho51)); have n0_ := Aside0.mk (Kd.R_elder' (by (with_reducible repeat (first | apply Kd.R_alloc | apply Kd.R_drewN | apply Kd.R_drew)); exact HO418.out) (Kd.R_base ho51) hb); have n1_ := Aside0.mk (Kd.S_below (by (with_reducible repeat (first | apply Kd.S_alloc | apply Kd.S_drewN | apply Kd.S_drew)); exact HO422.out) hb); have n2_ := Aside0.mk (Kd.R_elder' (by (with_reducible repeat (first | apply Kd.R_alloc | apply Kd.R_drewN | apply Kd.R_drew)); exact HO425.out) (Kd.R_base ho51) hb); have n3_ := Aside0.mk (Kd.S_below (by (with_reducible repeat (first | apply Kd.S_alloc | apply Kd.S_drewN | apply Kd.S_drew)); exact HO429.out) hb); have n4_ := Aside0.mk (Kd.R_elder' (by (with_reducible repeat (first | apply Kd.R_alloc | apply Kd.R_drewN | apply Kd.R_drew)); exact HO432.out) (Kd.R_base ho51) hb); have n5_ := Aside0.mk (Kd.S_below (by (with_reducible repeat (first | apply Kd.S_alloc | apply Kd.S_drewN | apply Kd.S_drew)); exact HO436.out) hb); have n6_ := Aside0.mk (Kd.R_lower (Kd.R_new' (Kd.R_new' (Kd.R_new' ho51 (Kd.R_lt (by (with_reducible repeat (first | apply Kd.R_alloc | apply Kd.R_drewN | apply Kd.R_drew)); exact HO418.out))) (Kd.R_lt (by (with_reducible repeat (first | apply Kd.R_alloc | apply Kd.R_drewN | apply Kd.R_drew)); exact HO425.out))) (Kd.R_lt (by (with_reducible repeat (first | apply Kd.R_alloc | apply Kd.R_drewN | apply Kd.R_drew)); exact HO432.out))) (below_size (by repeat (first | (with_reducible first | exact HB.out | apply below_alloc | apply pw_below_drewN | apply below_drew1) | exact HB.out)))); have n7_ := Aside0.mk (below_step (by repeat (first | (with_reducible first | exact HB.out | apply below_alloc | apply pw_below_drewN | apply below_drew1) | exact HB.out)) hb); clear HO418; clear HO422; clear HO425; clear HO429; clear HO432; clear HO436; clear HB; have HO418 := n0_; have HO422 := n1_; have HO425 := n2_; have HO429 := n3_; have HO432 := n4_; have HO436 := n5_; have HO439 := n6_; have HB := n7_; clear n0_ n1_ n2_ n3_ n4_ n5_ n6_ n7_; clear hb ho51; obtain ⟨Ao52, co52, eo52⟩ := Kd.S_slice HO436.out; subst eo52; obtain ⟨Ao53, co53, eo53⟩ := Kd.R_slice HO439.out; subst eo53) | ((with_reducible refine gate_callee (f := 40) rfl ?_); refine goesL_ (some 27) rfl rfl Try.func40 (by kernel_rfl) rfl #[.slice Ao52 t433.length co52, .int .i64 1, .int .i64 2, .slice Ao53 y437.length co53] rfl (by (try simp only [List.map_toArray, List.map_cons, List.map_nil]); first | done | rfl | (simp only [List.length_drop, List.length_take]; rfl)) ?_; (with_reducible refine (pools_First.calls k _ _ t433 1 2 _ _ y437 t440 true _ ?side1 ?side2 ?side3 ?side4 A4.out).mono ?_); (case side1 => repeat (first | exact (Kd.S_reads' HO436.out).2.2 | (with_reducible refine Kd.C_alloc ?_ _) | (with_reducible refine Kd.C_drewN ?_ _) | (with_reducible refine Kd.C_drew ?_))); (case side2 => exact (Kd.S_reads' HO436.out).2.1); (case side3 => repeat (first | exact (Kd.R_reads' HO439.out).2.2 | (with_reducible refine Kd.C_alloc ?_ _) | (with_reducible refine Kd.C_drewN ?_ _) | (with_reducible refine Kd.C_drew ?_))); (case side4 => exact (Kd.R_reads' HO439.out).2.1); rintro e w54 ⟨rfl, hb⟩; refine ⟨_, rfl, ?_⟩; have n0_ := Aside0.mk (Kd.R_below (by (with_reducible repeat (first | apply Kd.R_alloc | apply Kd.R_drewN | apply Kd.R_drew)); exact HO418.out) hb); have n1_ := Aside0.mk (Kd.S_below (by (with_reducible repeat (first | apply Kd.S_alloc | apply Kd.S_drewN | apply Kd.S_drew)); exact HO422.out) hb); have n2_ := Aside0.mk (Kd.R_below (by (with_reducible repeat (first | apply Kd.R_alloc | apply Kd.R_drewN | apply Kd.R_drew)); exact HO425.out) hb); have n3_ := Aside0.mk (Kd.S_below (by (with_reducible repeat (first | apply Kd.S_alloc | apply Kd.S_drewN | apply Kd.S_drew)); exact HO429.out) hb); have n4_ := Aside0.mk (Kd.R_below (by (with_reducible repeat (first | apply Kd.R_alloc | apply Kd.R_drewN | apply Kd.R_drew)); exact HO432.out) hb); have n5_ := Aside0.mk (Kd.S_below (by (with_reducible repeat (first | apply Kd.S_alloc | apply Kd.S_drewN | apply Kd.S_drew)); exact HO436.out) hb); have n6_ := Aside0.mk (Kd.R_below (by (with_reducible repeat (first | apply Kd.R_alloc | apply Kd.R_drewN | apply Kd.R_drew)); exact HO439.out) hb); have n7_ := Aside0.mk (below_step (by repeat (first | (with_reducible first | exact HB.out | apply below_alloc | apply pw_below_drewN | apply below_drew1) | exact HB.out)) hb); clear HO418; clear HO422; clear HO425; clear HO429; clear HO432; clear HO436; clear HO439; clear HB; have HO418 := n0_; have HO422 := n1_; have HO425 := n2_; have HO429 := n3_; have HO432 := n4_; have HO436 := n5_; have HO439 := n6_; have HB := n7_; clear n0_ n1_ n2_ n3_ n4_ n5_ n6_ n7_; (try clear hb); (try clear hb2); (try clear hk); (try clear hi)))
      go_ret
      exact ⟨by first | rfl | (simp [errW_none, errW_some] <;> rfl) | (simp [*, errW_none, errW_some] <;> rfl), by repeat (first | (with_reducible first | exact HB.out | apply below_alloc | apply pw_below_drewN | apply below_drew1) | exact HB.out)⟩
    ·replace c8 := Bool.eq_false_iff.mpr c8
     subst c8
     have H1 : (some false) = some r := by rw [if_neg (show ¬ (false = true) by decide)] at H; exact H
     clear H
     have H := H1
     clear H1
     obtain rfl := Option.some.inj H
     go_enter Try.func34, Try.ntmps34
     go_wp2_with (first | ((with_reducible refine gate_dst (N := 8) rfl ?_); (try (refine gate_guard (by rfl) ?_; dsimp only)); refine Kd.R_lit (Kd.int .i64) _ 3 ?hg (N := 8) ?hd (xs := ([4, 2] : List Int)) (inner := [.int .i64 4, .int .i64 2]) (ok := fun _ => True) (okp := fun _ => True) ?hr ?hp (fun _ hk => hk) trivial (Below.refl _ _) (Nat.le_refl _) (by simp) ?_; (case hd => rfl); (case hg => rfl); (case hr => first | (go_simp; done) | (go_simp; rfl)); (case hp => exact (Reps.one (show Kd.M (Kd.int .i64) _ _ _ 4 [.int .i64 4] from rfl) (Reps.one (show Kd.M (Kd.int .i64) _ _ _ 2 [.int .i64 2] from rfl) (Reps.none _ _)))); intro v417 w55 ho56 hb hg_ hnew_; clear hg_ hnew_; (first | rw [← Ny416.out] at ho56 | (simp only [Int.reduceToNat] at ho56; rw [← Ny416.out] at ho56)); have n0_ := Aside0.mk (Kd.R_lower ho56 (below_size (by repeat (first | (with_reducible first | exact HB.out | apply below_alloc | apply pw_below_drewN | apply below_drew1) | exact HB.out)))); have n1_ := Aside0.mk (below_step (by repeat (first | (with_reducible first | exact HB.out | apply below_alloc | apply pw_below_drewN | apply below_drew1) | exact HB.out)) hb); clear HB; have HO418 := n0_; have HB := n1_; clear n0_ n1_; clear hb ho56; obtain ⟨Ao57, co57, eo57⟩ := Kd.R_slice HO418.out; subst eo57) | ((with_reducible refine gate_callee (f := 35) rfl ?_); refine goesL_ (some 9) rfl rfl Try.func35 (by kernel_rfl) rfl #[.slice Ao57 y416.length co57] rfl (by (try simp only [List.map_toArray, List.map_cons, List.map_nil]); first | done | rfl | (simp only [List.length_drop, List.length_take]; rfl)) ?_; (with_reducible refine (pools_New.calls k _ _ y416 t419 t420 _ ?side1 ?side2 A1.out).mono ?_); (case side1 => repeat (first | exact (Kd.R_reads' HO418.out).2.2 | (with_reducible refine Kd.C_alloc ?_ _) | (with_reducible refine Kd.C_drewN ?_ _) | (with_reducible refine Kd.C_drew ?_))); (case side2 => exact (Kd.R_reads' HO418.out).2.1); rintro e w58 ⟨v421, rfl, ho0, hb⟩; refine ⟨_, rfl, ?_⟩; have n0_ := Aside0.mk (Kd.R_below (by (with_reducible repeat (first | apply Kd.R_alloc | apply Kd.R_drewN | apply Kd.R_drew)); exact HO418.out) hb); have n1_ := Aside0.mk (Kd.S_lower ho0 (below_size (by repeat (first | (with_reducible first | exact HB.out | apply below_alloc | apply pw_below_drewN | apply below_drew1) | exact HB.out)))); have n2_ := Aside0.mk (below_step (by repeat (first | (with_reducible first | exact HB.out | apply below_alloc | apply pw_below_drewN | apply below_drew1) | exact HB.out)) hb); clear HO418; clear HB; have HO418 := n0_; have HO422 := n1_; have HB := n2_; clear n0_ n1_ n2_; (try clear hb); (try clear hb2); (try clear hk); (try clear hi); (try clear ho0)) | ((with_reducible refine gate_dst (N := 14) rfl ?_); (try (refine gate_guard (by rfl) ?_; dsimp only)); refine Kd.R_lit (Kd.int .i64) _ 3 ?hg (N := 14) ?hd (xs := ([3, 0] : List Int)) (inner := [.int .i64 3, .int .i64 0]) (ok := fun _ => True) (okp := fun _ => True) ?hr ?hp (fun _ hk => hk) trivial (Below.refl _ _) (Nat.le_refl _) (by simp) ?_; (case hd => rfl); (case hg => rfl); (case hr => first | (go_simp; done) | (go_simp; rfl)); (case hp => exact (Reps.one (show Kd.M (Kd.int .i64) _ _ _ 3 [.int .i64 3] from rfl) (Reps.one (show Kd.M (Kd.int .i64) _ _ _ 0 [.int .i64 0] from rfl) (Reps.none _ _)))); intro v424 w59 ho60 hb hg_ hnew_; clear hg_ hnew_; (first | rw [← Ny423.out] at ho60 | (simp only [Int.reduceToNat] at ho60; rw [← Ny423.out] at ho60)); have n0_ := Aside0.mk (Kd.R_elder' (by (with_reducible repeat (first | apply Kd.R_alloc | apply Kd.R_drewN | apply Kd.R_drew)); exact HO418.out) (Kd.R_base ho60) hb); have n1_ := Aside0.mk (Kd.S_below (by (with_reducible repeat (first | apply Kd.S_alloc | apply Kd.S_drewN | apply Kd.S_drew)); exact HO422.out) hb); have n2_ := Aside0.mk (Kd.R_lower (Kd.R_new' ho60 (Kd.R_lt (by (with_reducible repeat (first | apply Kd.R_alloc | apply Kd.R_drewN | apply Kd.R_drew)); exact HO418.out))) (below_size (by repeat (first | (with_reducible first | exact HB.out | apply below_alloc | apply pw_below_drewN | apply below_drew1) | exact HB.out)))); have n3_ := Aside0.mk (below_step (by repeat (first | (with_reducible first | exact HB.out | apply below_alloc | apply pw_below_drewN | apply below_drew1) | exact HB.out)) hb); clear HO418; clear HO422; clear HB; have HO418 := n0_; have HO422 := n1_; have HO425 := n2_; have HB := n3_; clear n0_ n1_ n2_ n3_; clear hb ho60; obtain ⟨Ao61, co61, eo61⟩ := Kd.S_slice HO422.out; subst eo61; obtain ⟨Ao62, co62, eo62⟩ := Kd.R_slice HO425.out; subst eo62) | ((with_reducible refine gate_callee (f := 42) rfl ?_); refine goesL_ (some 15) rfl rfl Try.func42 (by kernel_rfl) rfl #[.slice Ao61 t419.length co61, .int .i64 0, .int .i64 5, .slice Ao62 y423.length co62] rfl (by (try simp only [List.map_toArray, List.map_cons, List.map_nil]); first | done | rfl | (simp only [List.length_drop, List.length_take]; rfl)) ?_; (with_reducible refine (pools_Take.calls k _ _ t419 0 5 _ _ y423 t426 t427 _ ?side1 ?side2 ?side3 ?side4 A2.out).mono ?_); (case side1 => repeat (first | exact (Kd.S_reads' HO422.out).2.2 | (with_reducible refine Kd.C_alloc ?_ _) | (with_reducible refine Kd.C_drewN ?_ _) | (with_reducible refine Kd.C_drew ?_))); (case side2 => exact (Kd.S_reads' HO422.out).2.1); (case side3 => repeat (first | exact (Kd.R_reads' HO425.out).2.2 | (with_reducible refine Kd.C_alloc ?_ _) | (with_reducible refine Kd.C_drewN ?_ _) | (with_reducible refine Kd.C_drew ?_))); (case side4 => exact (Kd.R_reads' HO425.out).2.1); rintro e w63 ⟨v428, rfl, ho0, hb⟩; refine ⟨_, rfl, ?_⟩; have n0_ := Aside0.mk (Kd.R_below (by (with_reducible repeat (first | apply Kd.R_alloc | apply Kd.R_drewN | apply Kd.R_drew)); exact HO418.out) hb); have n1_ := Aside0.mk (Kd.S_elder' (by (with_reducible repeat (first | apply Kd.S_alloc | apply Kd.S_drewN | apply Kd.S_drew)); exact HO422.out) (Kd.S_base ho0) hb); have n2_ := Aside0.mk (Kd.R_below (by (with_reducible repeat (first | apply Kd.R_alloc | apply Kd.R_drewN | apply Kd.R_drew)); exact HO425.out) hb); have n3_ := Aside0.mk (Kd.S_lower (Kd.S_new' ho0 (Kd.S_lt (by (with_reducible repeat (first | apply Kd.S_alloc | apply Kd.S_drewN | apply Kd.S_drew)); exact HO422.out))) (below_size (by repeat (first | (with_reducible first | exact HB.out | apply below_alloc | apply pw_below_drewN | apply below_drew1) | exact HB.out)))); have n4_ := Aside0.mk (below_step (by repeat (first | (with_reducible first | exact HB.out | apply below_alloc | apply pw_below_drewN | apply below_drew1) | exact HB.out)) hb); clear HO418; clear HO422; clear HO425; clear HB; have HO418 := n0_; have HO422 := n1_; have HO425 := n2_; have HO429 := n3_; have HB := n4_; clear n0_ n1_ n2_ n3_ n4_; (try clear hb); (try clear hb2); (try clear hk); (try clear hi); (try clear ho0)) | ((with_reducible refine gate_dst (N := 20) rfl ?_); (try (refine gate_guard (by rfl) ?_; dsimp only)); refine Kd.R_lit (Kd.int .i64) _ 3 ?hg (N := 20) ?hd (xs := ([0, 2] : List Int)) (inner := [.int .i64 0, .int .i64 2]) (ok := fun _ => True) (okp := fun _ => True) ?hr ?hp (fun _ hk => hk) trivial (Below.refl _ _) (Nat.le_refl _) (by simp) ?_; (case hd => rfl); (case hg => rfl); (case hr => first | (go_simp; done) | (go_simp; rfl)); (case hp => exact (Reps.one (show Kd.M (Kd.int .i64) _ _ _ 0 [.int .i64 0] from rfl) (Reps.one (show Kd.M (Kd.int .i64) _ _ _ 2 [.int .i64 2] from rfl) (Reps.none _ _)))); intro v431 w64 ho65 hb hg_ hnew_; clear hg_ hnew_; (first | rw [← Ny430.out] at ho65 | (simp only [Int.reduceToNat] at ho65; rw [← Ny430.out] at ho65)); have n0_ := Aside0.mk (Kd.R_elder' (by (with_reducible repeat (first | apply Kd.R_alloc | apply Kd.R_drewN | apply Kd.R_drew)); exact HO418.out) (Kd.R_base ho65) hb); have n1_ := Aside0.mk (Kd.S_below (by (with_reducible repeat (first | apply Kd.S_alloc | apply Kd.S_drewN | apply Kd.S_drew)); exact HO422.out) hb); have n2_ := Aside0.mk (Kd.R_elder' (by (with_reducible repeat (first | apply Kd.R_alloc | apply Kd.R_drewN | apply Kd.R_drew)); exact HO425.out) (Kd.R_base ho65) hb); have n3_ := Aside0.mk (Kd.S_below (by (with_reducible repeat (first | apply Kd.S_alloc | apply Kd.S_drewN | apply Kd.S_drew)); exact HO429.out) hb); have n4_ := Aside0.mk (Kd.R_lower (Kd.R_new' (Kd.R_new' ho65 (Kd.R_lt (by (with_reducible repeat (first | apply Kd.R_alloc | apply Kd.R_drewN | apply Kd.R_drew)); exact HO418.out))) (Kd.R_lt (by (with_reducible repeat (first | apply Kd.R_alloc | apply Kd.R_drewN | apply Kd.R_drew)); exact HO425.out))) (below_size (by repeat (first | (with_reducible first | exact HB.out | apply below_alloc | apply pw_below_drewN | apply below_drew1) | exact HB.out)))); have n5_ := Aside0.mk (below_step (by repeat (first | (with_reducible first | exact HB.out | apply below_alloc | apply pw_below_drewN | apply below_drew1) | exact HB.out)) hb); clear HO418; clear HO422; clear HO425; clear HO429; clear HB; have HO418 := n0_; have HO422 := n1_; have HO425 := n2_; have HO429 := n3_; have HO432 := n4_; have HB := n5_; clear n0_ n1_ n2_ n3_ n4_ n5_; clear hb ho65; obtain ⟨Ao66, co66, eo66⟩ := Kd.S_slice HO429.out; subst eo66; obtain ⟨Ao67, co67, eo67⟩ := Kd.R_slice HO432.out; subst eo67) | ((with_reducible refine gate_callee (f := 42) rfl ?_); refine goesL_ (some 21) rfl rfl Try.func42 (by kernel_rfl) rfl #[.slice Ao66 t426.length co66, .int .i64 0, .int .i64 9, .slice Ao67 y430.length co67] rfl (by (try simp only [List.map_toArray, List.map_cons, List.map_nil]); first | done | rfl | (simp only [List.length_drop, List.length_take]; rfl)) ?_; (with_reducible refine (pools_Take.calls k _ _ t426 0 9 _ _ y430 t433 t434 _ ?side1 ?side2 ?side3 ?side4 A3.out).mono ?_); (case side1 => repeat (first | exact (Kd.S_reads' HO429.out).2.2 | (with_reducible refine Kd.C_alloc ?_ _) | (with_reducible refine Kd.C_drewN ?_ _) | (with_reducible refine Kd.C_drew ?_))); (case side2 => exact (Kd.S_reads' HO429.out).2.1); (case side3 => repeat (first | exact (Kd.R_reads' HO432.out).2.2 | (with_reducible refine Kd.C_alloc ?_ _) | (with_reducible refine Kd.C_drewN ?_ _) | (with_reducible refine Kd.C_drew ?_))); (case side4 => exact (Kd.R_reads' HO432.out).2.1); rintro e w68 ⟨v435, rfl, ho0, hb⟩; refine ⟨_, rfl, ?_⟩; have n0_ := Aside0.mk (Kd.R_below (by (with_reducible repeat (first | apply Kd.R_alloc | apply Kd.R_drewN | apply Kd.R_drew)); exact HO418.out) hb); have n1_ := Aside0.mk (Kd.S_elder' (by (with_reducible repeat (first | apply Kd.S_alloc | apply Kd.S_drewN | apply Kd.S_drew)); exact HO422.out) (Kd.S_base ho0) hb); have n2_ := Aside0.mk (Kd.R_below (by (with_reducible repeat (first | apply Kd.R_alloc | apply Kd.R_drewN | apply Kd.R_drew)); exact HO425.out) hb); have n3_ := Aside0.mk (Kd.S_elder' (by (with_reducible repeat (first | apply Kd.S_alloc | apply Kd.S_drewN | apply Kd.S_drew)); exact HO429.out) (Kd.S_base ho0) hb); have n4_ := Aside0.mk (Kd.R_below (by (with_reducible repeat (first | apply Kd.R_alloc | apply Kd.R_drewN | apply Kd.R_drew)); exact HO432.out) hb); have n5_ := Aside0.mk (Kd.S_lower (Kd.S_new' (Kd.S_new' ho0 (Kd.S_lt (by (with_reducible repeat (first | apply Kd.S_alloc | apply Kd.S_drewN | apply Kd.S_drew)); exact HO422.out))) (Kd.S_lt (by (with_reducible repeat (first | apply Kd.S_alloc | apply Kd.S_drewN | apply Kd.S_drew)); exact HO429.out))) (below_size (by repeat (first | (with_reducible first | exact HB.out | apply below_alloc | apply pw_below_drewN | apply below_drew1) | exact HB.out)))); have n6_ := Aside0.mk (below_step (by repeat (first | (with_reducible first | exact HB.out | apply below_alloc | apply pw_below_drewN | apply below_drew1) | exact HB.out)) hb); clear HO418; clear HO422; clear HO425; clear HO429; clear HO432; clear HB; have HO418 := n0_; have HO422 := n1_; have HO425 := n2_; have HO429 := n3_; have HO432 := n4_; have HO436 := n5_; have HB := n6_; clear n0_ n1_ n2_ n3_ n4_ n5_ n6_; (try clear hb); (try clear hb2); (try clear hk); (try clear hi); (try clear ho0)) | ((with_reducible refine gate_dst (N := 26) rfl ?_); (try (refine gate_guard (by rfl) ?_; dsimp only)); refine Kd.R_lit (Kd.int .i64) _ 3 ?hg (N := 26) ?hd (xs := ([2, 1] : List Int)) (inner := [.int .i64 2, .int .i64 1]) (ok := fun _ => True) (okp := fun _ => True) ?hr ?hp (fun _ hk => hk) trivial (Below.refl _ _) (Nat.le_refl _) (by simp) ?_; (case hd => rfl); (case hg => rfl); (case hr => first | (go_simp; done) | (go_simp; rfl)); (case hp => exact (Reps.one (show Kd.M (Kd.int .i64) _ _ _ 2 [.int .i64 2] from rfl) (Reps.one (show Kd.M (Kd.int .i64) _ _ _ 1 [.int .i64 1] from rfl) (Reps.none _ _)))); intro v438 w69 ho70 hb hg_ hnew_; clear hg_ hnew_; (first | rw [← Ny437.out] at ho70 | (simp only [Int.reduceToNat] at ho70; rw [← Ny437.out] at ho70)); have n0_ := Aside0.mk (Kd.R_elder' (by (with_reducible repeat (first | apply Kd.R_alloc | apply Kd.R_drewN | apply Kd.R_drew)); exact HO418.out) (Kd.R_base ho70) hb); have n1_ := Aside0.mk (Kd.S_below (by (with_reducible repeat (first | apply Kd.S_alloc | apply Kd.S_drewN | apply Kd.S_drew)); exact HO422.out) hb); have n2_ := Aside0.mk (Kd.R_elder' (by (with_reducible repeat (first | apply Kd.R_alloc | apply Kd.R_drewN | apply Kd.R_drew)); exact HO425.out) (Kd.R_base ho70) hb); have n3_ := Aside0.mk (Kd.S_below (by (with_reducible repeat (first | apply Kd.S_alloc | apply Kd.S_drewN | apply Kd.S_drew)); exact HO429.out) hb); have n4_ := Aside0.mk (Kd.R_elder' (by (with_reducible repeat (first | apply Kd.R_alloc | apply Kd.R_drewN | apply Kd.R_drew)); exact HO432.out) (Kd.R_base ho70) hb); have n5_ := Aside0.mk (Kd.S_below (by (with_reducible repeat (first | apply Kd.S_alloc | apply Kd.S_drewN | apply Kd.S_drew)); exact HO436.out) hb); have n6_ := Aside0.mk (Kd.R_lower (Kd.R_new' (Kd.R_new' (Kd.R_new' ho70 (Kd.R_lt (by (with_reducible repeat (first | apply Kd.R_alloc | apply Kd.R_drewN | apply Kd.R_drew)); exact HO418.out))) (Kd.R_lt (by (with_reducible repeat (first | apply Kd.R_alloc | apply Kd.R_drewN | apply Kd.R_drew)); exact HO425.out))) (Kd.R_lt (by (with_reducible repeat (first | apply Kd.R_alloc | apply Kd.R_drewN | apply Kd.R_drew)); exact HO432.out))) (below_size (by repeat (first | (with_reducible first | exact HB.out | apply below_alloc | apply pw_below_drewN | apply below_drew1) | exact HB.out)))); have n7_ := Aside0.mk (below_step (by repeat (first | (with_reducible first | exact HB.out | apply below_alloc | apply pw_below_drewN | apply below_drew1) | exact HB.out)) hb); clear HO418; clear HO422; clear HO425; clear HO429; clear HO432; clear HO436; clear HB; have HO418 := n0_; have HO422 := n1_; have HO425 := n2_; have HO429 := n3_; have HO432 := n4_; have HO436 := n5_; have HO439 := n6_; have HB := n7_; clear n0_ n1_ n2_ n3_ n4_ n5_ n6_ n7_; clear hb ho70; obtain ⟨Ao71, co71, eo71⟩ := Kd.S_slice HO436.out; subst eo71; obtain ⟨Ao72, co72, eo72⟩ := Kd.R_slice HO439.out; subst eo72) | ((with_reducible refine gate_callee (f := 40) rfl ?_); refine goesL_ (some 27) rfl rfl Try.func40 (by kernel_rfl) rfl #[.slice Ao71 t433.length co71, .int .i64 1, .int .i64 2, .slice Ao72 y437.length co72] rfl (by (try simp only [List.map_toArray, List.map_cons, List.map_nil]); first | done | rfl | (simp only [List.length_drop, List.length_take]; rfl)) ?_; (with_reducible refine (pools_First.calls k _ _ t433 1 2 _ _ y437 t440 false _ ?side1 ?side2 ?side3 ?side4 A4.out).mono ?_); (case side1 => repeat (first | exact (Kd.S_reads' HO436.out).2.2 | (with_reducible refine Kd.C_alloc ?_ _) | (with_reducible refine Kd.C_drewN ?_ _) | (with_reducible refine Kd.C_drew ?_))); (case side2 => exact (Kd.S_reads' HO436.out).2.1); (case side3 => repeat (first | exact (Kd.R_reads' HO439.out).2.2 | (with_reducible refine Kd.C_alloc ?_ _) | (with_reducible refine Kd.C_drewN ?_ _) | (with_reducible refine Kd.C_drew ?_))); (case side4 => exact (Kd.R_reads' HO439.out).2.1); rintro e w73 ⟨rfl, hb⟩; refine ⟨_, rfl, ?_⟩; have n0_ := Aside0.mk (Kd.R_below (by (with_reducible repeat (first | apply Kd.R_alloc | apply Kd.R_drewN | apply Kd.R_drew)); exact HO418.out) hb); have n1_ := Aside0.mk (Kd.S_below (by (with_reducible repeat (first | apply Kd.S_alloc | apply Kd.S_drewN | apply Kd.S_drew)); exact HO422.out) hb); have n2_ := Aside0.mk (Kd.R_below (by (with_reducible repeat (first | apply Kd.R_alloc | apply Kd.R_drewN | apply Kd.R_drew)); exact HO425.out) hb); have n3_ := Aside0.mk (Kd.S_below (by (with_reducible repeat (first | apply Kd.S_alloc | apply Kd.S_drewN | apply Kd.S_drew)); exact HO429.out) hb); have n4_ := Aside0.mk (Kd.R_below (by (with_reducible repeat (first | apply Kd.R_alloc | apply Kd.R_drewN | apply Kd.R_drew)); exact HO432.out) hb); have n5_ := Aside0.mk (Kd.S_below (by (with_reducible repeat (first | apply Kd.S_alloc | apply Kd.S_drewN | apply Kd.S_drew)); exact HO436.out) hb); have n6_ := Aside0.mk (Kd.R_below (by (with_reducible repeat (first | apply Kd.R_alloc | apply Kd.R_drewN | apply Kd.R_drew)); exact HO439.out) hb); have n7_ := Aside0.mk (below_step (by repeat (first | (with_reducible first | exact HB.out | apply below_alloc | apply pw_below_drewN | apply below_drew1) | exact HB.out)) hb); clear HO418; clear HO422; clear HO425; clear HO429; clear HO432; clear HO436; clear HO439; clear HB; have HO418 := n0_; have HO422 := n1_; have HO425 := n2_; have HO429 := n3_; have HO432 := n4_; have HO436 := n5_; have HO439 := n6_; have HB := n7_; clear n0_ n1_ n2_ n3_ n4_ n5_ n6_ n7_; (try clear hb); (try clear hb2); (try clear hk); (try clear hi)))
     go_ret
     exact ⟨by first | rfl | (simp [errW_none, errW_some] <;> rfl) | (simp [*, errW_none, errW_some] <;> rfl), by repeat (first | (with_reducible first | exact HB.out | apply below_alloc | apply pw_below_drewN | apply below_drew1) | exact HB.out)⟩
   ·rw [if_neg c7] at H
    have c7b0 : (t434 == 0) = false := beq_eq_false_iff_ne.mpr c7
    have c7b1 : (t434 != 0) = true := bne_iff_ne.mpr c7
    obtain rfl := Option.some.inj H
    go_enter Try.func34, Try.ntmps34
    go_wp2_with (first | ((with_reducible refine gate_dst (N := 8) rfl ?_); (try (refine gate_guard (by rfl) ?_; dsimp only)); refine Kd.R_lit (Kd.int .i64) _ 3 ?hg (N := 8) ?hd (xs := ([4, 2] : List Int)) (inner := [.int .i64 4, .int .i64 2]) (ok := fun _ => True) (okp := fun _ => True) ?hr ?hp (fun _ hk => hk) trivial (Below.refl _ _) (Nat.le_refl _) (by simp) ?_; (case hd => rfl); (case hg => rfl); (case hr => first | (go_simp; done) | (go_simp; rfl)); (case hp => exact (Reps.one (show Kd.M (Kd.int .i64) _ _ _ 4 [.int .i64 4] from rfl) (Reps.one (show Kd.M (Kd.int .i64) _ _ _ 2 [.int .i64 2] from rfl) (Reps.none _ _)))); intro v417 w74 ho75 hb hg_ hnew_; clear hg_ hnew_; (first | rw [← Ny416.out] at ho75 | (simp only [Int.reduceToNat] at ho75; rw [← Ny416.out] at ho75)); have n0_ := Aside0.mk (Kd.R_lower ho75 (below_size (by repeat (first | (with_reducible first | exact HB.out | apply below_alloc | apply pw_below_drewN | apply below_drew1) | exact HB.out)))); have n1_ := Aside0.mk (below_step (by repeat (first | (with_reducible first | exact HB.out | apply below_alloc | apply pw_below_drewN | apply below_drew1) | exact HB.out)) hb); clear HB; have HO418 := n0_; have HB := n1_; clear n0_ n1_; clear hb ho75; obtain ⟨Ao76, co76, eo76⟩ := Kd.R_slice HO418.out; subst eo76) | ((with_reducible refine gate_callee (f := 35) rfl ?_); refine goesL_ (some 9) rfl rfl Try.func35 (by kernel_rfl) rfl #[.slice Ao76 y416.length co76] rfl (by (try simp only [List.map_toArray, List.map_cons, List.map_nil]); first | done | rfl | (simp only [List.length_drop, List.length_take]; rfl)) ?_; (with_reducible refine (pools_New.calls k _ _ y416 t419 t420 _ ?side1 ?side2 A1.out).mono ?_); (case side1 => repeat (first | exact (Kd.R_reads' HO418.out).2.2 | (with_reducible refine Kd.C_alloc ?_ _) | (with_reducible refine Kd.C_drewN ?_ _) | (with_reducible refine Kd.C_drew ?_))); (case side2 => exact (Kd.R_reads' HO418.out).2.1); rintro e w77 ⟨v421, rfl, ho0, hb⟩; refine ⟨_, rfl, ?_⟩; have n0_ := Aside0.mk (Kd.R_below (by (with_reducible repeat (first | apply Kd.R_alloc | apply Kd.R_drewN | apply Kd.R_drew)); exact HO418.out) hb); have n1_ := Aside0.mk (Kd.S_lower ho0 (below_size (by repeat (first | (with_reducible first | exact HB.out | apply below_alloc | apply pw_below_drewN | apply below_drew1) | exact HB.out)))); have n2_ := Aside0.mk (below_step (by repeat (first | (with_reducible first | exact HB.out | apply below_alloc | apply pw_below_drewN | apply below_drew1) | exact HB.out)) hb); clear HO418; clear HB; have HO418 := n0_; have HO422 := n1_; have HB := n2_; clear n0_ n1_ n2_; (try clear hb); (try clear hb2); (try clear hk); (try clear hi); (try clear ho0)) | ((with_reducible refine gate_dst (N := 14) rfl ?_); (try (refine gate_guard (by rfl) ?_; dsimp only)); refine Kd.R_lit (Kd.int .i64) _ 3 ?hg (N := 14) ?hd (xs := ([3, 0] : List Int)) (inner := [.int .i64 3, .int .i64 0]) (ok := fun _ => True) (okp := fun _ => True) ?hr ?hp (fun _ hk => hk) trivial (Below.refl _ _) (Nat.le_refl _) (by simp) ?_; (case hd => rfl); (case hg => rfl); (case hr => first | (go_simp; done) | (go_simp; rfl)); (case hp => exact (Reps.one (show Kd.M (Kd.int .i64) _ _ _ 3 [.int .i64 3] from rfl) (Reps.one (show Kd.M (Kd.int .i64) _ _ _ 0 [.int .i64 0] from rfl) (Reps.none _ _)))); intro v424 w78 ho79 hb hg_ hnew_; clear hg_ hnew_; (first | rw [← Ny423.out] at ho79 | (simp only [Int.reduceToNat] at ho79; rw [← Ny423.out] at ho79)); have n0_ := Aside0.mk (Kd.R_elder' (by (with_reducible repeat (first | apply Kd.R_alloc | apply Kd.R_drewN | apply Kd.R_drew)); exact HO418.out) (Kd.R_base ho79) hb); have n1_ := Aside0.mk (Kd.S_below (by (with_reducible repeat (first | apply Kd.S_alloc | apply Kd.S_drewN | apply Kd.S_drew)); exact HO422.out) hb); have n2_ := Aside0.mk (Kd.R_lower (Kd.R_new' ho79 (Kd.R_lt (by (with_reducible repeat (first | apply Kd.R_alloc | apply Kd.R_drewN | apply Kd.R_drew)); exact HO418.out))) (below_size (by repeat (first | (with_reducible first | exact HB.out | apply below_alloc | apply pw_below_drewN | apply below_drew1) | exact HB.out)))); have n3_ := Aside0.mk (below_step (by repeat (first | (with_reducible first | exact HB.out | apply below_alloc | apply pw_below_drewN | apply below_drew1) | exact HB.out)) hb); clear HO418; clear HO422; clear HB; have HO418 := n0_; have HO422 := n1_; have HO425 := n2_; have HB := n3_; clear n0_ n1_ n2_ n3_; clear hb ho79; obtain ⟨Ao80, co80, eo80⟩ := Kd.S_slice HO422.out; subst eo80; obtain ⟨Ao81, co81, eo81⟩ := Kd.R_slice HO425.out; subst eo81) | ((with_reducible refine gate_callee (f := 42) rfl ?_); refine goesL_ (some 15) rfl rfl Try.func42 (by kernel_rfl) rfl #[.slice Ao80 t419.length co80, .int .i64 0, .int .i64 5, .slice Ao81 y423.length co81] rfl (by (try simp only [List.map_toArray, List.map_cons, List.map_nil]); first | done | rfl | (simp only [List.length_drop, List.length_take]; rfl)) ?_; (with_reducible refine (pools_Take.calls k _ _ t419 0 5 _ _ y423 t426 t427 _ ?side1 ?side2 ?side3 ?side4 A2.out).mono ?_); (case side1 => repeat (first | exact (Kd.S_reads' HO422.out).2.2 | (with_reducible refine Kd.C_alloc ?_ _) | (with_reducible refine Kd.C_drewN ?_ _) | (with_reducible refine Kd.C_drew ?_))); (case side2 => exact (Kd.S_reads' HO422.out).2.1); (case side3 => repeat (first | exact (Kd.R_reads' HO425.out).2.2 | (with_reducible refine Kd.C_alloc ?_ _) | (with_reducible refine Kd.C_drewN ?_ _) | (with_reducible refine Kd.C_drew ?_))); (case side4 => exact (Kd.R_reads' HO425.out).2.1); rintro e w82 ⟨v428, rfl, ho0, hb⟩; refine ⟨_, rfl, ?_⟩; have n0_ := Aside0.mk (Kd.R_below (by (with_reducible repeat (first | apply Kd.R_alloc | apply Kd.R_drewN | apply Kd.R_drew)); exact HO418.out) hb); have n1_ := Aside0.mk (Kd.S_elder' (by (with_reducible repeat (first | apply Kd.S_alloc | apply Kd.S_drewN | apply Kd.S_drew)); exact HO422.out) (Kd.S_base ho0) hb); have n2_ := Aside0.mk (Kd.R_below (by (with_reducible repeat (first | apply Kd.R_alloc | apply Kd.R_drewN | apply Kd.R_drew)); exact HO425.out) hb); have n3_ := Aside0.mk (Kd.S_lower (Kd.S_new' ho0 (Kd.S_lt (by (with_reducible repeat (first | apply Kd.S_alloc | apply Kd.S_drewN | apply Kd.S_drew)); exact HO422.out))) (below_size (by repeat (first | (with_reducible first | exact HB.out | apply below_alloc | apply pw_below_drewN | apply below_drew1) | exact HB.out)))); have n4_ := Aside0.mk (below_step (by repeat (first | (with_reducible first | exact HB.out | apply below_alloc | apply pw_below_drewN | apply below_drew1) | exact HB.out)) hb); clear HO418; clear HO422; clear HO425; clear HB; have HO418 := n0_; have HO422 := n1_; have HO425 := n2_; have HO429 := n3_; have HB := n4_; clear n0_ n1_ n2_ n3_ n4_; (try clear hb); (try clear hb2); (try clear hk); (try clear hi); (try clear ho0)) | ((with_reducible refine gate_dst (N := 20) rfl ?_); (try (refine gate_guard (by rfl) ?_; dsimp only)); refine Kd.R_lit (Kd.int .i64) _ 3 ?hg (N := 20) ?hd (xs := ([0, 2] : List Int)) (inner := [.int .i64 0, .int .i64 2]) (ok := fun _ => True) (okp := fun _ => True) ?hr ?hp (fun _ hk => hk) trivial (Below.refl _ _) (Nat.le_refl _) (by simp) ?_; (case hd => rfl); (case hg => rfl); (case hr => first | (go_simp; done) | (go_simp; rfl)); (case hp => exact (Reps.one (show Kd.M (Kd.int .i64) _ _ _ 0 [.int .i64 0] from rfl) (Reps.one (show Kd.M (Kd.int .i64) _ _ _ 2 [.int .i64 2] from rfl) (Reps.none _ _)))); intro v431 w83 ho84 hb hg_ hnew_; clear hg_ hnew_; (first | rw [← Ny430.out] at ho84 | (simp only [Int.reduceToNat] at ho84; rw [← Ny430.out] at ho84)); have n0_ := Aside0.mk (Kd.R_elder' (by (with_reducible repeat (first | apply Kd.R_alloc | apply Kd.R_drewN | apply Kd.R_drew)); exact HO418.out) (Kd.R_base ho84) hb); have n1_ := Aside0.mk (Kd.S_below (by (with_reducible repeat (first | apply Kd.S_alloc | apply Kd.S_drewN | apply Kd.S_drew)); exact HO422.out) hb); have n2_ := Aside0.mk (Kd.R_elder' (by (with_reducible repeat (first | apply Kd.R_alloc | apply Kd.R_drewN | apply Kd.R_drew)); exact HO425.out) (Kd.R_base ho84) hb); have n3_ := Aside0.mk (Kd.S_below (by (with_reducible repeat (first | apply Kd.S_alloc | apply Kd.S_drewN | apply Kd.S_drew)); exact HO429.out) hb); have n4_ := Aside0.mk (Kd.R_lower (Kd.R_new' (Kd.R_new' ho84 (Kd.R_lt (by (with_reducible repeat (first | apply Kd.R_alloc | apply Kd.R_drewN | apply Kd.R_drew)); exact HO418.out))) (Kd.R_lt (by (with_reducible repeat (first | apply Kd.R_alloc | apply Kd.R_drewN | apply Kd.R_drew)); exact HO425.out))) (below_size (by repeat (first | (with_reducible first | exact HB.out | apply below_alloc | apply pw_below_drewN | apply below_drew1) | exact HB.out)))); have n5_ := Aside0.mk (below_step (by repeat (first | (with_reducible first | exact HB.out | apply below_alloc | apply pw_below_drewN | apply below_drew1) | exact HB.out)) hb); clear HO418; clear HO422; clear HO425; clear HO429; clear HB; have HO418 := n0_; have HO422 := n1_; have HO425 := n2_; have HO429 := n3_; have HO432 := n4_; have HB := n5_; clear n0_ n1_ n2_ n3_ n4_ n5_; clear hb ho84; obtain ⟨Ao85, co85, eo85⟩ := Kd.S_slice HO429.out; subst eo85; obtain ⟨Ao86, co86, eo86⟩ := Kd.R_slice HO432.out; subst eo86) | ((with_reducible refine gate_callee (f := 42) rfl ?_); refine goesL_ (some 21) rfl rfl Try.func42 (by kernel_rfl) rfl #[.slice Ao85 t426.length co85, .int .i64 0, .int .i64 9, .slice Ao86 y430.length co86] rfl (by (try simp only [List.map_toArray, List.map_cons, List.map_nil]); first | done | rfl | (simp only [List.length_drop, List.length_take]; rfl)) ?_; (with_reducible refine (pools_Take.calls k _ _ t426 0 9 _ _ y430 t433 t434 _ ?side1 ?side2 ?side3 ?side4 A3.out).mono ?_); (case side1 => repeat (first | exact (Kd.S_reads' HO429.out).2.2 | (with_reducible refine Kd.C_alloc ?_ _) | (with_reducible refine Kd.C_drewN ?_ _) | (with_reducible refine Kd.C_drew ?_))); (case side2 => exact (Kd.S_reads' HO429.out).2.1); (case side3 => repeat (first | exact (Kd.R_reads' HO432.out).2.2 | (with_reducible refine Kd.C_alloc ?_ _) | (with_reducible refine Kd.C_drewN ?_ _) | (with_reducible refine Kd.C_drew ?_))); (case side4 => exact (Kd.R_reads' HO432.out).2.1); rintro e w87 ⟨v435, rfl, ho0, hb⟩; refine ⟨_, rfl, ?_⟩; have n0_ := Aside0.mk (Kd.R_below (by (with_reducible repeat (first | apply Kd.R_alloc | apply Kd.R_drewN | apply Kd.R_drew)); exact HO418.out) hb); have n1_ := Aside0.mk (Kd.S_elder' (by (with_reducible repeat (first | apply Kd.S_alloc | apply Kd.S_drewN | apply Kd.S_drew)); exact HO422.out) (Kd.S_base ho0) hb); have n2_ := Aside0.mk (Kd.R_below (by (with_reducible repeat (first | apply Kd.R_alloc | apply Kd.R_drewN | apply Kd.R_drew)); exact HO425.out) hb); have n3_ := Aside0.mk (Kd.S_elder' (by (with_reducible repeat (first | apply Kd.S_alloc | apply Kd.S_drewN | apply Kd.S_drew)); exact HO429.out) (Kd.S_base ho0) hb); have n4_ := Aside0.mk (Kd.R_below (by (with_reducible repeat (first | apply Kd.R_alloc | apply Kd.R_drewN | apply Kd.R_drew)); exact HO432.out) hb); have n5_ := Aside0.mk (Kd.S_lower (Kd.S_new' (Kd.S_new' ho0 (Kd.S_lt (by (with_reducible repeat (first | apply Kd.S_alloc | apply Kd.S_drewN | apply Kd.S_drew)); exact HO422.out))) (Kd.S_lt (by (with_reducible repeat (first | apply Kd.S_alloc | apply Kd.S_drewN | apply Kd.S_drew)); exact HO429.out))) (below_size (by repeat (first | (with_reducible first | exact HB.out | apply below_alloc | apply pw_below_drewN | apply below_drew1) | exact HB.out)))); have n6_ := Aside0.mk (below_step (by repeat (first | (with_reducible first | exact HB.out | apply below_alloc | apply pw_below_drewN | apply below_drew1) | exact HB.out)) hb); clear HO418; clear HO422; clear HO425; clear HO429; clear HO432; clear HB; have HO418 := n0_; have HO422 := n1_; have HO425 := n2_; have HO429 := n3_; have HO432 := n4_; have HO436 := n5_; have HB := n6_; clear n0_ n1_ n2_ n3_ n4_ n5_ n6_; (try clear hb); (try clear hb2); (try clear hk); (try clear hi); (try clear ho0)) | ((with_reducible refine gate_dst (N := 26) rfl ?_); (try (refine gate_guard (by rfl) ?_; dsimp only)); refine Kd.R_lit (Kd.int .i64) _ 3 ?hg (N := 26) ?hd (xs := ([2, 1] : List Int)) (inner := [.int .i64 2, .int .i64 1]) (ok := fun _ => True) (okp := fun _ => True) ?hr ?hp (fun _ hk => hk) trivial (Below.refl _ _) (Nat.le_refl _) (by simp) ?_; (case hd => rfl); (case hg => rfl); (case hr => first | (go_simp; done) | (go_simp; rfl)); (case hp => exact (Reps.one (show Kd.M (Kd.int .i64) _ _ _ 2 [.int .i64 2] from rfl) (Reps.one (show Kd.M (Kd.int .i64) _ _ _ 1 [.int .i64 1] from rfl) (Reps.none _ _)))); intro v438 w88 ho89 hb hg_ hnew_; clear hg_ hnew_; (first | rw [← Ny437.out] at ho89 | (simp only [Int.reduceToNat] at ho89; rw [← Ny437.out] at ho89)); have n0_ := Aside0.mk (Kd.R_elder' (by (with_reducible repeat (first | apply Kd.R_alloc | apply Kd.R_drewN | apply Kd.R_drew)); exact HO418.out) (Kd.R_base ho89) hb); have n1_ := Aside0.mk (Kd.S_below (by (with_reducible repeat (first | apply Kd.S_alloc | apply Kd.S_drewN | apply Kd.S_drew)); exact HO422.out) hb); have n2_ := Aside0.mk (Kd.R_elder' (by (with_reducible repeat (first | apply Kd.R_alloc | apply Kd.R_drewN | apply Kd.R_drew)); exact HO425.out) (Kd.R_base ho89) hb); have n3_ := Aside0.mk (Kd.S_below (by (with_reducible repeat (first | apply Kd.S_alloc | apply Kd.S_drewN | apply Kd.S_drew)); exact HO429.out) hb); have n4_ := Aside0.mk (Kd.R_elder' (by (with_reducible repeat (first | apply Kd.R_alloc | apply Kd.R_drewN | apply Kd.R_drew)); exact HO432.out) (Kd.R_base ho89) hb); have n5_ := Aside0.mk (Kd.S_below (by (with_reducible repeat (first | apply Kd.S_alloc | apply Kd.S_drewN | apply Kd.S_drew)); exact HO436.out) hb); have n6_ := Aside0.mk (Kd.R_lower (Kd.R_new' (Kd.R_new' (Kd.R_new' ho89 (Kd.R_lt (by (with_reducible repeat (first | apply Kd.R_alloc | apply Kd.R_drewN | apply Kd.R_drew)); exact HO418.out))) (Kd.R_lt (by (with_reducible repeat (first | apply Kd.R_alloc | apply Kd.R_drewN | apply Kd.R_drew)); exact HO425.out))) (Kd.R_lt (by (with_reducible repeat (first | apply Kd.R_alloc | apply Kd.R_drewN | apply Kd.R_drew)); exact HO432.out))) (below_size (by repeat (first | (with_reducible first | exact HB.out | apply below_alloc | apply pw_below_drewN | apply below_drew1) | exact HB.out)))); have n7_ := Aside0.mk (below_step (by repeat (first | (with_reducible first | exact HB.out | apply below_alloc | apply pw_below_drewN | apply below_drew1) | exact HB.out)) hb); clear HO418; clear HO422; clear HO425; clear HO429; clear HO432; clear HO436; clear HB; have HO418 := n0_; have HO422 := n1_; have HO425 := n2_; have HO429 := n3_; have HO432 := n4_; have HO436 := n5_; have HO439 := n6_; have HB := n7_; clear n0_ n1_ n2_ n3_ n4_ n5_ n6_ n7_; clear hb ho89; obtain ⟨Ao90, co90, eo90⟩ := Kd.S_slice HO436.out; subst eo90; obtain ⟨Ao91, co91, eo91⟩ := Kd.R_slice HO439.out; subst eo91) | ((with_reducible refine gate_callee (f := 40) rfl ?_); refine goesL_ (some 27) rfl rfl Try.func40 (by kernel_rfl) rfl #[.slice Ao90 t433.length co90, .int .i64 1, .int .i64 2, .slice Ao91 y437.length co91] rfl (by (try simp only [List.map_toArray, List.map_cons, List.map_nil]); first | done | rfl | (simp only [List.length_drop, List.length_take]; rfl)) ?_; (with_reducible refine (pools_First.calls k _ _ t433 1 2 _ _ y437 t440 t441 _ ?side1 ?side2 ?side3 ?side4 A4.out).mono ?_); (case side1 => repeat (first | exact (Kd.S_reads' HO436.out).2.2 | (with_reducible refine Kd.C_alloc ?_ _) | (with_reducible refine Kd.C_drewN ?_ _) | (with_reducible refine Kd.C_drew ?_))); (case side2 => exact (Kd.S_reads' HO436.out).2.1); (case side3 => repeat (first | exact (Kd.R_reads' HO439.out).2.2 | (with_reducible refine Kd.C_alloc ?_ _) | (with_reducible refine Kd.C_drewN ?_ _) | (with_reducible refine Kd.C_drew ?_))); (case side4 => exact (Kd.R_reads' HO439.out).2.1); rintro e w92 ⟨rfl, hb⟩; refine ⟨_, rfl, ?_⟩; have n0_ := Aside0.mk (Kd.R_below (by (with_reducible repeat (first | apply Kd.R_alloc | apply Kd.R_drewN | apply Kd.R_drew)); exact HO418.out) hb); have n1_ := Aside0.mk (Kd.S_below (by (with_reducible repeat (first | apply Kd.S_alloc | apply Kd.S_drewN | apply Kd.S_drew)); exact HO422.out) hb); have n2_ := Aside0.mk (Kd.R_below (by (with_reducible repeat (first | apply Kd.R_alloc | apply Kd.R_drewN | apply Kd.R_drew)); exact HO425.out) hb); have n3_ := Aside0.mk (Kd.S_below (by (with_reducible repeat (first | apply Kd.S_alloc | apply Kd.S_drewN | apply Kd.S_drew)); exact HO429.out) hb); have n4_ := Aside0.mk (Kd.R_below (by (with_reducible repeat (first | apply Kd.R_alloc | apply Kd.R_drewN | apply Kd.R_drew)); exact HO432.out) hb); have n5_ := Aside0.mk (Kd.S_below (by (with_reducible repeat (first | apply Kd.S_alloc | apply Kd.S_drewN | apply Kd.S_drew)); exact HO436.out) hb); have n6_ := Aside0.mk (Kd.R_below (by (with_reducible repeat (first | apply Kd.R_alloc | apply Kd.R_drewN | apply Kd.R_drew)); exact HO439.out) hb); have n7_ := Aside0.mk (below_step (by repeat (first | (with_reducible first | exact HB.out | apply below_alloc | apply pw_below_drewN | apply below_drew1) | exact HB.out)) hb); clear HO418; clear HO422; clear HO425; clear HO429; clear HO432; clear HO436; clear HO439; clear HB; have HO418 := n0_; have HO422 := n1_; have HO425 := n2_; have HO429 := n3_; have HO432 := n4_; have HO436 := n5_; have HO439 := n6_; have HB := n7_; clear n0_ n1_ n2_ n3_ n4_ n5_ n6_ n7_; (try clear hb); (try clear hb2); (try clear hk); (try clear hi)))
    go_ret
    exact ⟨by first | rfl | (simp [errW_none, errW_some] <;> rfl) | (simp [*, errW_none, errW_some] <;> rfl), by repeat (first | (with_reducible first | exact HB.out | apply below_alloc | apply pw_below_drewN | apply below_drew1) | exact HB.out)⟩
  ·rw [if_neg c6] at H
   have c6b0 : (t427 == 0) = false := beq_eq_false_iff_ne.mpr c6
   have c6b1 : (t427 != 0) = true := bne_iff_ne.mpr c6
   obtain rfl := Option.some.inj H
   go_enter Try.func34, Try.ntmps34
   go_wp2_with (first | ((with_reducible refine gate_dst (N := 8) rfl ?_); (try (refine gate_guard (by rfl) ?_; dsimp only)); refine Kd.R_lit (Kd.int .i64) _ 3 ?hg (N := 8) ?hd (xs := ([4, 2] : List Int)) (inner := [.int .i64 4, .int .i64 2]) (ok := fun _ => True) (okp := fun _ => True) ?hr ?hp (fun _ hk => hk) trivial (Below.refl _ _) (Nat.le_refl _) (by simp) ?_; (case hd => rfl); (case hg => rfl); (case hr => first | (go_simp; done) | (go_simp; rfl)); (case hp => exact (Reps.one (show Kd.M (Kd.int .i64) _ _ _ 4 [.int .i64 4] from rfl) (Reps.one (show Kd.M (Kd.int .i64) _ _ _ 2 [.int .i64 2] from rfl) (Reps.none _ _)))); intro v417 w93 ho94 hb hg_ hnew_; clear hg_ hnew_; (first | rw [← Ny416.out] at ho94 | (simp only [Int.reduceToNat] at ho94; rw [← Ny416.out] at ho94)); have n0_ := Aside0.mk (Kd.R_lower ho94 (below_size (by repeat (first | (with_reducible first | exact HB.out | apply below_alloc | apply pw_below_drewN | apply below_drew1) | exact HB.out)))); have n1_ := Aside0.mk (below_step (by repeat (first | (with_reducible first | exact HB.out | apply below_alloc | apply pw_below_drewN | apply below_drew1) | exact HB.out)) hb); clear HB; have HO418 := n0_; have HB := n1_; clear n0_ n1_; clear hb ho94; obtain ⟨Ao95, co95, eo95⟩ := Kd.R_slice HO418.out; subst eo95) | ((with_reducible refine gate_callee (f := 35) rfl ?_); refine goesL_ (some 9) rfl rfl Try.func35 (by kernel_rfl) rfl #[.slice Ao95 y416.length co95] rfl (by (try simp only [List.map_toArray, List.map_cons, List.map_nil]); first | done | rfl | (simp only [List.length_drop, List.length_take]; rfl)) ?_; (with_reducible refine (pools_New.calls k _ _ y416 t419 t420 _ ?side1 ?side2 A1.out).mono ?_); (case side1 => repeat (first | exact (Kd.R_reads' HO418.out).2.2 | (with_reducible refine Kd.C_alloc ?_ _) | (with_reducible refine Kd.C_drewN ?_ _) | (with_reducible refine Kd.C_drew ?_))); (case side2 => exact (Kd.R_reads' HO418.out).2.1); rintro e w96 ⟨v421, rfl, ho0, hb⟩; refine ⟨_, rfl, ?_⟩; have n0_ := Aside0.mk (Kd.R_below (by (with_reducible repeat (first | apply Kd.R_alloc | apply Kd.R_drewN | apply Kd.R_drew)); exact HO418.out) hb); have n1_ := Aside0.mk (Kd.S_lower ho0 (below_size (by repeat (first | (with_reducible first | exact HB.out | apply below_alloc | apply pw_below_drewN | apply below_drew1) | exact HB.out)))); have n2_ := Aside0.mk (below_step (by repeat (first | (with_reducible first | exact HB.out | apply below_alloc | apply pw_below_drewN | apply below_drew1) | exact HB.out)) hb); clear HO418; clear HB; have HO418 := n0_; have HO422 := n1_; have HB := n2_; clear n0_ n1_ n2_; (try clear hb); (try clear hb2); (try clear hk); (try clear hi); (try clear ho0)) | ((with_reducible refine gate_dst (N := 14) rfl ?_); (try (refine gate_guard (by rfl) ?_; dsimp only)); refine Kd.R_lit (Kd.int .i64) _ 3 ?hg (N := 14) ?hd (xs := ([3, 0] : List Int)) (inner := [.int .i64 3, .int .i64 0]) (ok := fun _ => True) (okp := fun _ => True) ?hr ?hp (fun _ hk => hk) trivial (Below.refl _ _) (Nat.le_refl _) (by simp) ?_; (case hd => rfl); (case hg => rfl); (case hr => first | (go_simp; done) | (go_simp; rfl)); (case hp => exact (Reps.one (show Kd.M (Kd.int .i64) _ _ _ 3 [.int .i64 3] from rfl) (Reps.one (show Kd.M (Kd.int .i64) _ _ _ 0 [.int .i64 0] from rfl) (Reps.none _ _)))); intro v424 w97 ho98 hb hg_ hnew_; clear hg_ hnew_; (first | rw [← Ny423.out] at ho98 | (simp only [Int.reduceToNat] at ho98; rw [← Ny423.out] at ho98)); have n0_ := Aside0.mk (Kd.R_elder' (by (with_reducible repeat (first | apply Kd.R_alloc | apply Kd.R_drewN | apply Kd.R_drew)); exact HO418.out) (Kd.R_base ho98) hb); have n1_ := Aside0.mk (Kd.S_below (by (with_reducible repeat (first | apply Kd.S_alloc | apply Kd.S_drewN | apply Kd.S_drew)); exact HO422.out) hb); have n2_ := Aside0.mk (Kd.R_lower (Kd.R_new' ho98 (Kd.R_lt (by (with_reducible repeat (first | apply Kd.R_alloc | apply Kd.R_drewN | apply Kd.R_drew)); exact HO418.out))) (below_size (by repeat (first | (with_reducible first | exact HB.out | apply below_alloc | apply pw_below_drewN | apply below_drew1) | exact HB.out)))); have n3_ := Aside0.mk (below_step (by repeat (first | (with_reducible first | exact HB.out | apply below_alloc | apply pw_below_drewN | apply below_drew1) | exact HB.out)) hb); clear HO418; clear HO422; clear HB; have HO418 := n0_; have HO422 := n1_; have HO425 := n2_; have HB := n3_; clear n0_ n1_ n2_ n3_; clear hb ho98; obtain ⟨Ao99, co99, eo99⟩ := Kd.S_slice HO422.out; subst eo99; obtain ⟨Ao100, co100, eo100⟩ := Kd.R_slice HO425.out; subst eo100) | ((with_reducible refine gate_callee (f := 42) rfl ?_); refine goesL_ (some 15) rfl rfl Try.func42 (by kernel_rfl) rfl #[.slice Ao99 t419.length co99, .int .i64 0, .int .i64 5, .slice Ao100 y423.length co100] rfl (by (try simp only [List.map_toArray, List.map_cons, List.map_nil]); first | done | rfl | (simp only [List.length_drop, List.length_take]; rfl)) ?_; (with_reducible refine (pools_Take.calls k _ _ t419 0 5 _ _ y423 t426 t427 _ ?side1 ?side2 ?side3 ?side4 A2.out).mono ?_); (case side1 => repeat (first | exact (Kd.S_reads' HO422.out).2.2 | (with_reducible refine Kd.C_alloc ?_ _) | (with_reducible refine Kd.C_drewN ?_ _) | (with_reducible refine Kd.C_drew ?_))); (case side2 => exact (Kd.S_reads' HO422.out).2.1); (case side3 => repeat (first | exact (Kd.R_reads' HO425.out).2.2 | (with_reducible refine Kd.C_alloc ?_ _) | (with_reducible refine Kd.C_drewN ?_ _) | (with_reducible refine Kd.C_drew ?_))); (case side4 => exact (Kd.R_reads' HO425.out).2.1); rintro e w101 ⟨v428, rfl, ho0, hb⟩; refine ⟨_, rfl, ?_⟩; have n0_ := Aside0.mk (Kd.R_below (by (with_reducible repeat (first | apply Kd.R_alloc | apply Kd.R_drewN | apply Kd.R_drew)); exact HO418.out) hb); have n1_ := Aside0.mk (Kd.S_elder' (by (with_reducible repeat (first | apply Kd.S_alloc | apply Kd.S_drewN | apply Kd.S_drew)); exact HO422.out) (Kd.S_base ho0) hb); have n2_ := Aside0.mk (Kd.R_below (by (with_reducible repeat (first | apply Kd.R_alloc | apply Kd.R_drewN | apply Kd.R_drew)); exact HO425.out) hb); have n3_ := Aside0.mk (Kd.S_lower (Kd.S_new' ho0 (Kd.S_lt (by (with_reducible repeat (first | apply Kd.S_alloc | apply Kd.S_drewN | apply Kd.S_drew)); exact HO422.out))) (below_size (by repeat (first | (with_reducible first | exact HB.out | apply below_alloc | apply pw_below_drewN | apply below_drew1) | exact HB.out)))); have n4_ := Aside0.mk (below_step (by repeat (first | (with_reducible first | exact HB.out | apply below_alloc | apply pw_below_drewN | apply below_drew1) | exact HB.out)) hb); clear HO418; clear HO422; clear HO425; clear HB; have HO418 := n0_; have HO422 := n1_; have HO425 := n2_; have HO429 := n3_; have HB := n4_; clear n0_ n1_ n2_ n3_ n4_; (try clear hb); (try clear hb2); (try clear hk); (try clear hi); (try clear ho0)) | ((with_reducible refine gate_dst (N := 20) rfl ?_); (try (refine gate_guard (by rfl) ?_; dsimp only)); refine Kd.R_lit (Kd.int .i64) _ 3 ?hg (N := 20) ?hd (xs := ([0, 2] : List Int)) (inner := [.int .i64 0, .int .i64 2]) (ok := fun _ => True) (okp := fun _ => True) ?hr ?hp (fun _ hk => hk) trivial (Below.refl _ _) (Nat.le_refl _) (by simp) ?_; (case hd => rfl); (case hg => rfl); (case hr => first | (go_simp; done) | (go_simp; rfl)); (case hp => exact (Reps.one (show Kd.M (Kd.int .i64) _ _ _ 0 [.int .i64 0] from rfl) (Reps.one (show Kd.M (Kd.int .i64) _ _ _ 2 [.int .i64 2] from rfl) (Reps.none _ _)))); intro v431 w102 ho103 hb hg_ hnew_; clear hg_ hnew_; (first | rw [← Ny430.out] at ho103 | (simp only [Int.reduceToNat] at ho103; rw [← Ny430.out] at ho103)); have n0_ := Aside0.mk (Kd.R_elder' (by (with_reducible repeat (first | apply Kd.R_alloc | apply Kd.R_drewN | apply Kd.R_drew)); exact HO418.out) (Kd.R_base ho103) hb); have n1_ := Aside0.mk (Kd.S_below (by (with_reducible repeat (first | apply Kd.S_alloc | apply Kd.S_drewN | apply Kd.S_drew)); exact HO422.out) hb); have n2_ := Aside0.mk (Kd.R_elder' (by (with_reducible repeat (first | apply Kd.R_alloc | apply Kd.R_drewN | apply Kd.R_drew)); exact HO425.out) (Kd.R_base ho103) hb); have n3_ := Aside0.mk (Kd.S_below (by (with_reducible repeat (first | apply Kd.S_alloc | apply Kd.S_drewN | apply Kd.S_drew)); exact HO429.out) hb); have n4_ := Aside0.mk (Kd.R_lower (Kd.R_new' (Kd.R_new' ho103 (Kd.R_lt (by (with_reducible repeat (first | apply Kd.R_alloc | apply Kd.R_drewN | apply Kd.R_drew)); exact HO418.out))) (Kd.R_lt (by (with_reducible repeat (first | apply Kd.R_alloc | apply Kd.R_drewN | apply Kd.R_drew)); exact HO425.out))) (below_size (by repeat (first | (with_reducible first | exact HB.out | apply below_alloc | apply pw_below_drewN | apply below_drew1) | exact HB.out)))); have n5_ := Aside0.mk (below_step (by repeat (first | (with_reducible first | exact HB.out | apply below_alloc | apply pw_below_drewN | apply below_drew1) | exact HB.out)) hb); clear HO418; clear HO422; clear HO425; clear HO429; clear HB; have HO418 := n0_; have HO422 := n1_; have HO425 := n2_; have HO429 := n3_; have HO432 := n4_; have HB := n5_; clear n0_ n1_ n2_ n3_ n4_ n5_; clear hb ho103; obtain ⟨Ao104, co104, eo104⟩ := Kd.S_slice HO429.out; subst eo104; obtain ⟨Ao105, co105, eo105⟩ := Kd.R_slice HO432.out; subst eo105) | ((with_reducible refine gate_callee (f := 42) rfl ?_); refine goesL_ (some 21) rfl rfl Try.func42 (by kernel_rfl) rfl #[.slice Ao104 t426.length co104, .int .i64 0, .int .i64 9, .slice Ao105 y430.length co105] rfl (by (try simp only [List.map_toArray, List.map_cons, List.map_nil]); first | done | rfl | (simp only [List.length_drop, List.length_take]; rfl)) ?_; (with_reducible refine (pools_Take.calls k _ _ t426 0 9 _ _ y430 t433 t434 _ ?side1 ?side2 ?side3 ?side4 A3.out).mono ?_); (case side1 => repeat (first | exact (Kd.S_reads' HO429.out).2.2 | (with_reducible refine Kd.C_alloc ?_ _) | (with_reducible refine Kd.C_drewN ?_ _) | (with_reducible refine Kd.C_drew ?_))); (case side2 => exact (Kd.S_reads' HO429.out).2.1); (case side3 => repeat (first | exact (Kd.R_reads' HO432.out).2.2 | (with_reducible refine Kd.C_alloc ?_ _) | (with_reducible refine Kd.C_drewN ?_ _) | (with_reducible refine Kd.C_drew ?_))); (case side4 => exact (Kd.R_reads' HO432.out).2.1); rintro e w106 ⟨v435, rfl, ho0, hb⟩; refine ⟨_, rfl, ?_⟩; have n0_ := Aside0.mk (Kd.R_below (by (with_reducible repeat (first | apply Kd.R_alloc | apply Kd.R_drewN | apply Kd.R_drew)); exact HO418.out) hb); have n1_ := Aside0.mk (Kd.S_elder' (by (with_reducible repeat (first | apply Kd.S_alloc | apply Kd.S_drewN | apply Kd.S_drew)); exact HO422.out) (Kd.S_base ho0) hb); have n2_ := Aside0.mk (Kd.R_below (by (with_reducible repeat (first | apply Kd.R_alloc | apply Kd.R_drewN | apply Kd.R_drew)); exact HO425.out) hb); have n3_ := Aside0.mk (Kd.S_elder' (by (with_reducible repeat (first | apply Kd.S_alloc | apply Kd.S_drewN | apply Kd.S_drew)); exact HO429.out) (Kd.S_base ho0) hb); have n4_ := Aside0.mk (Kd.R_below (by (with_reducible repeat (first | apply Kd.R_alloc | apply Kd.R_drewN | apply Kd.R_drew)); exact HO432.out) hb); have n5_ := Aside0.mk (Kd.S_lower (Kd.S_new' (Kd.S_new' ho0 (Kd.S_lt (by (with_reducible repeat (first | apply Kd.S_alloc | apply Kd.S_drewN | apply Kd.S_drew)); exact HO422.out))) (Kd.S_lt (by (with_reducible repeat (first | apply Kd.S_alloc | apply Kd.S_drewN | apply Kd.S_drew)); exact HO429.out))) (below_size (by repeat (first | (with_reducible first | exact HB.out | apply below_alloc | apply pw_below_drewN | apply below_drew1) | exact HB.out)))); have n6_ := Aside0.mk (below_step (by repeat (first | (with_reducible first | exact HB.out | apply below_alloc | apply pw_below_drewN | apply below_drew1) | exact HB.out)) hb); clear HO418; clear HO422; clear HO425; clear HO429; clear HO432; clear HB; have HO418 := n0_; have HO422 := n1_; have HO425 := n2_; have HO429 := n3_; have HO432 := n4_; have HO436 := n5_; have HB := n6_; clear n0_ n1_ n2_ n3_ n4_ n5_ n6_; (try clear hb); (try clear hb2); (try clear hk); (try clear hi); (try clear ho0)) | ((with_reducible refine gate_dst (N := 26) rfl ?_); (try (refine gate_guard (by rfl) ?_; dsimp only)); refine Kd.R_lit (Kd.int .i64) _ 3 ?hg (N := 26) ?hd (xs := ([2, 1] : List Int)) (inner := [.int .i64 2, .int .i64 1]) (ok := fun _ => True) (okp := fun _ => True) ?hr ?hp (fun _ hk => hk) trivial (Below.refl _ _) (Nat.le_refl _) (by simp) ?_; (case hd => rfl); (case hg => rfl); (case hr => first | (go_simp; done) | (go_simp; rfl)); (case hp => exact (Reps.one (show Kd.M (Kd.int .i64) _ _ _ 2 [.int .i64 2] from rfl) (Reps.one (show Kd.M (Kd.int .i64) _ _ _ 1 [.int .i64 1] from rfl) (Reps.none _ _)))); intro v438 w107 ho108 hb hg_ hnew_; clear hg_ hnew_; (first | rw [← Ny437.out] at ho108 | (simp only [Int.reduceToNat] at ho108; rw [← Ny437.out] at ho108)); have n0_ := Aside0.mk (Kd.R_elder' (by (with_reducible repeat (first | apply Kd.R_alloc | apply Kd.R_drewN | apply Kd.R_drew)); exact HO418.out) (Kd.R_base ho108) hb); have n1_ := Aside0.mk (Kd.S_below (by (with_reducible repeat (first | apply Kd.S_alloc | apply Kd.S_drewN | apply Kd.S_drew)); exact HO422.out) hb); have n2_ := Aside0.mk (Kd.R_elder' (by (with_reducible repeat (first | apply Kd.R_alloc | apply Kd.R_drewN | apply Kd.R_drew)); exact HO425.out) (Kd.R_base ho108) hb); have n3_ := Aside0.mk (Kd.S_below (by (with_reducible repeat (first | apply Kd.S_alloc | apply Kd.S_drewN | apply Kd.S_drew)); exact HO429.out) hb); have n4_ := Aside0.mk (Kd.R_elder' (by (with_reducible repeat (first | apply Kd.R_alloc | apply Kd.R_drewN | apply Kd.R_drew)); exact HO432.out) (Kd.R_base ho108) hb); have n5_ := Aside0.mk (Kd.S_below (by (with_reducible repeat (first | apply Kd.S_alloc | apply Kd.S_drewN | apply Kd.S_drew)); exact HO436.out) hb); have n6_ := Aside0.mk (Kd.R_lower (Kd.R_new' (Kd.R_new' (Kd.R_new' ho108 (Kd.R_lt (by (with_reducible repeat (first | apply Kd.R_alloc | apply Kd.R_drewN | apply Kd.R_drew)); exact HO418.out))) (Kd.R_lt (by (with_reducible repeat (first | apply Kd.R_alloc | apply Kd.R_drewN | apply Kd.R_drew)); exact HO425.out))) (Kd.R_lt (by (with_reducible repeat (first | apply Kd.R_alloc | apply Kd.R_drewN | apply Kd.R_drew)); exact HO432.out))) (below_size (by repeat (first | (with_reducible first | exact HB.out | apply below_alloc | apply pw_below_drewN | apply below_drew1) | exact HB.out)))); have n7_ := Aside0.mk (below_step (by repeat (first | (with_reducible first | exact HB.out | apply below_alloc | apply pw_below_drewN | apply below_drew1) | exact HB.out)) hb); clear HO418; clear HO422; clear HO425; clear HO429; clear HO432; clear HO436; clear HB; have HO418 := n0_; have HO422 := n1_; have HO425 := n2_; have HO429 := n3_; have HO432 := n4_; have HO436 := n5_; have HO439 := n6_; have HB := n7_; clear n0_ n1_ n2_ n3_ n4_ n5_ n6_ n7_; clear hb ho108; obtain ⟨Ao109, co109, eo109⟩ := Kd.S_slice HO436.out; subst eo109; obtain ⟨Ao110, co110, eo110⟩ := Kd.R_slice HO439.out; subst eo110) | ((with_reducible refine gate_callee (f := 40) rfl ?_); refine goesL_ (some 27) rfl rfl Try.func40 (by kernel_rfl) rfl #[.slice Ao109 t433.length co109, .int .i64 1, .int .i64 2, .slice Ao110 y437.length co110] rfl (by (try simp only [List.map_toArray, List.map_cons, List.map_nil]); first | done | rfl | (simp only [List.length_drop, List.length_take]; rfl)) ?_; (with_reducible refine (pools_First.calls k _ _ t433 1 2 _ _ y437 t440 t441 _ ?side1 ?side2 ?side3 ?side4 A4.out).mono ?_); (case side1 => repeat (first | exact (Kd.S_reads' HO436.out).2.2 | (with_reducible refine Kd.C_alloc ?_ _) | (with_reducible refine Kd.C_drewN ?_ _) | (with_reducible refine Kd.C_drew ?_))); (case side2 => exact (Kd.S_reads' HO436.out).2.1); (case side3 => repeat (first | exact (Kd.R_reads' HO439.out).2.2 | (with_reducible refine Kd.C_alloc ?_ _) | (with_reducible refine Kd.C_drewN ?_ _) | (with_reducible refine Kd.C_drew ?_))); (case side4 => exact (Kd.R_reads' HO439.out).2.1); rintro e w111 ⟨rfl, hb⟩; refine ⟨_, rfl, ?_⟩; have n0_ := Aside0.mk (Kd.R_below (by (with_reducible repeat (first | apply Kd.R_alloc | apply Kd.R_drewN | apply Kd.R_drew)); exact HO418.out) hb); have n1_ := Aside0.mk (Kd.S_below (by (with_reducible repeat (first | apply Kd.S_alloc | apply Kd.S_drewN | apply Kd.S_drew)); exact HO422.out) hb); have n2_ := Aside0.mk (Kd.R_below (by (with_reducible repeat (first | apply Kd.R_alloc | apply Kd.R_drewN | apply Kd.R_drew)); exact HO425.out) hb); have n3_ := Aside0.mk (Kd.S_below (by (with_reducible repeat (first | apply Kd.S_alloc | apply Kd.S_drewN | apply Kd.S_drew)); exact HO429.out) hb); have n4_ := Aside0.mk (Kd.R_below (by (with_reducible repeat (first | apply Kd.R_alloc | apply Kd.R_drewN | apply Kd.R_drew)); exact HO432.out) hb); have n5_ := Aside0.mk (Kd.S_below (by (with_reducible repeat (first | apply Kd.S_alloc | apply Kd.S_drewN | apply Kd.S_drew)); exact HO436.out) hb); have n6_ := Aside0.mk (Kd.R_below (by (with_reducible repeat (first | apply Kd.R_alloc | apply Kd.R_drewN | apply Kd.R_drew)); exact HO439.out) hb); have n7_ := Aside0.mk (below_step (by repeat (first | (with_reducible first | exact HB.out | apply below_alloc | apply pw_below_drewN | apply below_drew1) | exact HB.out)) hb); clear HO418; clear HO422; clear HO425; clear HO429; clear HO432; clear HO436; clear HO439; clear HB; have HO418 := n0_; have HO422 := n1_; have HO425 := n2_; have HO429 := n3_; have HO432 := n4_; have HO436 := n5_; have HO439 := n6_; have HB := n7_; clear n0_ n1_ n2_ n3_ n4_ n5_ n6_ n7_; (try clear hb); (try clear hb2); (try clear hk); (try clear hi)))
   go_ret
   exact ⟨by first | rfl | (simp [errW_none, errW_some] <;> rfl) | (simp [*, errW_none, errW_some] <;> rfl), by repeat (first | (with_reducible first | exact HB.out | apply below_alloc | apply pw_below_drewN | apply below_drew1) | exact HB.out)⟩
 ·rw [if_neg c5] at H
  have c5b0 : (t420 == 0) = false := beq_eq_false_iff_ne.mpr c5
  have c5b1 : (t420 != 0) = true := bne_iff_ne.mpr c5
  obtain rfl := Option.some.inj H
  go_enter Try.func34, Try.ntmps34
  go_wp2_with (first | ((with_reducible refine gate_dst (N := 8) rfl ?_); (try (refine gate_guard (by rfl) ?_; dsimp only)); refine Kd.R_lit (Kd.int .i64) _ 3 ?hg (N := 8) ?hd (xs := ([4, 2] : List Int)) (inner := [.int .i64 4, .int .i64 2]) (ok := fun _ => True) (okp := fun _ => True) ?hr ?hp (fun _ hk => hk) trivial (Below.refl _ _) (Nat.le_refl _) (by simp) ?_; (case hd => rfl); (case hg => rfl); (case hr => first | (go_simp; done) | (go_simp; rfl)); (case hp => exact (Reps.one (show Kd.M (Kd.int .i64) _ _ _ 4 [.int .i64 4] from rfl) (Reps.one (show Kd.M (Kd.int .i64) _ _ _ 2 [.int .i64 2] from rfl) (Reps.none _ _)))); intro v417 w112 ho113 hb hg_ hnew_; clear hg_ hnew_; (first | rw [← Ny416.out] at ho113 | (simp only [Int.reduceToNat] at ho113; rw [← Ny416.out] at ho113)); have n0_ := Aside0.mk (Kd.R_lower ho113 (below_size (by repeat (first | (with_reducible first | exact HB.out | apply below_alloc | apply pw_below_drewN | apply below_drew1) | exact HB.out)))); have n1_ := Aside0.mk (below_step (by repeat (first | (with_reducible first | exact HB.out | apply below_alloc | apply pw_below_drewN | apply below_drew1) | exact HB.out)) hb); clear HB; have HO418 := n0_; have HB := n1_; clear n0_ n1_; clear hb ho113; obtain ⟨Ao114, co114, eo114⟩ := Kd.R_slice HO418.out; subst eo114) | ((with_reducible refine gate_callee (f := 35) rfl ?_); refine goesL_ (some 9) rfl rfl Try.func35 (by kernel_rfl) rfl #[.slice Ao114 y416.length co114] rfl (by (try simp only [List.map_toArray, List.map_cons, List.map_nil]); first | done | rfl | (simp only [List.length_drop, List.length_take]; rfl)) ?_; (with_reducible refine (pools_New.calls k _ _ y416 t419 t420 _ ?side1 ?side2 A1.out).mono ?_); (case side1 => repeat (first | exact (Kd.R_reads' HO418.out).2.2 | (with_reducible refine Kd.C_alloc ?_ _) | (with_reducible refine Kd.C_drewN ?_ _) | (with_reducible refine Kd.C_drew ?_))); (case side2 => exact (Kd.R_reads' HO418.out).2.1); rintro e w115 ⟨v421, rfl, ho0, hb⟩; refine ⟨_, rfl, ?_⟩; have n0_ := Aside0.mk (Kd.R_below (by (with_reducible repeat (first | apply Kd.R_alloc | apply Kd.R_drewN | apply Kd.R_drew)); exact HO418.out) hb); have n1_ := Aside0.mk (Kd.S_lower ho0 (below_size (by repeat (first | (with_reducible first | exact HB.out | apply below_alloc | apply pw_below_drewN | apply below_drew1) | exact HB.out)))); have n2_ := Aside0.mk (below_step (by repeat (first | (with_reducible first | exact HB.out | apply below_alloc | apply pw_below_drewN | apply below_drew1) | exact HB.out)) hb); clear HO418; clear HB; have HO418 := n0_; have HO422 := n1_; have HB := n2_; clear n0_ n1_ n2_; (try clear hb); (try clear hb2); (try clear hk); (try clear hi); (try clear ho0)) | ((with_reducible refine gate_dst (N := 14) rfl ?_); (try (refine gate_guard (by rfl) ?_; dsimp only)); refine Kd.R_lit (Kd.int .i64) _ 3 ?hg (N := 14) ?hd (xs := ([3, 0] : List Int)) (inner := [.int .i64 3, .int .i64 0]) (ok := fun _ => True) (okp := fun _ => True) ?hr ?hp (fun _ hk => hk) trivial (Below.refl _ _) (Nat.le_refl _) (by simp) ?_; (case hd => rfl); (case hg => rfl); (case hr => first | (go_simp; done) | (go_simp; rfl)); (case hp => exact (Reps.one (show Kd.M (Kd.int .i64) _ _ _ 3 [.int .i64 3] from rfl) (Reps.one (show Kd.M (Kd.int .i64) _ _ _ 0 [.int .i64 0] from rfl) (Reps.none _ _)))); intro v424 w116 ho117 hb hg_ hnew_; clear hg_ hnew_; (first | rw [← Ny423.out] at ho117 | (simp only [Int.reduceToNat] at ho117; rw [← Ny423.out] at ho117)); have n0_ := Aside0.mk (Kd.R_elder' (by (with_reducible repeat (first | apply Kd.R_alloc | apply Kd.R_drewN | apply Kd.R_drew)); exact HO418.out) (Kd.R_base ho117) hb); have n1_ := Aside0.mk (Kd.S_below (by (with_reducible repeat (first | apply Kd.S_alloc | apply Kd.S_drewN | apply Kd.S_drew)); exact HO422.out) hb); have n2_ := Aside0.mk (Kd.R_lower (Kd.R_new' ho117 (Kd.R_lt (by (with_reducible repeat (first | apply Kd.R_alloc | apply Kd.R_drewN | apply Kd.R_drew)); exact HO418.out))) (below_size (by repeat (first | (with_reducible first | exact HB.out | apply below_alloc | apply pw_below_drewN | apply below_drew1) | exact HB.out)))); have n3_ := Aside0.mk (below_step (by repeat (first | (with_reducible first | exact HB.out | apply below_alloc | apply pw_below_drewN | apply below_drew1) | exact HB.out)) hb); clear HO418; clear HO422; clear HB; have HO418 := n0_; have HO422 := n1_; have HO425 := n2_; have HB := n3_; clear n0_ n1_ n2_ n3_; clear hb ho117; obtain ⟨Ao118, co118, eo118⟩ := Kd.S_slice HO422.out; subst eo118; obtain ⟨Ao119, co119, eo119⟩ := Kd.R_slice HO425.out; subst eo119) | ((with_reducible refine gate_callee (f := 42) rfl ?_); refine goesL_ (some 15) rfl rfl Try.func42 (by kernel_rfl) rfl #[.slice Ao118 t419.length co118, .int .i64 0, .int .i64 5, .slice Ao119 y423.length co119] rfl (by (try simp only [List.map_toArray, List.map_cons, List.map_nil]); first | done | rfl | (simp only [List.length_drop, List.length_take]; rfl)) ?_; (with_reducible refine (pools_Take.calls k _ _ t419 0 5 _ _ y423 t426 t427 _ ?side1 ?side2 ?side3 ?side4 A2.out).mono ?_); (case side1 => repeat (first | exact (Kd.S_reads' HO422.out).2.2 | (with_reducible refine Kd.C_alloc ?_ _) | (with_reducible refine Kd.C_drewN ?_ _) | (with_reducible refine Kd.C_drew ?_))); (case side2 => exact (Kd.S_reads' HO422.out).2.1); (case side3 => repeat (first | exact (Kd.R_reads' HO425.out).2.2 | (with_reducible refine Kd.C_alloc ?_ _) | (with_reducible refine Kd.C_drewN ?_ _) | (with_reducible refine Kd.C_drew ?_))); (case side4 => exact (Kd.R_reads' HO425.out).2.1); rintro e w120 ⟨v428, rfl, ho0, hb⟩; refine ⟨_, rfl, ?_⟩; have n0_ := Aside0.mk (Kd.R_below (by (with_reducible repeat (first | apply Kd.R_alloc | apply Kd.R_drewN | apply Kd.R_drew)); exact HO418.out) hb); have n1_ := Aside0.mk (Kd.S_elder' (by (with_reducible repeat (first | apply Kd.S_alloc | apply Kd.S_drewN | apply Kd.S_drew)); exact HO422.out) (Kd.S_base ho0) hb); have n2_ := Aside0.mk (Kd.R_below (by (with_reducible repeat (first | apply Kd.R_alloc | apply Kd.R_drewN | apply Kd.R_drew)); exact HO425.out) hb); have n3_ := Aside0.mk (Kd.S_lower (Kd.S_new' ho0 (Kd.S_lt (by (with_reducible repeat (first | apply Kd.S_alloc | apply Kd.S_drewN | apply Kd.S_drew)); exact HO422.out))) (below_size (by repeat (first | (with_reducible first | exact HB.out | apply below_alloc | apply pw_below_drewN | apply below_drew1) | exact HB.out)))); have n4_ := Aside0.mk (below_step (by repeat (first | (with_reducible first | exact HB.out | apply below_alloc | apply pw_below_drewN | apply below_drew1) | exact HB.out)) hb); clear HO418; clear HO422; clear HO425; clear HB; have HO418 := n0_; have HO422 := n1_; have HO425 := n2_; have HO429 := n3_; have HB := n4_; clear n0_ n1_ n2_ n3_ n4_; (try clear hb); (try clear hb2); (try clear hk); (try clear hi); (try clear ho0)) | ((with_reducible refine gate_dst (N := 20) rfl ?_); (try (refine gate_guard (by rfl) ?_; dsimp only)); refine Kd.R_lit (Kd.int .i64) _ 3 ?hg (N := 20) ?hd (xs := ([0, 2] : List Int)) (inner := [.int .i64 0, .int .i64 2]) (ok := fun _ => True) (okp := fun _ => True) ?hr ?hp (fun _ hk => hk) trivial (Below.refl _ _) (Nat.le_refl _) (by simp) ?_; (case hd => rfl); (case hg => rfl); (case hr => first | (go_simp; done) | (go_simp; rfl)); (case hp => exact (Reps.one (show Kd.M (Kd.int .i64) _ _ _ 0 [.int .i64 0] from rfl) (Reps.one (show Kd.M (Kd.int .i64) _ _ _ 2 [.int .i64 2] from rfl) (Reps.none _ _)))); intro v431 w121 ho122 hb hg_ hnew_; clear hg_ hnew_; (first | rw [← Ny430.out] at ho122 | (simp only [Int.reduceToNat] at ho122; rw [← Ny430.out] at ho122)); have n0_ := Aside0.mk (Kd.R_elder' (by (with_reducible repeat (first | apply Kd.R_alloc | apply Kd.R_drewN | apply Kd.R_drew)); exact HO418.out) (Kd.R_base ho122) hb); have n1_ := Aside0.mk (Kd.S_below (by (with_reducible repeat (first | apply Kd.S_alloc | apply Kd.S_drewN | apply Kd.S_drew)); exact HO422.out) hb); have n2_ := Aside0.mk (Kd.R_elder' (by (with_reducible repeat (first | apply Kd.R_alloc | apply Kd.R_drewN | apply Kd.R_drew)); exact HO425.out) (Kd.R_base ho122) hb); have n3_ := Aside0.mk (Kd.S_below (by (with_reducible repeat (first | apply Kd.S_alloc | apply Kd.S_drewN | apply Kd.S_drew)); exact HO429.out) hb); have n4_ := Aside0.mk (Kd.R_lower (Kd.R_new' (Kd.R_new' ho122 (Kd.R_lt (by (with_reducible repeat (first | apply Kd.R_alloc | apply Kd.R_drewN | apply Kd.R_drew)); exact HO418.out))) (Kd.R_lt (by (with_reducible repeat (first | apply Kd.R_alloc | apply Kd.R_drewN | apply Kd.R_drew)); exact HO425.out))) (below_size (by repeat (first | (with_reducible first | exact HB.out | apply below_alloc | apply pw_below_drewN | apply below_drew1) | exact HB.out)))); have n5_ := Aside0.mk (below_step (by repeat (first | (with_reducible first | exact HB.out | apply below_alloc | apply pw_below_drewN | apply below_drew1) | exact HB.out)) hb); clear HO418; clear HO422; clear HO425; clear HO429; clear HB; have HO418 := n0_; have HO422 := n1_; have HO425 := n2_; have HO429 := n3_; have HO432 := n4_; have HB := n5_; clear n0_ n1_ n2_ n3_ n4_ n5_; clear hb ho122; obtain ⟨Ao123, co123, eo123⟩ := Kd.S_slice HO429.out; subst eo123; obtain ⟨Ao124, co124, eo124⟩ := Kd.R_slice HO432.out; subst eo124) | ((with_reducible refine gate_callee (f := 42) rfl ?_); refine goesL_ (some 21) rfl rfl Try.func42 (by kernel_rfl) rfl #[.slice Ao123 t426.length co123, .int .i64 0, .int .i64 9, .slice Ao124 y430.length co124] rfl (by (try simp only [List.map_toArray, List.map_cons, List.map_nil]); first | done | rfl | (simp only [List.length_drop, List.length_take]; rfl)) ?_; (with_reducible refine (pools_Take.calls k _ _ t426 0 9 _ _ y430 t433 t434 _ ?side1 ?side2 ?side3 ?side4 A3.out).mono ?_); (case side1 => repeat (first | exact (Kd.S_reads' HO429.out).2.2 | (with_reducible refine Kd.C_alloc ?_ _) | (with_reducible refine Kd.C_drewN ?_ _) | (with_reducible refine Kd.C_drew ?_))); (case side2 => exact (Kd.S_reads' HO429.out).2.1); (case side3 => repeat (first | exact (Kd.R_reads' HO432.out).2.2 | (with_reducible refine Kd.C_alloc ?_ _) | (with_reducible refine Kd.C_drewN ?_ _) | (with_reducible refine Kd.C_drew ?_))); (case side4 => exact (Kd.R_reads' HO432.out).2.1); rintro e w125 ⟨v435, rfl, ho0, hb⟩; refine ⟨_, rfl, ?_⟩; have n0_ := Aside0.mk (Kd.R_below (by (with_reducible repeat (first | apply Kd.R_alloc | apply Kd.R_drewN | apply Kd.R_drew)); exact HO418.out) hb); have n1_ := Aside0.mk (Kd.S_elder' (by (with_reducible repeat (first | apply Kd.S_alloc | apply Kd.S_drewN | apply Kd.S_drew)); exact HO422.out) (Kd.S_base ho0) hb); have n2_ := Aside0.mk (Kd.R_below (by (with_reducible repeat (first | apply Kd.R_alloc | apply Kd.R_drewN | apply Kd.R_drew)); exact HO425.out) hb); have n3_ := Aside0.mk (Kd.S_elder' (by (with_reducible repeat (first | apply Kd.S_alloc | apply Kd.S_drewN | apply Kd.S_drew)); exact HO429.out) (Kd.S_base ho0) hb); have n4_ := Aside0.mk (Kd.R_below (by (with_reducible repeat (first | apply Kd.R_alloc | apply Kd.R_drewN | apply Kd.R_drew)); exact HO432.out) hb); have n5_ := Aside0.mk (Kd.S_lower (Kd.S_new' (Kd.S_new' ho0 (Kd.S_lt (by (with_reducible repeat (first | apply Kd.S_alloc | apply Kd.S_drewN | apply Kd.S_drew)); exact HO422.out))) (Kd.S_lt (by (with_reducible repeat (first | apply Kd.S_alloc | apply Kd.S_drewN | apply Kd.S_drew)); exact HO429.out))) (below_size (by repeat (first | (with_reducible first | exact HB.out | apply below_alloc | apply pw_below_drewN | apply below_drew1) | exact HB.out)))); have n6_ := Aside0.mk (below_step (by repeat (first | (with_reducible first | exact HB.out | apply below_alloc | apply pw_below_drewN | apply below_drew1) | exact HB.out)) hb); clear HO418; clear HO422; clear HO425; clear HO429; clear HO432; clear HB; have HO418 := n0_; have HO422 := n1_; have HO425 := n2_; have HO429 := n3_; have HO432 := n4_; have HO436 := n5_; have HB := n6_; clear n0_ n1_ n2_ n3_ n4_ n5_ n6_; (try clear hb); (try clear hb2); (try clear hk); (try clear hi); (try clear ho0)) | ((with_reducible refine gate_dst (N := 26) rfl ?_); (try (refine gate_guard (by rfl) ?_; dsimp only)); refine Kd.R_lit (Kd.int .i64) _ 3 ?hg (N := 26) ?hd (xs := ([2, 1] : List Int)) (inner := [.int .i64 2, .int .i64 1]) (ok := fun _ => True) (okp := fun _ => True) ?hr ?hp (fun _ hk => hk) trivial (Below.refl _ _) (Nat.le_refl _) (by simp) ?_; (case hd => rfl); (case hg => rfl); (case hr => first | (go_simp; done) | (go_simp; rfl)); (case hp => exact (Reps.one (show Kd.M (Kd.int .i64) _ _ _ 2 [.int .i64 2] from rfl) (Reps.one (show Kd.M (Kd.int .i64) _ _ _ 1 [.int .i64 1] from rfl) (Reps.none _ _)))); intro v438 w126 ho127 hb hg_ hnew_; clear hg_ hnew_; (first | rw [← Ny437.out] at ho127 | (simp only [Int.reduceToNat] at ho127; rw [← Ny437.out] at ho127)); have n0_ := Aside0.mk (Kd.R_elder' (by (with_reducible repeat (first | apply Kd.R_alloc | apply Kd.R_drewN | apply Kd.R_drew)); exact HO418.out) (Kd.R_base ho127) hb); have n1_ := Aside0.mk (Kd.S_below (by (with_reducible repeat (first | apply Kd.S_alloc | apply Kd.S_drewN | apply Kd.S_drew)); exact HO422.out) hb); have n2_ := Aside0.mk (Kd.R_elder' (by (with_reducible repeat (first | apply Kd.R_alloc | apply Kd.R_drewN | apply Kd.R_drew)); exact HO425.out) (Kd.R_base ho127) hb); have n3_ := Aside0.mk (Kd.S_below (by (with_reducible repeat (first | apply Kd.S_alloc | apply Kd.S_drewN | apply Kd.S_drew)); exact HO429.out) hb); have n4_ := Aside0.mk (Kd.R_elder' (by (with_reducible repeat (first | apply Kd.R_alloc | apply Kd.R_drewN | apply Kd.R_drew)); exact HO432.out) (Kd.R_base ho127) hb); have n5_ := Aside0.mk (Kd.S_below (by (with_reducible repeat (first | apply Kd.S_alloc | apply Kd.S_drewN | apply Kd.S_drew)); exact HO436.out) hb); have n6_ := Aside0.mk (Kd.R_lower (Kd.R_new' (Kd.R_new' (Kd.R_new' ho127 (Kd.R_lt (by (with_reducible repeat (first | apply Kd.R_alloc | apply Kd.R_drewN | apply Kd.R_drew)); exact HO418.out))) (Kd.R_lt (by (with_reducible repeat (first | apply Kd.R_alloc | apply Kd.R_drewN | apply Kd.R_drew)); exact HO425.out))) (Kd.R_lt (by (with_reducible repeat (first | apply Kd.R_alloc | apply Kd.R_drewN | apply Kd.R_drew)); exact HO432.out))) (below_size (by repeat (first | (with_reducible first | exact HB.out | apply below_alloc | apply pw_below_drewN | apply below_drew1) | exact HB.out)))); have n7_ := Aside0.mk (below_step (by repeat (first | (with_reducible first | exact HB.out | apply below_alloc | apply pw_below_drewN | apply below_drew1) | exact HB.out)) hb); clear HO418; clear HO422; clear HO425; clear HO429; clear HO432; clear HO436; clear HB; have HO418 := n0_; have HO422 := n1_; have HO425 := n2_; have HO429 := n3_; have HO432 := n4_; have HO436 := n5_; have HO439 := n6_; have HB := n7_; clear n0_ n1_ n2_ n3_ n4_ n5_ n6_ n7_; clear hb ho127; obtain ⟨Ao128, co128, eo128⟩ := Kd.S_slice HO436.out; subst eo128; obtain ⟨Ao129, co129, eo129⟩ := Kd.R_slice HO439.out; subst eo129) | ((with_reducible refine gate_callee (f := 40) rfl ?_); refine goesL_ (some 27) rfl rfl Try.func40 (by kernel_rfl) rfl #[.slice Ao128 t433.length co128, .int .i64 1, .int .i64 2, .slice Ao129 y437.length co129] rfl (by (try simp only [List.map_toArray, List.map_cons, List.map_nil]); first | done | rfl | (simp only [List.length_drop, List.length_take]; rfl)) ?_; (with_reducible refine (pools_First.calls k _ _ t433 1 2 _ _ y437 t440 t441 _ ?side1 ?side2 ?side3 ?side4 A4.out).mono ?_); (case side1 => repeat (first | exact (Kd.S_reads' HO436.out).2.2 | (with_reducible refine Kd.C_alloc ?_ _) | (with_reducible refine Kd.C_drewN ?_ _) | (with_reducible refine Kd.C_drew ?_))); (case side2 => exact (Kd.S_reads' HO436.out).2.1); (case side3 => repeat (first | exact (Kd.R_reads' HO439.out).2.2 | (with_reducible refine Kd.C_alloc ?_ _) | (with_reducible refine Kd.C_drewN ?_ _) | (with_reducible refine Kd.C_drew ?_))); (case side4 => exact (Kd.R_reads' HO439.out).2.1); rintro e w130 ⟨rfl, hb⟩; refine ⟨_, rfl, ?_⟩; have n0_ := Aside0.mk (Kd.R_below (by (with_reducible repeat (first | apply Kd.R_alloc | apply Kd.R_drewN | apply Kd.R_drew)); exact HO418.out) hb); have n1_ := Aside0.mk (Kd.S_below (by (with_reducible repeat (first | apply Kd.S_alloc | apply Kd.S_drewN | apply Kd.S_drew)); exact HO422.out) hb); have n2_ := Aside0.mk (Kd.R_below (by (with_reducible repeat (first | apply Kd.R_alloc | apply Kd.R_drewN | apply Kd.R_drew)); exact HO425.out) hb); have n3_ := Aside0.mk (Kd.S_below (by (with_reducible repeat (first | apply Kd.S_alloc | apply Kd.S_drewN | apply Kd.S_drew)); exact HO429.out) hb); have n4_ := Aside0.mk (Kd.R_below (by (with_reducible repeat (first | apply Kd.R_alloc | apply Kd.R_drewN | apply Kd.R_drew)); exact HO432.out) hb); have n5_ := Aside0.mk (Kd.S_below (by (with_reducible repeat (first | apply Kd.S_alloc | apply Kd.S_drewN | apply Kd.S_drew)); exact HO436.out) hb); have n6_ := Aside0.mk (Kd.R_below (by (with_reducible repeat (first | apply Kd.R_alloc | apply Kd.R_drewN | apply Kd.R_drew)); exact HO439.out) hb); have n7_ := Aside0.mk (below_step (by repeat (first | (with_reducible first | exact HB.out | apply below_alloc | apply pw_below_drewN | apply below_drew1) | exact HB.out)) hb); clear HO418; clear HO422; clear HO425; clear HO429; clear HO432; clear HO436; clear HO439; clear HB; have HO418 := n0_; have HO422 := n1_; have HO425 := n2_; have HO429 := n3_; have HO432 := n4_; have HO436 := n5_; have HO439 := n6_; have HB := n7_; clear n0_ n1_ n2_ n3_ n4_ n5_ n6_ n7_; (try clear hb); (try clear hb2); (try clear hk); (try clear hi)))
  go_ret
  exact ⟨by first | rfl | (simp [errW_none, errW_some] <;> rfl) | (simp [*, errW_none, errW_some] <;> rfl), by repeat (first | (with_reducible first | exact HB.out | apply below_alloc | apply pw_below_drewN | apply below_drew1) | exact HB.out)⟩

-- NOT PRINTED: function 10 (bailiwicklaw04_PoolsOne)

end Go.Proofs.Ytimllhflecippaa.F
end

section
namespace Go.Proofs.Ytimllhflecippaa.F
open Go.RowKit Go.Proofs.YtimllhflecippaaW.PrintWords Go.Proofs.YtimllhflecippaaW.PrintLast Go.Proofs.YtimllhflecippaaW.PrintMore
attribute [local go_sem] max2_int min2_int max_two min_two
set_option linter.unusedVariables false
set_option linter.unusedSimpArgs false

end Go.Proofs.Ytimllhflecippaa.F
end

section
namespace Go.Proofs.Ytimllhflecippaa.F
open Go.RowKit Go.Proofs.YtimllhflecippaaW.PrintWords Go.Proofs.YtimllhflecippaaW.PrintLast Go.Proofs.YtimllhflecippaaW.PrintMore
attribute [local go_sem] max2_int min2_int max_two min_two
set_option linter.unusedVariables false
set_option linter.unusedSimpArgs false

end Go.Proofs.Ytimllhflecippaa.F
end

section
namespace Go.Proofs.Ytimllhflecippaa.F
open Go.RowKit Go.Proofs.YtimllhflecippaaW.PrintWords Go.Proofs.YtimllhflecippaaW.PrintLast Go.Proofs.YtimllhflecippaaW.PrintMore
attribute [local go_sem] max2_int min2_int max_two min_two
set_option linter.unusedVariables false
set_option linter.unusedSimpArgs false

end Go.Proofs.Ytimllhflecippaa.F
end

section
namespace Go.Proofs.Ytimllhflecippaa.Pk
open Go.RowKit Go.Proofs.YtimllhflecippaaW.PrintWords Go.Proofs.YtimllhflecippaaW.PrintMore
set_option linter.unusedSimpArgs false
set_option linter.unusedVariables false

theorem w64 {n : Int} (h0 : -9223372036854775808 ≤ n) (h1 : n ≤ 9223372036854775807) : wrap64 n = n := by unfold wrap64; omega
theorem mx_eq (x y : Int) : mx x y = if x < y then y else x := by unfold mx; rfl
theorem mn_eq (x y : Int) : mn x y = if y < x then y else x := by unfold mn; rfl

theorem rd_nat (l : List Int) (i : Nat) : rd l (i : Int) = l.getD i 0 := by unfold rd; simp
end Go.Proofs.Ytimllhflecippaa.Pk
end

section
namespace Go.Proofs.Ytimllhflecippaa.StepP
open Go.RowKit Go.Proofs.YtimllhflecippaaW.PrintWords Go.Proofs.YtimllhflecippaaW.PrintMore Go.Proofs.Ytimllhflecippaa.F Go.Proofs.Ytimllhflecippaa.Pk
set_option linter.unusedSimpArgs false
set_option linter.unusedVariables false

abbrev St := S45
abbrev rdS (l : List St) (i : Int) : St := rd_T45 l i
/-- The i-th step's time and amount. -/
def At (l : List St) (i : Nat) : Int := (rdS l i).f0
def Vl (l : List St) (i : Nat) : Int := (rdS l i).f1
def Never : Int := 4611686018427387904
def amt (n : Int) : Prop := 0 ≤ n ∧ n ≤ 1048576
instance (n : Int) : Decidable (amt n) := by unfold amt; exact inferInstance
/-- Rising from 0 on, each step says something else. -/
structure Norm (l : List St) : Prop where
  pos : 0 < l.length
  zero : At l 0 = 0
  rise : ∀ i, i + 1 < l.length → At l i < At l (i + 1) ∧ Vl l i ≠ Vl l (i + 1)
  top : ∀ i, i < l.length → At l i ≤ Never
structure Right (l : List St) : Prop extends Norm l where
  len : l.length ≤ 1024
  amts : ∀ i, i < l.length → amt (Vl l i)
theorem Norm.lt {l : List St} (h : Norm l) : ∀ {i j : Nat}, i < j → j < l.length → At l i < At l j
  | i, 0, hi, _ => by omega
  | i, j + 1, hi, hj => by
    have h1 := (h.rise j hj).1
    rcases Nat.lt_or_ge i j with h2 | h2
    · have := Norm.lt h h2 (by omega); omega
    · have : i = j := by omega
      subst this; exact h1
theorem Norm.le {l : List St} (h : Norm l) {i j : Nat} (hij : i ≤ j) (hj : j < l.length) : At l i ≤ At l j := by
  rcases Nat.lt_or_ge i j with h1 | h1
  · exact Int.le_of_lt (h.lt h1 hj)
  · have : i = j := by omega
    subst this; exact Int.le_refl _
theorem Norm.ge0 {l : List St} (h : Norm l) {i : Nat} (hi : i < l.length) : 0 ≤ At l i := by have := h.le (Nat.zero_le i) hi; rw [h.zero] at this; exact this
/-- Step i holds at t. -/
def IsPl (l : List St) (t : Int) (i : Nat) : Prop := i < l.length ∧ At l i ≤ t ∧ (i + 1 < l.length → t < At l (i + 1))
theorem IsPl.uniq {l : List St} (h : Norm l) {t : Int} {i j : Nat} (hi : IsPl l t i) (hj : IsPl l t j) : i = j := by
  rcases Nat.lt_trichotomy i j with h1 | h1 | h1
  · have h2 := hi.2.2 (by have := hj.1; omega)
    have h3 := h.le (i := i + 1) (j := j) h1 hj.1
    have h4 := hj.2.1
    omega
  · exact h1
  · have h2 := hj.2.2 (by have := hi.1; omega)
    have h3 := h.le (i := j + 1) (j := i) h1 hi.1
    have h4 := hi.2.1
    omega
theorem IsPl.ex {l : List St} (h : Norm l) {t : Int} (ht : 0 ≤ t) : ∃ i, IsPl l t i := by
  have key : ∀ n, n < l.length → At l 0 ≤ t → (∃ i, IsPl l t i) ∨ At l n ≤ t := by
    intro n
    induction n with
    | zero => intro _ h0; exact .inr h0
    | succ n ih =>
      intro hn h0
      rcases ih (by omega) h0 with h1 | h1
      · exact .inl h1
      · by_cases h2 : At l (n + 1) ≤ t
        · exact .inr h2
        · exact .inl ⟨n, by omega, h1, fun _ => by omega⟩
  rcases key (l.length - 1) (by have := h.pos; omega) (by rw [h.zero]; exact ht) with h1 | h1
  · exact h1
  · exact ⟨l.length - 1, by have := h.pos; omega, h1, fun hc => by have := h.pos; omega⟩
open Classical in
/-- The step that holds, and what it says. -/
noncomputable def pl (l : List St) (t : Int) : Nat := if h : ∃ i, IsPl l t i then h.choose else 0
noncomputable def val (l : List St) (t : Int) : Int := Vl l (pl l t)
theorem pl_spec {l : List St} (h : Norm l) {t : Int} (ht : 0 ≤ t) : IsPl l t (pl l t) := by
  unfold pl
  rw [dif_pos (IsPl.ex h ht)]
  exact (IsPl.ex h ht).choose_spec
theorem pl_eq {l : List St} (h : Norm l) {t : Int} {i : Nat} (hi : IsPl l t i) : pl l t = i := by
  have h0 : 0 ≤ t := by have := hi.2.1; have := h.ge0 hi.1; omega
  exact IsPl.uniq h (pl_spec h h0) hi
theorem val_eq {l : List St} (h : Norm l) {t : Int} {i : Nat} (hi : IsPl l t i) : val l t = Vl l i := by unfold val; rw [pl_eq h hi]
theorem val_at {l : List St} (h : Norm l) {i : Nat} (hi : i < l.length) : val l (At l i) = Vl l i := val_eq h ⟨hi, Int.le_refl _, fun h1 => (h.rise i h1).1⟩
theorem plusE_eq (l : List St) (i : Nat) : plusE l i = if i + 1 < l.length then At l (i + 1) else Never + 1 := by
  unfold plusE At Never
  by_cases h : i + 1 < l.length
  · rw [if_pos (by omega), if_pos h]; rfl
  · rw [if_neg (by omega), if_neg h]; rfl
end Go.Proofs.Ytimllhflecippaa.StepP
/- Layer 3, plainly: what the functions of step and of the third reference answer. -/
namespace Go.Proofs.Ytimllhflecippaa.StepQ
open Go.RowKit Go.Proofs.YtimllhflecippaaW.PrintWords Go.Proofs.YtimllhflecippaaW.PrintMore Go.Proofs.Ytimllhflecippaa.F Go.Proofs.Ytimllhflecippaa.Pk Go.Proofs.Ytimllhflecippaa.StepP
set_option linter.unusedSimpArgs false
set_option linter.unusedVariables false

theorem nx (i : Nat) (h : i < 9223372036854775807) : wrap64 ((i : Int) + 1) = ((i + 1 : Nat) : Int) := by rw [w64 (by omega) (by omega)]; rfl
theorem pv (i : Nat) (h : i < 9223372036854775807) (h0 : 0 < i) : wrap64 ((i : Int) - 1) = ((i - 1 : Nat) : Int) := by rw [w64 (by omega) (by omega)]; omega
theorem at_ (l : List St) (i : Nat) : (rdS l (i : Int)).f0 = At l i := Eq.trans rfl rfl
theorem vl_ (l : List St) (i : Nat) : (rdS l (i : Int)).f1 = Vl l i := Eq.trans rfl rfl
theorem wright (a : Int) : when_Right.f a = some (decide (0 ≤ a ∧ a ≤ Never)) := by
  unfold when_Right.f Never
  by_cases h : a ≥ 0
  · rw [if_pos h]; congr 1; exact decide_eq_decide.2 (by omega)
  · rw [if_neg h]; congr 1; exact (decide_eq_false (by omega)).symm
theorem samt (a : Int) : step_amount.f a = some (decide (amt a)) := by
  unfold step_amount.f
  by_cases h : a ≥ 0
  · rw [if_pos h]; congr 1; exact decide_eq_decide.2 (by unfold amt; omega)
  · rw [if_neg h]; congr 1; exact (decide_eq_false (by unfold amt; omega)).symm
/-- One step is right, beside that ahead of it. -/
def good (l : List St) (i : Nat) : Prop := amt (Vl l i) ∧ (0 ≤ At l i ∧ At l i ≤ Never) ∧ (0 < i → At l (i - 1) < At l i ∧ Vl l i ≠ Vl l (i - 1))
theorem right_iff (l : List St) : Right l ↔ 1 ≤ l.length ∧ l.length ≤ 1024 ∧ At l 0 = 0 ∧ ∀ i, 0 ≤ i → i < l.length → good l i := by
  constructor
  · intro h
    refine ⟨h.pos, h.len, h.zero, fun i _ hi => ⟨h.amts i hi, ⟨h.ge0 hi, h.top i hi⟩, fun h0 => ?_⟩⟩
    have := h.rise (i - 1) (by omega)
    rw [show i - 1 + 1 = i by omega] at this
    exact ⟨this.1, this.2.symm⟩
  · rintro ⟨h1, h2, h3, h4⟩
    refine { pos := h1, zero := h3, rise := fun i hi => ?_, top := fun i hi => (h4 i (by omega) hi).2.1.2, len := h2, amts := fun i hi => (h4 i (by omega) hi).1 }
    have := (h4 (i + 1) (by omega) hi).2.2 (by omega)
    exact ⟨this.1, this.2.symm⟩
theorem all_step {P : Nat → Prop} {i n : Nat} (h : i < n) : (∀ j, i ≤ j → j < n → P j) ↔ P i ∧ ∀ j, i + 1 ≤ j → j < n → P j := by
  constructor
  · exact fun a => ⟨a i (by omega) h, fun j h1 h2 => a j (by omega) h2⟩
  · rintro ⟨a, b⟩ j h1 h2
    rcases Nat.lt_or_ge i j with h3 | h3
    · exact b j h3 h2
    · have : j = i := by omega
      rw [this]; exact a
theorem bool_false {b : Bool} {P : Prop} (h : b = true ↔ P) (n : ¬ P) : b = false := by cases b; rfl; exact absurd (h.1 rfl) n
theorem bool_true {b : Bool} {P : Prop} (h : b = true ↔ P) (n : P) : b = true := h.2 n
theorem right_loop (l : List St) (hl : l.length ≤ 1024) : ∀ (d i : Nat) (b : Bool), l.length - i = d → i ≤ l.length → (b = true ↔ ∀ j, i ≤ j → j < l.length → good l j) → Ev (fun k => step_Right.l0 k l l (l.length : Int) (i : Int)) b
  | 0, i, b, hd, hi, hb => by
    rw [bool_true hb (fun j h1 h2 => by omega)]
    refine Ev.step (f := fun _ => some true) (fun k => ?_) (Ev.now _)
    simp only [step_Right.l0]
    rw [if_neg (by omega)]
  | d + 1, i, b, hd, hi, hb => by
    have hlt : i < l.length := by omega
    rw [all_step hlt] at hb
    have q1 : (i : Int) < (l.length : Int) := by omega
    have q2 : (0 : Int) ≤ (i : Int) := by omega
    by_cases c1 : amt (Vl l i)
    · by_cases c2 : 0 ≤ At l i ∧ At l i ≤ Never
      · by_cases c3 : 0 < i
        · have e1 := pv i (by omega) c3
          have q3 : (i : Int) > 0 := by clear e1; omega
          have q4 : (0 : Int) ≤ ((i - 1 : Nat) : Int) := by clear e1; omega
          have q5 : ((i - 1 : Nat) : Int) < (l.length : Int) := by clear e1; omega
          by_cases c4 : At l i ≤ At l (i - 1)
          · rw [bool_false hb (fun hg => by have := (hg.1.2.2 c3).1; omega)]
            refine Ev.step (f := fun _ => some false) (fun k => ?_) (Ev.now _)
            simp only [step_Right.l0, at_, vl_, samt, wright, Option.bind_some, if_pos q1, if_pos q2, c1, c2, decide_true, if_true, if_pos q3, e1, if_pos q4, if_pos q5, if_pos c4, and_self]
          · by_cases c5 : Vl l i = Vl l (i - 1)
            · rw [bool_false hb (fun hg => (hg.1.2.2 c3).2 c5)]
              refine Ev.step (f := fun _ => some false) (fun k => ?_) (Ev.now _)
              simp only [step_Right.l0, at_, vl_, samt, wright, Option.bind_some, if_pos q1, if_pos q2, c1, c2, decide_true, if_true, if_pos q3, e1, if_pos q4, if_pos q5, if_neg c4, if_pos c5, and_self]
            · refine Ev.step (fun k => ?_) (right_loop l hl d (i + 1) b (by omega) (by omega) (hb.trans ⟨fun h => h.2, fun h => ⟨⟨c1, c2, fun _ => ⟨by omega, c5⟩⟩, h⟩⟩))
              simp only [step_Right.l0, at_, vl_, samt, wright, Option.bind_some, if_pos q1, if_pos q2, c1, c2, decide_true, if_true, if_pos q3, e1, if_pos q4, if_pos q5, if_neg c4, if_neg c5, nx i (by omega), and_self]
        · have q3 : ¬ (i : Int) > 0 := by omega
          refine Ev.step (fun k => ?_) (right_loop l hl d (i + 1) b (by omega) (by omega) (hb.trans ⟨fun h => h.2, fun h => ⟨⟨c1, c2, fun h => absurd h c3⟩, h⟩⟩))
          simp only [step_Right.l0, at_, vl_, samt, wright, Option.bind_some, if_pos q1, if_pos q2, c1, c2, decide_true, if_true, if_neg q3, nx i (by omega), and_self]
      · rw [bool_false hb (fun hg => c2 hg.1.2.1)]
        refine Ev.step (f := fun _ => some false) (fun k => ?_) (Ev.now _)
        simp only [step_Right.l0, at_, vl_, samt, wright, Option.bind_some, if_pos q1, if_pos q2, c1, c2, decide_true, decide_false, if_true, Bool.false_eq_true, if_false]
    · rw [bool_false hb (fun hg => c1 hg.1.1)]
      refine Ev.step (f := fun _ => some false) (fun k => ?_) (Ev.now _)
      simp only [step_Right.l0, at_, vl_, samt, wright, Option.bind_some, if_pos q1, if_pos q2, c1, decide_false, if_true, Bool.false_eq_true, if_false]
theorem right_ev (l : List St) (b : Bool) (hb : b = true ↔ Right l) : Ev (fun k => step_Right.f k l) b := by
  have no : ¬ Right l → Ev (fun k => step_Right.j0 k l true) b := by
    intro h
    rw [bool_false hb h]
    exact Ev.step (f := fun _ => some false) (fun k => by simp only [step_Right.j0, if_true]) (Ev.now _)
  rw [right_iff] at no
  by_cases c1 : (l.length : Int) < 1
  · refine Ev.congr (fun k => ?_) (no (fun h => by have := h.1; omega))
    simp only [step_Right.f, if_pos c1]
  by_cases c2 : (l.length : Int) > 1024
  · refine Ev.congr (fun k => ?_) (no (fun h => by have := h.2.1; omega))
    simp only [step_Right.f, if_neg c1, if_pos c2]
  have q : (0 : Int) < (l.length : Int) := by omega
  have a0 : (rdS l 0).f0 = At l 0 := rfl
  by_cases c3 : At l 0 = 0
  · refine Ev.congr (f := fun k => step_Right.j0 k l false) (fun k => ?_) ?_
    · simp only [step_Right.f, if_neg c1, if_neg c2, if_pos q, a0, c3]; rfl
    · refine Ev.step (fun k => ?_) (right_loop l (by omega) l.length 0 b (by omega) (by omega) (hb.trans ((right_iff l).trans ⟨fun h => h.2.2.2, fun h => ⟨by omega, by omega, c3, h⟩⟩)))
      simp only [step_Right.j0, Bool.false_eq_true, if_false]; rfl
  · refine Ev.congr (fun k => ?_) (no (fun h => c3 h.2.2.1))
    simp only [step_Right.f, if_neg c1, if_neg c2, if_pos q, a0, bne, beq_false_of_ne c3]; rfl
theorem right_yes {l : List St} (h : Right l) : Ev (fun k => step_Right.f k l) true := right_ev l true ⟨fun _ => h, fun _ => rfl⟩
theorem right_no {l : List St} (h : ¬ Right l) : Ev (fun k => step_Right.f k l) false := right_ev l false ⟨fun h' => Bool.noConfusion h', fun h' => absurd h' h⟩

def May (l : List St) (f t : Int) : Prop := Right l ∧ 0 ≤ f ∧ f < t ∧ t ≤ Never
theorem may_yes {l : List St} {f t : Int} (h : May l f t) : Ev (fun k => step_may.f k l f t) true := by
  obtain ⟨h0, h1, h2, h3⟩ := h
  refine Ev.bind (right_yes h0) ?_
  simp only [if_true, wright, Option.bind_some, decide_eq_true (show 0 ≤ f ∧ f ≤ Never by omega), decide_eq_true (show 0 ≤ t ∧ t ≤ Never by omega), decide_eq_true h2]
  exact Ev.now _
theorem may_no {l : List St} {f t : Int} (h : ¬ May l f t) : Ev (fun k => step_may.f k l f t) false := by
  by_cases c0 : Right l
  · refine Ev.bind (right_yes c0) ?_
    simp only [if_true, wright, Option.bind_some]
    by_cases c1 : 0 ≤ f ∧ f ≤ Never
    · by_cases c2 : 0 ≤ t ∧ t ≤ Never
      · have c3 : ¬ f < t := fun c => h ⟨c0, c1.1, c, c2.2⟩
        simp only [decide_eq_true c1, decide_eq_true c2, if_true, decide_eq_false c3]
        exact Ev.now _
      · simp only [decide_eq_true c1, decide_eq_false c2, if_true, Bool.false_eq_true, if_false]
        exact Ev.now _
    · simp only [decide_eq_false c1, Bool.false_eq_true, if_false]
      exact Ev.now _
  · refine Ev.bind (right_no c0) ?_
    simp only [Bool.false_eq_true, if_false]
    exact Ev.now _

theorem half (i j : Nat) (h : i + j < 9223372036854775807) : wrap64 ((IntKind.u64.wrap (wrap64 ((i : Int) + (j : Int)))) / 2) = (((i + j) / 2 : Nat) : Int) := by
  rw [w64 (n := (i : Int) + j) (by omega) (by omega), IntKind.wrap_u64]
  rw [w64 (by omega) (by omega)]
  omega
theorem search_loop {l : List St} (h : Right l) (t : Int) : ∀ (d i j : Nat), j - i ≤ d → i ≤ j → j ≤ l.length → (∀ x, x < i → At l x < t) → (∀ x, j ≤ x → x < l.length → t ≤ At l x) →
    ∃ p : Nat, (p ≤ l.length ∧ (∀ x, x < p → At l x < t) ∧ (∀ x, p ≤ x → x < l.length → t ≤ At l x)) ∧ Ev (fun k => slices_BinarySearchFunc_api_Step_api_Step_int64__at_step_place_1.l0 k l t (l.length : Int) (i : Int) (j : Int)) ((p : Int), decide (p < l.length ∧ At l p = t)) := by
  intro d
  induction d with
  | zero =>
    intro i j hd hij hj h1 h2
    have : j = i := by omega
    subst this
    refine ⟨j, ⟨hj, h1, h2⟩, ?_⟩
    have q : ¬ (j : Int) < (j : Int) := by omega
    by_cases c : j < l.length
    · have q1 : (j : Int) < (l.length : Int) := by omega
      have q2 : (0 : Int) ≤ (j : Int) := by omega
      have hge := h2 j (by omega) c
      have n1 : ¬ At l j < t := by omega
      by_cases c1 : At l j > t
      · refine Ev.step (f := fun _ => some ((j : Int), false)) (fun k => ?_) ?_
        · simp only [slices_BinarySearchFunc_api_Step_api_Step_int64__at_step_place_1.l0, if_neg q, if_pos q1, if_pos q2, step_place_1.f, at_, if_neg n1, if_pos c1, Option.bind_some]
          rfl
        · rw [decide_eq_false (show ¬ (j < l.length ∧ At l j = t) by omega)]
          exact Ev.now _
      · refine Ev.step (f := fun _ => some ((j : Int), true)) (fun k => ?_) ?_
        · simp only [slices_BinarySearchFunc_api_Step_api_Step_int64__at_step_place_1.l0, if_neg q, if_pos q1, if_pos q2, step_place_1.f, at_, if_neg n1, if_neg c1, Option.bind_some]
          rfl
        · rw [decide_eq_true (show (j < l.length ∧ At l j = t) by omega)]
          exact Ev.now _
    · have q1 : ¬ (j : Int) < (l.length : Int) := by omega
      refine Ev.step (f := fun _ => some ((j : Int), false)) (fun k => ?_) ?_
      · simp only [slices_BinarySearchFunc_api_Step_api_Step_int64__at_step_place_1.l0, if_neg q, if_neg q1]
      · rw [decide_eq_false (show ¬ (j < l.length ∧ At l j = t) by omega)]
        exact Ev.now _
  | succ d ih =>
    intro i j hd hij hj h1 h2
    by_cases hlt : i < j
    · have hlen := h.len
      have e := half i j (by omega)
      have q : (i : Int) < (j : Int) := by omega
      have hm : i ≤ (i + j) / 2 ∧ (i + j) / 2 < j := by omega
      generalize (i + j) / 2 = m at e hm
      have q1 : (0 : Int) ≤ (m : Int) := by omega
      have q2 : (m : Int) < (l.length : Int) := by omega
      by_cases c : At l m < t
      · obtain ⟨p, hp, hev⟩ := ih (m + 1) j (by omega) (by omega) hj (fun x hx => by
          have := h.le (i := x) (j := m) (by omega) (by omega)
          omega) h2
        refine ⟨p, hp, Ev.step (fun k => ?_) hev⟩
        simp only [slices_BinarySearchFunc_api_Step_api_Step_int64__at_step_place_1.l0, if_pos q, e, if_pos q1, if_pos q2, step_place_1.f, at_, if_pos c, Option.bind_some, nx m (by omega)]
        rfl
      · obtain ⟨p, hp, hev⟩ := ih i m (by omega) (by omega) (by omega) h1 (fun x hx hx2 => by
          have := h.le (i := m) (j := x) (by omega) (by omega)
          omega)
        refine ⟨p, hp, Ev.step (fun k => ?_) hev⟩
        by_cases c1 : At l m > t
        · simp only [slices_BinarySearchFunc_api_Step_api_Step_int64__at_step_place_1.l0, if_pos q, e, if_pos q1, if_pos q2, step_place_1.f, at_, if_neg c, if_pos c1, Option.bind_some]
          rfl
        · simp only [slices_BinarySearchFunc_api_Step_api_Step_int64__at_step_place_1.l0, if_pos q, e, if_pos q1, if_pos q2, step_place_1.f, at_, if_neg c, if_neg c1, Option.bind_some]
          rfl
    · exact ih i j (by omega) hij hj h1 h2
theorem place_ev {l : List St} (h : Right l) {t : Int} (ht : 0 ≤ t) : Ev (fun k => step_place.f k l t) ((pl l t : Nat) : Int) := by
  obtain ⟨p, ⟨h1, h2, h3⟩, hev⟩ := search_loop h t l.length 0 l.length (by omega) (by omega) (by omega) (fun x hx => by omega) (fun x hx hx2 => by omega)
  refine Ev.bind hev ?_
  by_cases c : p < l.length ∧ At l p = t
  · simp only [decide_eq_true c, if_true]
    rw [pl_eq h.toNorm (i := p) ⟨c.1, by omega, fun hn => by have := (h.rise p hn).1; omega⟩]
    exact Ev.now _
  · simp only [decide_eq_false c, Bool.false_eq_true, if_false]
    have hp : 0 < p := by
      rcases Nat.eq_zero_or_pos p with h0 | h0
      · subst h0
        have := h3 0 (by omega) h.pos
        rw [h.zero] at this
        exact absurd ⟨h.pos, by rw [h.zero]; omega⟩ c
      · exact h0
    rw [pv p (by have := h.len; omega) hp]
    have h4 := h2 (p - 1) (by omega)
    rw [pl_eq h.toNorm (i := p - 1) ⟨by omega, by omega, fun hn => by
      rw [show p - 1 + 1 = p by omega] at hn ⊢
      have := h3 p (by omega) hn
      have : At l p ≠ t := fun he => c ⟨hn, he⟩
      omega⟩]
    exact Ev.now _

theorem at_ev {l : List St} (h : Right l) {t : Int} (h0 : 0 ≤ t) (h1 : t ≤ Never) : Ev (fun k => step_At.f k l t) (val l t) := by
  refine Ev.bind (right_yes h) ?_
  simp only [if_true, wright, Option.bind_some, decide_eq_true (show 0 ≤ t ∧ t ≤ Never from ⟨h0, h1⟩)]
  refine Ev.bind (place_ev h h0) ?_
  have := (pl_spec h.toNorm h0).1
  simp only [if_pos (show (0 : Int) ≤ ((pl l t : Nat) : Int) by omega), if_pos (show ((pl l t : Nat) : Int) < (l.length : Int) by omega)]
  exact Ev.now _
theorem at_no {l : List St} {t : Int} (h : ¬ (Right l ∧ 0 ≤ t ∧ t ≤ Never)) : Ev (fun k => step_At.f k l t) 0 := by
  by_cases c : Right l
  · refine Ev.bind (right_yes c) ?_
    simp only [if_true, wright, Option.bind_some, decide_eq_false (show ¬ (0 ≤ t ∧ t ≤ Never) from fun h' => h ⟨c, h'⟩), Bool.false_eq_true, if_false]
    exact Ev.now _
  · refine Ev.bind (right_no c) ?_
    simp only [Bool.false_eq_true, if_false]
    exact Ev.now _
/-- The least amount in a span. -/
def IsLeast (l : List St) (f t m : Int) : Prop := ∀ n, n ≤ m ↔ (n ≤ 1048576 ∧ ∀ x, f ≤ x → x < t → n ≤ val l x)
/-- What holds at all times of a span holds in its steps. -/
theorem span_iff {l : List St} (h : Norm l) {f t : Int} (h0 : 0 ≤ f) (h1 : f < t) (P : Int → Prop) : (∀ x, f ≤ x → x < t → P (val l x)) ↔ ∀ j, pl l f ≤ j → j < l.length → At l j < t → P (Vl l j) := by
  have hp := pl_spec h h0
  constructor
  · intro a j h2 h3 h4
    rcases Nat.lt_or_ge (pl l f) j with h5 | h5
    · have h6 := hp.2.2 (by omega)
      have h7 := h.le (i := pl l f + 1) (j := j) h5 h3
      have := a (At l j) (by omega) h4
      rwa [val_at h h3] at this
    · have : j = pl l f := by omega
      subst this
      exact a f (Int.le_refl _) h1
  · intro a x h2 h3
    have hx := pl_spec h (t := x) (by omega)
    refine a (pl l x) ?_ hx.1 (by have := hx.2.1; omega)
    rcases Nat.lt_or_ge (pl l x) (pl l f) with h5 | h5
    · have h6 := hx.2.2 (by have := hp.1; omega)
      have h7 := h.le (i := pl l x + 1) (j := pl l f) h5 hp.1
      have := hp.2.1
      omega
    · exact h5
theorem least_loop {l : List St} (h : Right l) (t : Int) : ∀ (d i : Nat) (a : Int), l.length - i = d → i ≤ l.length → ∃ m, Ev (fun k => step_least.l0 k l t a (i : Int)) m ∧ ∀ n, n ≤ m ↔ (n ≤ a ∧ ∀ j, i ≤ j → j < l.length → At l j < t → n ≤ Vl l j)
  | 0, i, a, hd, hi => by
    refine ⟨a, Ev.step (f := fun _ => some a) (fun k => ?_) (Ev.now _), fun n => ⟨fun hn => ⟨hn, fun j h1 h2 => by omega⟩, fun hn => hn.1⟩⟩
    simp only [step_least.l0]
    rw [if_neg (by omega)]
  | d + 1, i, a, hd, hi => by
    have hlt : i < l.length := by omega
    have q1 : (i : Int) < (l.length : Int) := by omega
    have q2 : (0 : Int) ≤ (i : Int) := by omega
    by_cases c : At l i < t
    · obtain ⟨m, hev, hm⟩ := least_loop h t d (i + 1) (mn a (Vl l i)) (by omega) (by omega)
      refine ⟨m, Ev.step (fun k => ?_) hev, fun n => ?_⟩
      · simp only [step_least.l0, if_pos q1, if_pos q2, at_, vl_, if_pos c, nx i (by have := h.len; omega)]
      · rw [hm n, all_step hlt, mn_eq]
        constructor
        · rintro ⟨x, y⟩
          exact ⟨by split at x <;> omega, fun _ => by split at x <;> omega, y⟩
        · rintro ⟨x, y, z⟩
          exact ⟨by have := y c; split <;> omega, z⟩
    · refine ⟨a, Ev.step (f := fun _ => some a) (fun k => ?_) (Ev.now _), fun n => ⟨fun hn => ⟨hn, fun j h1 h2 h3 => ?_⟩, fun hn => hn.1⟩⟩
      · simp only [step_least.l0, if_pos q1, if_pos q2, at_, vl_, if_neg c]
      · have := h.le (i := i) (j := j) h1 h2
        omega
theorem least_ev {l : List St} (h : Right l) {f t : Int} (h0 : 0 ≤ f) (h1 : f < t) : ∃ m, Ev (fun k => step_least.f k l f t) m ∧ IsLeast l f t m := by
  obtain ⟨m, hev, hm⟩ := least_loop h t (l.length - pl l f) (pl l f) 1048576 rfl (by have := (pl_spec h.toNorm h0).1; omega)
  refine ⟨m, Ev.bind (place_ev h h0) hev, fun n => ?_⟩
  rw [hm n, span_iff h.toNorm h0 h1 (fun v => n ≤ v)]
def nr (t : Int) : Int := if t < 0 then 0 else if Never < t then Never else t
def pls (a b : Int) : Int := if Never < nr a + nr b then Never else nr a + nr b
theorem nr_rng (a : Int) : 0 ≤ nr a ∧ nr a ≤ Never := by unfold nr Never; split; omega; split <;> omega
theorem near_ev (a : Int) : when_near.f a = some (nr a) := by
  unfold when_near.f nr Never
  rw [mx_eq, mn_eq]
  congr 1
  split <;> split <;> (try split) <;> omega
theorem plus_ev (a b : Int) : when_Plus.f a b = some (pls a b) := by
  unfold when_Plus.f
  simp only [near_ev, Option.bind_some]
  have h1 := nr_rng a
  have h2 := nr_rng b
  unfold Never at h1 h2
  congr 1
  unfold pls Never
  generalize nr a = x at *
  generalize nr b = y at *
  rw [mn_eq, w64 (n := 4611686018427387904 - x) (by omega) (by omega)]
  by_cases c : 4611686018427387904 - x < y
  · rw [if_pos c, if_pos (by omega), w64 (by omega) (by omega)]; omega
  · rw [if_neg c, if_neg (by omega), w64 (by omega) (by omega)]
theorem pls_val {t long : Int} (h0 : 0 ≤ t) (h1 : t ≤ Never) (h2 : 1 ≤ long) : pls t long = if Never < t + long then Never else t + long := by
  unfold Never at h1
  have e1 : nr t = t := by unfold nr Never; rw [if_neg (by omega), if_neg (by omega)]
  unfold pls
  rw [e1]
  by_cases c : 4611686018427387904 < long
  · have e2 : nr long = 4611686018427387904 := by unfold nr Never; rw [if_neg (by omega), if_pos c]
    rw [e2]
    unfold Never
    by_cases c1 : t = 0
    · subst c1; rw [if_neg (by omega), if_pos (by omega)]; rfl
    · rw [if_pos (by omega), if_pos (by omega)]
  · have e2 : nr long = long := by unfold nr Never; rw [if_neg (by omega), if_neg c]
    rw [e2]
theorem pls_gt {t long : Int} (h0 : 0 ≤ t) (h1 : t < Never) (h2 : 1 ≤ long) : t < pls t long ∧ pls t long ≤ Never := by
  rw [pls_val h0 (by omega) h2]; split <;> omega
theorem pls_le {t t' long : Int} (h0 : 0 ≤ t) (h : t ≤ t') (h1 : t' ≤ Never) (h2 : 1 ≤ long) : pls t long ≤ pls t' long := by
  rw [pls_val h0 (by omega) h2, pls_val (by omega) h1 h2]; split <;> split <;> omega
def Fits (l : List St) (long n t : Int) : Prop := ∀ y, t ≤ y → y < pls t long → n ≤ val l y
def FirstIs (l : List St) (f long n : Int) (r : Int × Bool) : Prop := (r = (0, false) ∧ ∀ x, f ≤ x → x < Never → ¬ Fits l long n x) ∨ ∃ t, r = (t, true) ∧ f ≤ t ∧ t < Never ∧ Fits l long n t ∧ ∀ x, f ≤ x → x < t → ¬ Fits l long n x
theorem FirstIs.uniq {l : List St} {f long n : Int} {r r' : Int × Bool} (h : FirstIs l f long n r) (h' : FirstIs l f long n r') : r = r' := by
  rcases h with ⟨e, h⟩ | ⟨t, e, h1, h2, h3, h4⟩ <;> rcases h' with ⟨e', h'⟩ | ⟨t', e', h1', h2', h3', h4'⟩
  · rw [e, e']
  · exact absurd h3' (h _ h1' h2')
  · exact absurd h3 (h' _ h1 h2)
  · rcases Int.lt_trichotomy t t' with c | c | c
    · exact absurd h3 (h4' _ h1 c)
    · rw [e, e', c]
    · exact absurd h3' (h4 _ h1' c)
/-- What First's arguments must be. -/
def FirstOk (l : List St) (f long n : Int) : Prop := Right l ∧ (0 ≤ f ∧ f < Never) ∧ 1 ≤ long ∧ amt n
theorem first_loop {l : List St} (h : Right l) {f long n : Int} (hf : 0 ≤ f) (hlong : 1 ≤ long) : ∀ (d i : Nat) (t : Int), l.length - i = d → i ≤ l.length → f ≤ t → t ≤ Never → pl l t ≤ i → (∀ j, pl l t ≤ j → j < i → n ≤ Vl l j) → (∀ x, f ≤ x → x < t → ¬ Fits l long n x) →
    ∃ r, Ev (fun k => step_First.l0 k l long n t (i : Int)) r ∧ FirstIs l f long n r := by
  intro d
  have out : ∀ (i : Nat) (t : Int), f ≤ t → t ≤ Never → pl l t ≤ i → (∀ j, pl l t ≤ j → j < i → n ≤ Vl l j) → (∀ x, f ≤ x → x < t → ¬ Fits l long n x) → (∀ j, i ≤ j → j < l.length → pls t long ≤ At l j) →
      ∃ r, Ev (fun k => step_First.j2 k l long n t (i : Int) false) r ∧ FirstIs l f long n r := by
    intro i t h1 h2 h3 h4 h5 h6
    by_cases c : t = 4611686018427387904
    · refine ⟨(0, false), Ev.step (f := fun _ => some (0, false)) (fun k => ?_) (Ev.now _), .inl ⟨rfl, fun x hx hx2 => h5 x hx (by unfold Never at hx2; omega)⟩⟩
      simp only [step_First.j2, Bool.false_eq_true, if_false, if_pos c]
    · have htn : t < Never := by unfold Never at h2 ⊢; omega
      refine ⟨(t, true), Ev.step (f := fun _ => some (t, true)) (fun k => ?_) (Ev.now _), .inr ⟨t, rfl, h1, htn, ?_, h5⟩⟩
      · simp only [step_First.j2, Bool.false_eq_true, if_false, if_neg c]
      · have hp := pls_gt (by omega) htn hlong
        refine (span_iff h.toNorm (by omega) hp.1 (fun v => n ≤ v)).2 (fun j a1 a2 a3 => ?_)
        rcases Nat.lt_or_ge j i with c1 | c1
        · exact h4 j a1 c1
        · have := h6 j c1 a2; omega
  induction d with
  | zero =>
    intro i t hd hi h1 h2 h3 h4 h5
    obtain ⟨r, hev, hr⟩ := out i t h1 h2 h3 h4 h5 (fun j a b => by omega)
    refine ⟨r, Ev.step (fun k => ?_) hev, hr⟩
    simp only [step_First.l0]
    rw [if_neg (by omega)]
  | succ d ih =>
    intro i t hd hi h1 h2 h3 h4 h5
    have hlt : i < l.length := by omega
    have q1 : (i : Int) < (l.length : Int) := by omega
    have q2 : (0 : Int) ≤ (i : Int) := by omega
    by_cases c : At l i < pls t long
    · by_cases c1 : Vl l i < n
      · have bad : ∀ x, t ≤ x → x < Never → (i + 1 < l.length → x < At l (i + 1)) → ¬ Fits l long n x := by
          intro x hx hxn hxi hfit
          rcases Int.lt_or_le x (At l i) with c2 | c2
          · have := hfit (At l i) (by omega) (by have := pls_le (t := t) (t' := x) (by omega) hx (by omega) hlong; omega)
            rw [val_at h.toNorm hlt] at this
            omega
          · have := hfit x (Int.le_refl _) (pls_gt (by omega) hxn hlong).1
            rw [val_eq h.toNorm (i := i) ⟨hlt, c2, hxi⟩] at this
            omega
        by_cases c2 : i + 1 = l.length
        · refine ⟨(0, false), ?_, .inl ⟨rfl, fun x hx hxn => ?_⟩⟩
          · refine Ev.step (f := fun k => step_First.j2 k l long n t (i : Int) true) (fun k => ?_) (Ev.step (f := fun _ => some (0, false)) (fun k => ?_) (Ev.now _))
            · simp only [step_First.l0, if_pos q1, if_pos q2, plus_ev, Option.bind_some, at_, decide_eq_true c]
            · have q3 : ((i + 1 : Nat) : Int) = (l.length : Int) := by omega
              simp only [step_First.j2, if_true, if_pos q1, if_pos q2, vl_, if_pos c1, nx i (by have := h.len; omega), if_pos q3]
          · rcases Int.lt_or_le x t with c3 | c3
            · exact h5 x hx c3
            · exact bad x c3 hxn (fun h' => by omega)
        · have hlt2 : i + 1 < l.length := by omega
          have hpi : IsPl l (At l (i + 1)) (i + 1) := ⟨hlt2, Int.le_refl _, fun h' => (h.rise _ h').1⟩
          have hp := pl_eq h.toNorm hpi
          have htop := h.top _ hlt2
          have htt : t < At l (i + 1) := by
            have hpt := pl_spec h.toNorm (t := t) (by omega)
            have e1 := hpt.2.2 (by omega)
            have := h.toNorm.le (i := pl l t + 1) (j := i + 1) (by omega) hlt2
            omega
          obtain ⟨r, hev, hr⟩ := ih (i + 1) (At l (i + 1)) (by omega) (by omega) (by omega) htop (by omega) (fun j a b => by omega) (fun x hx hx2 => by
            rcases Int.lt_or_le x t with c3 | c3
            · exact h5 x hx c3
            · exact bad x c3 (by omega) (fun _ => hx2))
          refine ⟨r, Ev.step (f := fun k => step_First.j2 k l long n t (i : Int) true) (fun k => ?_) (Ev.step (fun k => ?_) hev), hr⟩
          · simp only [step_First.l0, if_pos q1, if_pos q2, plus_ev, Option.bind_some, at_, decide_eq_true c]
          · have q3 : ¬ ((i + 1 : Nat) : Int) = (l.length : Int) := by omega
            have q4 : (0 : Int) ≤ ((i + 1 : Nat) : Int) := by omega
            have q5 : ((i + 1 : Nat) : Int) < (l.length : Int) := by omega
            simp only [step_First.j2, if_true, if_pos q1, if_pos q2, vl_, if_pos c1, nx i (by have := h.len; omega), if_neg q3, if_pos q4, if_pos q5, at_]
      · obtain ⟨r, hev, hr⟩ := ih (i + 1) t (by omega) (by omega) h1 h2 (by omega) (fun j a b => by
          rcases Nat.lt_or_ge j i with c2 | c2
          · exact h4 j a c2
          · have : j = i := by omega
            subst this; omega) h5
        refine ⟨r, Ev.step (f := fun k => step_First.j2 k l long n t (i : Int) true) (fun k => ?_) (Ev.step (fun k => ?_) hev), hr⟩
        · simp only [step_First.l0, if_pos q1, if_pos q2, plus_ev, Option.bind_some, at_, decide_eq_true c]
        · simp only [step_First.j2, if_true, if_pos q1, if_pos q2, vl_, if_neg c1, nx i (by have := h.len; omega)]
    · obtain ⟨r, hev, hr⟩ := out i t h1 h2 h3 h4 h5 (fun j a b => by have := h.le (i := i) (j := j) a b; omega)
      refine ⟨r, Ev.step (fun k => ?_) hev, hr⟩
      simp only [step_First.l0, if_pos q1, if_pos q2, plus_ev, Option.bind_some, at_, decide_eq_false c]
theorem first_yes {l : List St} {f long n : Int} (h : FirstOk l f long n) : ∃ r, Ev (fun k => step_First.f k l f long n) r ∧ FirstIs l f long n r := by
  obtain ⟨h0, ⟨h1, h2⟩, h3, h4⟩ := h
  obtain ⟨r, hev, hr⟩ := first_loop h0 h1 h3 (n := n) (l.length - pl l f) (pl l f) f rfl (by have := (pl_spec h0.toNorm h1).1; omega) (Int.le_refl _) (by omega) (Nat.le_refl _) (fun j a b => by omega) (fun x a b => by omega)
  refine ⟨r, Ev.bind (right_yes h0) ?_, hr⟩
  have n1 : ¬ f = 4611686018427387904 := by unfold Never at h2; omega
  have n2 : ¬ long < 1 := by omega
  simp only [if_true, wright, Option.bind_some, decide_eq_true (show 0 ≤ f ∧ f ≤ Never by omega), if_neg n1, if_neg n2, samt, decide_eq_true h4, Bool.not_true]
  refine Ev.step (f := fun k => (step_place.f k l f).bind fun t => step_First.l0 k l long n f t) (fun k => ?_) (Ev.bind (place_ev h0 h1) hev)
  simp only [step_First.j0, Bool.false_eq_true, if_false]
theorem first_no {l : List St} {f long n : Int} (h : ¬ FirstOk l f long n) : Ev (fun k => step_First.f k l f long n) (0, false) := by
  have no : ∀ b, b = true → Ev (fun k => step_First.j0 k l f long n b) (0, false) := by
    rintro _ rfl
    exact Ev.step (f := fun _ => some (0, false)) (fun k => by simp only [step_First.j0, if_true]) (Ev.now _)
  by_cases c0 : Right l
  · refine Ev.bind (right_yes c0) ?_
    simp only [if_true, wright, Option.bind_some]
    by_cases c1 : 0 ≤ f ∧ f ≤ Never
    · simp only [decide_eq_true c1, if_true]
      by_cases c2 : f = 4611686018427387904
      · simp only [if_pos c2]; exact no _ rfl
      by_cases c3 : long < 1
      · simp only [if_neg c2, if_pos c3]; exact no _ rfl
      simp only [if_neg c2, if_neg c3, samt, Option.bind_some]
      refine no _ ?_
      rw [decide_eq_false (fun c => h ⟨c0, ⟨c1.1, by have := c1.2; unfold Never at this ⊢; omega⟩, by omega, c⟩)]; rfl
    · simp only [decide_eq_false c1, Bool.false_eq_true, if_false]
      exact no _ rfl
  · refine Ev.bind (right_no c0) ?_
    simp only [Bool.false_eq_true, if_false]
    exact no _ rfl
end Go.Proofs.Ytimllhflecippaa.StepQ
end

section
namespace Go.Proofs.Ytimllhflecippaa.PoolP
open Go.RowKit Go.Proofs.YtimllhflecippaaW.PrintWords Go.Proofs.YtimllhflecippaaW.PrintMore Go.Proofs.Ytimllhflecippaa.F Go.Proofs.Ytimllhflecippaa.Pk Go.Proofs.Ytimllhflecippaa.StepP Go.Proofs.Ytimllhflecippaa.StepQ
set_option linter.unusedSimpArgs false
set_option linter.unusedVariables false

theorem awake_ev : Ev (fun k => bailiwicklaw04_awake.f k) true := Ev.of bailiwicklaw04_awake.mono (k := 60) (by decide +kernel)
abbrev lg (L : List (List St)) (i : Nat) : List St := rd_L2 L (i : Int)
theorem lg_eq (L : List (List St)) (i : Nat) (h : i < L.length) : lg L i = L[i] := by
  show L.getD (i : Int).toNat _ = _
  rw [List.getD_eq_getElem?_getD]; simp [h]
theorem rd_eq (n : List Int) (i : Nat) (h : i < n.length) : rd n (i : Int) = n[i] := by
  rw [rd_nat, List.getD_eq_getElem?_getD, List.getElem?_eq_getElem h]; rfl
def PRight (L : List (List St)) : Prop := 1 ≤ L.length ∧ L.length ≤ 4 ∧ ∀ i, i < L.length → Right (lg L i)
theorem idx_loop (L : List (List St)) (hl : L.length ≤ 4) : ∀ (d i : Nat), L.length - i = d → i ≤ L.length → ∃ r : Int, Ev (fun k => slices_IndexFunc_api_Step_api_Step__at_pools_Right_1.l0 k L (L.length : Int) (i : Int)) r ∧ (0 ≤ r ↔ ¬ ∀ j, i ≤ j → j < L.length → Right (lg L j))
  | 0, i, hd, hi => by
    refine ⟨-1, Ev.step (f := fun _ => some (-1)) (fun k => ?_) (Ev.now _), ⟨fun h => by omega, fun h => absurd (fun j h1 h2 => by omega) h⟩⟩
    simp only [slices_IndexFunc_api_Step_api_Step__at_pools_Right_1.l0]
    rw [if_neg (by omega)]
  | d + 1, i, hd, hi => by
    have hlt : i < L.length := by omega
    have q1 : (i : Int) < (L.length : Int) := by omega
    have q2 : (0 : Int) ≤ (i : Int) := by omega
    by_cases c : Right (lg L i)
    · obtain ⟨r, hev, hr⟩ := idx_loop L hl d (i + 1) (by omega) (by omega)
      refine ⟨r, Ev.step (f := fun k => (step_Right.f k (lg L i)).bind fun t => if (!t) = true then some (i : Int) else slices_IndexFunc_api_Step_api_Step__at_pools_Right_1.l0 k L (L.length : Int) ((i + 1 : Nat) : Int)) (fun k => ?_) (Ev.bind (right_yes c) ?_), ?_⟩
      · simp only [slices_IndexFunc_api_Step_api_Step__at_pools_Right_1.l0, if_pos q1, if_pos q2, pools_Right_1.f, Option.bind_assoc, Option.bind_some, nx i (by omega)]
      · simp only [Bool.not_true, Bool.false_eq_true, if_false]; exact hev
      · rw [hr, all_step (P := fun j => Right (lg L j)) hlt]
        exact ⟨fun a b => a b.2, fun a b => a ⟨c, b⟩⟩
    · refine ⟨(i : Int), Ev.step (f := fun k => (step_Right.f k (lg L i)).bind fun t => if (!t) = true then some (i : Int) else slices_IndexFunc_api_Step_api_Step__at_pools_Right_1.l0 k L (L.length : Int) ((i + 1 : Nat) : Int)) (fun k => ?_) (Ev.bind (right_no c) ?_), ⟨fun _ a => c (a i (by omega) hlt), fun _ => by omega⟩⟩
      · simp only [slices_IndexFunc_api_Step_api_Step__at_pools_Right_1.l0, if_pos q1, if_pos q2, pools_Right_1.f, Option.bind_assoc, Option.bind_some, nx i (by omega)]
      · simp only [Bool.not_false, if_true]; exact Ev.now _
theorem pright_ev (L : List (List St)) (b : Bool) (hb : b = true ↔ PRight L) : Ev (fun k => pools_Right.f k L) b := by
  by_cases c1 : (L.length : Int) ≥ 1
  · by_cases c2 : (L.length : Int) ≤ 4
    · obtain ⟨r, hev, hr⟩ := idx_loop L (by omega) L.length 0 (by omega) (by omega)
      refine Ev.congr (f := fun k => (slices_IndexFunc_api_Step_api_Step__at_pools_Right_1.f k L).bind fun r => some (!decide (r ≥ 0))) (fun k => ?_) (Ev.bind hev ?_)
      · simp only [pools_Right.f, if_pos c1, if_pos c2, slices_ContainsFunc_api_Step_api_Step__at_pools_Right_1.f, Option.bind_assoc, Option.bind_some]
      · have : (!decide (r ≥ 0)) = b := by
          by_cases h : PRight L
          · rw [bool_true hb h, decide_eq_false (fun h' => (hr.1 h') (fun j _ hj => h.2.2 j hj))]; rfl
          · rw [bool_false hb h, decide_eq_true (hr.2 (fun h' => h ⟨by omega, by omega, fun i hi => h' i (by omega) hi⟩))]; rfl
        rw [this]
        exact Ev.now _
    · rw [bool_false hb (fun h => by have := h.2.1; omega)]
      refine Ev.congr (f := fun _ => some false) (fun k => ?_) (Ev.now _)
      simp only [pools_Right.f, if_pos c1, if_neg c2]
  · rw [bool_false hb (fun h => by have := h.1; omega)]
    refine Ev.congr (f := fun _ => some false) (fun k => ?_) (Ev.now _)
    simp only [pools_Right.f, if_neg c1]
theorem pright_yes {L : List (List St)} (h : PRight L) : Ev (fun k => pools_Right.f k L) true := pright_ev L true ⟨fun _ => h, fun _ => rfl⟩
theorem pright_no {L : List (List St)} (h : ¬ PRight L) : Ev (fun k => pools_Right.f k L) false := pright_ev L false ⟨fun h' => Bool.noConfusion h', fun h' => absurd h' h⟩
/-- A list made index by index. -/
def mk {α : Type} (n : Nat) (f : Nat → α) : List α := (List.range n).map f
theorem mk_len {α : Type} (n : Nat) (f : Nat → α) : (mk n f).length = n := by simp [mk]
theorem mk_succ {α : Type} (n : Nat) (f : Nat → α) : mk (n + 1) f = mk n f ++ [f n] := by simp [mk, List.range_succ]
theorem mk_get {α : Type} (n : Nat) (f : Nat → α) (i : Nat) (h : i < (mk n f).length) : (mk n f)[i] = f i := by simp [mk]
theorem mk_self (L : List (List St)) : mk L.length (lg L) = L := by
  refine List.ext_getElem (by rw [mk_len]) (fun i h1 h2 => ?_)
  rw [mk_get, lg_eq]
/-- What one pool tells at a time: nothing, where the time is none. -/
noncomputable def tell (p : List St) (t : Int) : Int := if 0 ≤ t ∧ t ≤ Never then val p t else 0
theorem tell_ev {p : List St} (h : Right p) (t : Int) : Ev (fun k => step_At.f k p t) (tell p t) := by
  unfold tell
  by_cases c : 0 ≤ t ∧ t ≤ Never
  · rw [if_pos c]; exact at_ev h c.1 c.2
  · rw [if_neg c]; exact at_no (fun h' => c h'.2)
theorem pat_loop {L : List (List St)} (h : PRight L) (t : Int) : ∀ (d i : Nat), L.length - i = d → i ≤ L.length → Ev (fun k => pools_At.l0 k t (mk i fun j => tell (lg L j) t) L (L.length : Int) (i : Int)) (mk L.length fun j => tell (lg L j) t)
  | 0, i, hd, hi => by
    have : i = L.length := by omega
    subst this
    refine Ev.step (f := fun _ => some _) (fun k => ?_) (Ev.now _)
    simp only [pools_At.l0]
    rw [if_neg (by omega)]
  | d + 1, i, hd, hi => by
    have hlt : i < L.length := by omega
    have h4 := h.2.1
    have q1 : (i : Int) < (L.length : Int) := by omega
    have q2 : (0 : Int) ≤ (i : Int) := by omega
    have q3 : (mk i fun j => tell (lg L j) t).length < 17592186044416 := by rw [mk_len]; omega
    refine Ev.step (f := fun k => (step_At.f k (lg L i) t).bind fun a => pools_At.l0 k t ((mk i fun j => tell (lg L j) t) ++ [a]) L (L.length : Int) ((i + 1 : Nat) : Int)) (fun k => ?_) (Ev.bind (tell_ev (h.2.2 i hlt) t) ?_)
    · simp only [pools_At.l0, if_pos q1, if_pos q2, if_pos q3, nx i (by omega)]
    · have := pat_loop h t d (i + 1) (by omega) (by omega)
      rw [mk_succ] at this
      exact this
theorem pat_ev {L : List (List St)} (h : PRight L) (t : Int) : Ev (fun k => pools_At.f k L t) (mk L.length fun j => tell (lg L j) t) := by
  refine Ev.bind (pright_yes h) ?_
  simp only [if_true]
  exact pat_loop h t L.length 0 (by omega) (by omega)
end Go.Proofs.Ytimllhflecippaa.PoolP
end

section
namespace Go.Proofs.Ytimllhflecippaa.PoolQ
open Go.RowKit Go.Proofs.YtimllhflecippaaW.PrintWords Go.Proofs.YtimllhflecippaaW.PrintMore Go.Proofs.Ytimllhflecippaa.F Go.Proofs.Ytimllhflecippaa.Pk Go.Proofs.Ytimllhflecippaa.StepP Go.Proofs.Ytimllhflecippaa.StepQ Go.Proofs.Ytimllhflecippaa.PoolP
set_option linter.unusedSimpArgs false
set_option linter.unusedVariables false

def Short (L : List (List St)) : Prop := L.length ≤ 6 ∧ ∀ i, i < L.length → (lg L i).length ≤ 100
/-- So much of each pool. -/
abbrev ng (n : List Int) (i : Nat) : Int := rd n (i : Int)
def Goods (L : List (List St)) (n : List Int) : Prop := PRight L ∧ n.length = L.length
def PFits (L : List (List St)) (long : Int) (n : List Int) (t : Int) : Prop := ∀ i, i < L.length → Fits (lg L i) long (ng n i) t
def POk (L : List (List St)) (f long : Int) (n : List Int) : Prop := Goods L n ∧ ∀ i, i < L.length → FirstOk (lg L i) f long (ng n i)
def PFirstIs (L : List (List St)) (f long : Int) (n : List Int) (r : Int × Bool) : Prop :=
  (r = (0, false) ∧ (POk L f long n → ∀ x, f ≤ x → x < Never → ¬ PFits L long n x)) ∨ ∃ t, r = (t, true) ∧ POk L f long n ∧ f ≤ t ∧ t < Never ∧ PFits L long n t ∧ ∀ x, f ≤ x → x < t → ¬ PFits L long n x
section
variable {L : List (List St)} {long : Int} {n : List Int} (hg : Goods L n)
include hg
theorem pf_step (t m : Int) (i : Nat) (hlt : i < L.length) : ∀ k, pools_First.l1 (k + 1) L long n t m L (L.length : Int) (i : Int) = (step_First.f k (lg L i) t long (ng n i)).bind fun bt => if bt.2 = true then pools_First.l1 k L long n t (mx m bt.1) L (L.length : Int) ((i + 1 : Nat) : Int) else some (0, false) := by
  intro k
  have := hg.1.2.1
  have := hg.2
  have q1 : (i : Int) < (L.length : Int) := by omega
  have q2 : (0 : Int) ≤ (i : Int) := by omega
  have q4 : (i : Int) < (n.length : Int) := by omega
  simp only [pools_First.l1, if_pos q1, if_pos q2, if_pos q4, nx i (by omega)]
/-- Where one pool's argument is none, nothing is found. -/
theorem pf_bad (t : Int) : ∀ (d i : Nat) (m : Int), L.length - i = d → i ≤ L.length → (∃ j, i ≤ j ∧ j < L.length ∧ ¬ FirstOk (lg L j) t long (ng n j)) → Ev (fun k => pools_First.l1 k L long n t m L (L.length : Int) (i : Int)) (0, false)
  | 0, i, m, hd, hi, ⟨j, h1, h2, _⟩ => by omega
  | d + 1, i, m, hd, hi, ⟨j, h1, h2, h3⟩ => by
    have hlt : i < L.length := by omega
    by_cases c : FirstOk (lg L i) t long (ng n i)
    · obtain ⟨r, hr, hf⟩ := first_yes c
      refine Ev.step (pf_step hg t m i hlt) (Ev.bind hr ?_)
      rcases hf with ⟨e, _⟩ | ⟨u, e, _⟩
      · subst e
        simp only [Bool.false_eq_true, if_false]; exact Ev.now _
      · subst e
        simp only [if_true]
        refine pf_bad t d (i + 1) _ (by omega) (by omega) ⟨j, ?_, h2, h3⟩
        rcases Nat.lt_or_ge i j with x | x
        · exact x
        · have : j = i := by omega
          subst this; exact absurd c h3
    · refine Ev.step (pf_step hg t m i hlt) (Ev.bind (first_no c) ?_)
      simp only [Bool.false_eq_true, if_false]; exact Ev.now _
theorem pf_round (t : Int) (hok : ∀ i, i < L.length → FirstOk (lg L i) t long (ng n i)) (htn : t < Never) : ∀ (d i : Nat) (m : Int), L.length - i = d → i ≤ L.length → t ≤ m → m < Never → (∀ x, t ≤ x → x < m → ¬ PFits L long n x) → (m = t → ∀ j, j < i → Fits (lg L j) long (ng n j) t) →
    (Ev (fun k => pools_First.l1 k L long n t m L (L.length : Int) (i : Int)) (0, false) ∧ ∀ x, t ≤ x → x < Never → ¬ PFits L long n x) ∨
    (Ev (fun k => pools_First.l1 k L long n t m L (L.length : Int) (i : Int)) (t, true) ∧ PFits L long n t) ∨
    (∃ u, t < u ∧ u < Never ∧ (∀ x, t ≤ x → x < u → ¬ PFits L long n x) ∧ ∀ r, Ev (fun k => pools_First.l0 k L long n u) r → Ev (fun k => pools_First.l1 k L long n t m L (L.length : Int) (i : Int)) r)
  | 0, i, m, hd, hi, h1, h2, h3, h4 => by
    have : i = L.length := by omega
    subst this
    have q : ¬ (L.length : Int) < (L.length : Int) := by omega
    by_cases c : m = t
    · refine .inr (.inl ⟨Ev.step (f := fun _ => some (t, true)) (fun k => ?_) (Ev.now _), h4 c⟩)
      simp only [pools_First.l1, if_neg q, if_pos c]
    · refine .inr (.inr ⟨m, by omega, h2, h3, fun r hr => Ev.step (fun k => ?_) hr⟩)
      simp only [pools_First.l1, if_neg q, if_neg c]
  | d + 1, i, m, hd, hi, h1, h2, h3, h4 => by
    have hlt : i < L.length := by omega
    obtain ⟨r, hr, hf⟩ := first_yes (hok i hlt)
    rcases hf with ⟨e, hno⟩ | ⟨u, e, g1, g2, g3, g4⟩
    · subst e
      refine .inl ⟨Ev.step (pf_step hg t m i hlt) (Ev.bind hr ?_), fun x a b c => hno x a b (c i hlt)⟩
      simp only [Bool.false_eq_true, if_false]; exact Ev.now _
    · subst e
      have back : ∀ r, Ev (fun k => pools_First.l1 k L long n t (mx m u) L (L.length : Int) ((i + 1 : Nat) : Int)) r → Ev (fun k => pools_First.l1 k L long n t m L (L.length : Int) (i : Int)) r := by
        intro r h
        refine Ev.step (pf_step hg t m i hlt) (Ev.bind hr ?_)
        simp only [if_true]; exact h
      have hmx : mx m u = if m < u then u else m := mx_eq _ _
      rcases pf_round t hok htn d (i + 1) (mx m u) (by omega) (by omega) (by rw [hmx]; split <;> omega) (by rw [hmx]; split <;> omega) (fun x a b c => by
          rw [hmx] at b
          rcases Int.lt_or_le x m with y | y
          · exact h3 x a y c
          · exact g4 x a (by split at b <;> omega) (c i hlt)) (fun e j hj => by
          rw [hmx] at e
          have hu : u = t := by split at e <;> omega
          have hm : m = t := by split at e <;> omega
          rcases Nat.lt_or_ge j i with y | y
          · exact h4 hm j y
          · have : j = i := by omega
            subst this
            rw [hu] at g3; exact g3) with ⟨a, b⟩ | ⟨a, b⟩ | ⟨u', a, b, c, d'⟩
      · exact .inl ⟨back _ a, b⟩
      · exact .inr (.inl ⟨back _ a, b⟩)
      · exact .inr (.inr ⟨u', a, b, c, fun r hr => back r (d' r hr)⟩)
theorem pf_loop {f : Int} (hok : POk L f long n) (hf : 0 ≤ f) : ∀ (d : Nat) (t : Int), (Never - t).toNat ≤ d → f ≤ t → t < Never → (∀ x, f ≤ x → x < t → ¬ PFits L long n x) → ∃ r, Ev (fun k => pools_First.l0 k L long n t) r ∧ PFirstIs L f long n r
  | 0, t, hd, h1, h2, h3 => by omega
  | d + 1, t, hd, h1, h2, h3 => by
    have st : ∀ r, Ev (fun k => pools_First.l1 k L long n t t L (L.length : Int) ((0 : Nat) : Int)) r → Ev (fun k => pools_First.l0 k L long n t) r := by
      intro r h
      refine Ev.step (fun k => ?_) h
      simp only [pools_First.l0]; rfl
    have join : ∀ u, (∀ x, t ≤ x → x < u → ¬ PFits L long n x) → ∀ x, f ≤ x → x < u → ¬ PFits L long n x := by
      intro u h x a b
      rcases Int.lt_or_le x t with y | y
      · exact h3 x a y
      · exact h x y b
    rcases pf_round hg t (fun i hi => by
        have := hok.2 i hi
        exact ⟨this.1, ⟨by omega, h2⟩, this.2.2⟩) h2 L.length 0 t (by omega) (by omega) (Int.le_refl _) h2 (fun x a b => by omega) (fun _ j hj => by omega) with ⟨a, b⟩ | ⟨a, b⟩ | ⟨u, a, b, c, e⟩
    · exact ⟨_, st _ a, .inl ⟨rfl, fun _ => join Never b⟩⟩
    · exact ⟨_, st _ a, .inr ⟨t, rfl, hok, h1, h2, b, h3⟩⟩
    · obtain ⟨r, hr, hp⟩ := pf_loop hok hf d u (by omega) (by omega) b (join u c)
      exact ⟨r, st _ (e r hr), hp⟩
end
theorem pfirst_ev (L : List (List St)) (f long : Int) (n : List Int) : ∃ r, Ev (fun k => pools_First.f k L f long n) r ∧ PFirstIs L f long n r := by
  have no : ∀ b, b = true → Ev (fun k => pools_First.j0 k L f long n b) (0, false) := by
    rintro _ rfl
    exact Ev.step (f := fun _ => some (0, false)) (fun k => by simp only [pools_First.j0, if_true]) (Ev.now _)
  by_cases c0 : PRight L
  · by_cases c1 : n.length = L.length
    · have hb : ((n.length : Int) != (L.length : Int)) = false := by rw [c1]; simp
      have st : ∀ r, Ev (fun k => pools_First.l0 k L long n f) r → Ev (fun k => pools_First.f k L f long n) r := by
        intro r h
        refine Ev.bind (pright_yes c0) ?_
        simp only [if_true, hb]
        refine Ev.step (fun k => ?_) h
        simp only [pools_First.j0, Bool.false_eq_true, if_false]
      by_cases c2 : ∀ i, i < L.length → FirstOk (lg L i) f long (ng n i)
      · have h0 := c2 0 (by have := c0.1; omega)
        obtain ⟨r, hr, hp⟩ := pf_loop ⟨c0, c1⟩ ⟨⟨c0, c1⟩, c2⟩ h0.2.1.1 (Never - f).toNat f (Nat.le_refl _) (Int.le_refl _) h0.2.1.2 (fun x a b => by omega)
        exact ⟨r, st r hr, hp⟩
      · obtain ⟨j, hj⟩ := Classical.not_forall.1 c2
        obtain ⟨hj1, hj2⟩ := Classical.not_imp.1 hj
        refine ⟨(0, false), st _ (Ev.step (fun k => ?_) (pf_bad ⟨c0, c1⟩ f L.length 0 f (by omega) (by omega) ⟨j, by omega, hj1, hj2⟩)), .inl ⟨rfl, fun h => absurd h.2 c2⟩⟩
        simp only [pools_First.l0]; rfl
    · refine ⟨(0, false), Ev.bind (pright_yes c0) ?_, .inl ⟨rfl, fun h => absurd h.1.2 c1⟩⟩
      simp only [if_true]
      exact no _ (by rw [bne_iff_ne]; omega)
  · refine ⟨(0, false), Ev.bind (pright_no c0) ?_, .inl ⟨rfl, fun h => absurd h.1.1 c0⟩⟩
    simp only [Bool.false_eq_true, if_false]
    exact no _ rfl
end Go.Proofs.Ytimllhflecippaa.PoolQ
end

section
namespace Go.Proofs.Ytimllhflecippaa.StepT
open Go.RowKit Go.Proofs.YtimllhflecippaaW.PrintWords Go.Proofs.YtimllhflecippaaW.PrintMore Go.Proofs.Ytimllhflecippaa.F Go.Proofs.Ytimllhflecippaa.Pk Go.Proofs.Ytimllhflecippaa.StepP Go.Proofs.Ytimllhflecippaa.StepQ
set_option linter.unusedSimpArgs false
set_option linter.unusedVariables false

theorem same_loop (l : List St) (hl : l.length ≤ 8796093022208) : ∀ (d i : Nat), l.length - i = d → i ≤ l.length → Ev (fun k => bailiwickref03_Same.l0 k l l (i : Int)) true
  | 0, i, hd, hi => by
    refine Ev.step (f := fun _ => some true) (fun k => ?_) (Ev.now _)
    simp only [bailiwickref03_Same.l0]
    rw [if_neg (by omega)]
  | d + 1, i, hd, hi => by
    refine Ev.step (fun k => ?_) (same_loop l hl d (i + 1) (by omega) (by omega))
    have q1 : (i : Int) < (l.length : Int) := by omega
    have q2 : (0 : Int) ≤ (i : Int) := by omega
    simp only [bailiwickref03_Same.l0, if_pos q1, if_pos q2, beq_self_eq_true, Bool.not_true, Bool.or_false, Bool.false_eq_true, if_false, nx i (by omega)]
theorem same_ev (l : List St) (hl : l.length ≤ 8796093022208) : Ev (fun k => bailiwickref03_Same.f k l l) true := by
  have := same_loop l hl l.length 0 (by omega) (by omega)
  refine Ev.congr (fun k => ?_) this
  simp only [bailiwickref03_Same.f, if_true]; rfl

theorem addS_len (o : List St) (a b : Int) : (addS o a b).length ≤ o.length + 1 := by unfold addS; split <;> simp
/-- Where the i-th step begins; behind the last one: behind all times. -/
def beg (l : List St) (i : Nat) : Int := if i < l.length then At l i else Never + 1
theorem plusN_len2 {l : List St} (h : Norm l) {f t n : Int} (h0 : 0 ≤ f) (h1 : f < t) : ∀ i, i ≤ l.length → (plusN l f t n i).length ≤ i + (if f < beg l i then 1 else 0) + (if t < beg l i then 1 else 0)
  | 0, _ => by simp [plusN]
  | i + 1, hi => by
    have ih := plusN_len2 h h0 h1 (n := n) i (by omega)
    have hE := plusE_eq l i
    have e1 : beg l i = At l i := by unfold beg; rw [if_pos (by omega)]
    have e2 : beg l (i + 1) = plusE l i := by unfold beg; rw [hE]
    have hse : At l i < plusE l i := by
      rw [hE]
      split
      · exact (h.rise i (by assumption)).1
      · have := h.top i (by omega); omega
    rw [e2]
    rw [e1] at ih
    show (plus3 l f t n i (plus2 l f t n i (plus1 l f t n i (plusN l f t n i)))).length ≤ _
    have a1 : (plus1 l f t n i (plusN l f t n i)).length ≤ (plusN l f t n i).length + (if At l i < f then 1 else 0) := by
      show (if At l i < f then addS (plusN l f t n i) (At l i) (Vl l i) else plusN l f t n i).length ≤ _
      split
      · exact addS_len _ _ _
      · omega
    generalize plus1 l f t n i (plusN l f t n i) = o1 at *
    have a2 : (plus2 l f t n i o1).length ≤ o1.length + (if mx (At l i) f < mn (plusE l i) t then 1 else 0) := by
      show (if mx (At l i) f < mn (plusE l i) t then addS o1 (mx (At l i) f) (wrap64 (Vl l i + n)) else o1).length ≤ _
      split
      · exact addS_len _ _ _
      · omega
    generalize plus2 l f t n i o1 = o2 at *
    have a3 : (plus3 l f t n i o2).length ≤ o2.length + (if t < plusE l i then 1 else 0) := by
      show (if t < plusE l i then addS o2 (mx (At l i) t) (Vl l i) else o2).length ≤ _
      split
      · exact addS_len _ _ _
      · omega
    generalize plus3 l f t n i o2 = o3 at *
    rw [mx_eq, mn_eq] at a2
    generalize plusE l i = e at *
    generalize At l i = s at *
    clear hE e1 e2
    by_cases c1 : s < f <;> by_cases c2 : f < e <;> by_cases c3 : t < e <;> by_cases c4 : s < t <;> by_cases c5 : f < s <;> by_cases c6 : t < s <;> simp only [c1, c2, c3, c4, c5, c6, if_true, if_false] at ih a1 a2 a3 ⊢ <;> (try split at a2) <;> omega
def chg (l : List St) (f t n : Int) : List St := plusN l f t n l.length
theorem change_ev {l : List St} {f t n : Int} (h : (chg l f t n).length ≤ 1024) (hl : l.length ≤ 1024) : step_change.f l f t n = some (chg l f t n, 0) := by
  unfold step_change.f step_plus.f
  rw [if_pos (by omega)]
  simp only [Option.bind_some]
  unfold chg at h ⊢
  rw [if_neg (by omega)]
theorem clone_ev {l : List St} (h : l.length < 8796093022208) : slices_Clone_api_Step_api_Step.f l = some l := by
  unfold slices_Clone_api_Step_api_Step.f
  simp only [Option.bind_some, List.length_nil, Nat.zero_add, if_pos h, List.nil_append]
theorem chg_len {l : List St} (h : Norm l) {f t n : Int} (h0 : 0 ≤ f) (h1 : f < t) : (chg l f t n).length ≤ l.length + 2 := by
  have := plusN_len2 h h0 h1 (n := n) l.length (Nat.le_refl _)
  unfold chg
  split at this <;> split at this <;> omega
def TakeOk (l : List St) (f t n : Int) : Prop := May l f t ∧ amt n
theorem take_cases (l : List St) (f t n : Int) (hl : l.length ≤ 1000) :
    (¬ TakeOk l f t n ∧ Ev (fun k => step_Take.f k l f t n) (l, 1)) ∨
    (TakeOk l f t n ∧ (¬ ∀ x, f ≤ x → x < t → n ≤ val l x) ∧ Ev (fun k => step_Take.f k l f t n) (l, 5)) ∨
    (TakeOk l f t n ∧ (∀ x, f ≤ x → x < t → n ≤ val l x) ∧ Ev (fun k => step_Take.f k l f t n) (chg l f t (-n), 0)) := by
  have no : ∀ b, b = true → Ev (fun k => step_Take.j0 k l f t n b) (l, 1) := by
    rintro _ rfl
    exact Ev.step (f := fun _ => some (l, 1)) (fun k => by simp only [step_Take.j0, if_true, clone_ev (l := l) (by omega), Option.bind_some]) (Ev.now _)
  by_cases c0 : May l f t
  · by_cases c1 : amt n
    · obtain ⟨m, hev, hm⟩ := least_ev c0.1 c0.2.1 c0.2.2.1
      have hmn := hm n
      by_cases c2 : m < n
      · refine .inr (.inl ⟨⟨c0, c1⟩, fun hc => by have := hmn.2 ⟨c1.2, hc⟩; omega, ?_⟩)
        refine Ev.bind (may_yes c0) ?_
        simp only [if_true, samt, Option.bind_some, decide_eq_true c1, Bool.not_true]
        refine Ev.step (f := fun k => (step_least.f k l f t).bind fun m => if m < n then some (l, 5) else (step_change.f l f t (wrap64 (-n))).bind fun bt => some (bt.1, bt.2)) (fun k => ?_) (Ev.bind hev ?_)
        · simp only [step_Take.j0, Bool.false_eq_true, if_false, clone_ev (l := l) (by omega), Option.bind_some]
        · simp only [if_pos c2]; exact Ev.now _
      · refine .inr (.inr ⟨⟨c0, c1⟩, (hmn.1 (by omega)).2, ?_⟩)
        refine Ev.bind (may_yes c0) ?_
        simp only [if_true, samt, Option.bind_some, decide_eq_true c1, Bool.not_true]
        refine Ev.step (f := fun k => (step_least.f k l f t).bind fun m => if m < n then some (l, 5) else (step_change.f l f t (wrap64 (-n))).bind fun bt => some (bt.1, bt.2)) (fun k => ?_) (Ev.bind hev ?_)
        · simp only [step_Take.j0, Bool.false_eq_true, if_false, clone_ev (l := l) (by omega), Option.bind_some]
        · have := c1.1
          have := c1.2
          have e : wrap64 (-n) = -n := w64 (by omega) (by omega)
          simp only [if_neg c2, e, change_ev (l := l) (f := f) (t := t) (n := -n) (by have := chg_len c0.1.toNorm c0.2.1 c0.2.2.1 (n := -n); omega) (by omega), Option.bind_some]
          exact Ev.now _
    · refine .inl ⟨fun h => c1 h.2, Ev.bind (may_yes c0) ?_⟩
      simp only [if_true, samt, Option.bind_some, decide_eq_false c1, Bool.not_false]
      exact no _ rfl
  · refine .inl ⟨fun h => c0 h.1, Ev.bind (may_no c0) ?_⟩
    simp only [Bool.false_eq_true, if_false]
    exact no _ rfl
end Go.Proofs.Ytimllhflecippaa.StepT
end

section
namespace Go.Proofs.Ytimllhflecippaa.PoolQ
open Go.RowKit Go.Proofs.YtimllhflecippaaW.PrintWords Go.Proofs.YtimllhflecippaaW.PrintMore Go.Proofs.Ytimllhflecippaa.F Go.Proofs.Ytimllhflecippaa.Pk Go.Proofs.Ytimllhflecippaa.StepP Go.Proofs.Ytimllhflecippaa.StepQ Go.Proofs.Ytimllhflecippaa.StepT Go.Proofs.Ytimllhflecippaa.PoolP
set_option linter.unusedSimpArgs false
set_option linter.unusedVariables false

theorem clone_loop {L : List (List St)} (h : Short L) : ∀ (d i : Nat), L.length - i = d → i ≤ L.length → Ev (fun k => pools_clone.l0 k (mk i (lg L)) L (L.length : Int) (i : Int)) L
  | 0, i, hd, hi => by
    have : i = L.length := by omega
    subst this
    refine Ev.step (f := fun _ => some L) (fun k => ?_) (Ev.now _)
    simp only [pools_clone.l0]
    rw [if_neg (by omega), mk_self]
  | d + 1, i, hd, hi => by
    have hlt : i < L.length := by omega
    have h1 := h.1
    have h2 := h.2 i hlt
    have q1 : (i : Int) < (L.length : Int) := by omega
    have q2 : (0 : Int) ≤ (i : Int) := by omega
    have q3 : (mk i (lg L)).length < 5864062014805 := by rw [mk_len]; omega
    have := clone_loop h d (i + 1) (by omega) (by omega)
    rw [mk_succ] at this
    refine Ev.step (fun k => ?_) this
    have hc := clone_ev (l := lg L i) (by omega)
    simp only [pools_clone.l0, if_pos q1, if_pos q2, hc, Option.bind_some, if_pos q3, nx i (by omega)]
theorem clone_ev {L : List (List St)} (h : Short L) : Ev (fun k => pools_clone.f k L) L := by
  exact clone_loop h L.length 0 (by omega) (by omega)
end Go.Proofs.Ytimllhflecippaa.PoolQ
end
