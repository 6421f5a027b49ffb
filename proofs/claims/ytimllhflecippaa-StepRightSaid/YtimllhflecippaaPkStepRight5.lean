/- The texts of the law StepRight, without what it does not use, laid together: part 5. -/
import Derived.Test.YtimllhflecippaaPkStepRight1
import Derived.Test.YtimllhflecippaaPkStepRight2
import Derived.Test.YtimllhflecippaaPkStepRight3
import Derived.Test.YtimllhflecippaaPkStepRight4
import Derived.Test.YtimllhflecippaaProg
import Derived.WalkSpells
import Derived.Below
import Derived.Deep.Draws
import Derived.Deep.AppendLies
import Derived.Maps.AppendAt
import Derived.OwnWalk
import Derived.Laws.BytesArg
import Derived.Laws.MakeOwn
import Derived.Laws.OwnMore
import Derived.Deep.OwnRows
import Derived.Tactics
import Derived.Lib.ConvBytes
import Derived.Laws.Slices
import Derived.WalkKit
import Derived.KernelRfl
import Derived.RowKit3
import Derived.Deep.LoopGhost
import Derived.Deep.QuietTactic
import Derived.BigQuiet
import Derived.WideLaws
import Derived.Deep.DeepCutAuto
import Derived.Deep.CutBlock
import Derived.Deep.RegionHeld3
import Derived.Laws.Rows
import Derived.Lib.AppendStr
import Derived.ArgAppend
import Derived.Laws.IdiomCopy
import Derived.RowKit
import Derived.OrdersHeld
import Derived.Laws.BitsLemmas
import Derived.Laws.StructEq
import Derived.Laws.Strings

section
namespace Go.Proofs.Ytimllhflecippaa.F
open Go.RowKit Go.Proofs.YtimllhflecippaaW.PrintWords Go.Proofs.YtimllhflecippaaW.PrintLast Go.Proofs.YtimllhflecippaaW.PrintMore
attribute [local go_sem] max2_int min2_int max_two min_two
set_option linter.unusedVariables false
set_option linter.unusedSimpArgs false

attribute [local go_sem high] eqA45
def bailiwicklaw03_awake.f (k : Nat)  : Option (Bool) := (step_New.f 4).bind fun bt167 => ((step_Take.f k bt167.1 2 5 3).bind fun bt171 => ((step_First.f k bt171.1 1 2 3).bind fun bt175 => ((step_Least.f k bt171.1 0 3).bind fun bt177 => (if bt167.2 = 0 then (if bt171.2 = 0 then (if (bt171.1.length : Int) = 3 then (if bt175.2 = true then (if bt175.1 = 5 then (if bt177.1 = 1 then (if bt177.2 = 0 then ((step_At.f k bt171.1 5).bind fun t179 => (some (t179 == 4))) else (some false)) else (some false)) else (some false)) else (some false)) else (some false)) else (some false)) else (some false)))))
theorem bailiwicklaw03_awake.mono : ∀ k, LeO (bailiwicklaw03_awake.f k ) (bailiwicklaw03_awake.f (k + 1) ) := by
 intro  k
 unfold bailiwicklaw03_awake.f
 repeat' first
   | (with_reducible exact step_At.mono _ _ _)
   | (with_reducible exact step_First.mono _ _ _ _ _)
   | (with_reducible exact step_Least.mono _ _ _ _)
   | (with_reducible exact step_Take.mono _ _ _ _ _)
   | (with_reducible exact LeO.refl _)
   | (with_reducible exact LeO.none _)
   | (with_reducible refine LeO.ite ?_ ?_)
   | (with_reducible refine LeO.bind ?_ (fun _ => ?_))
   | exact step_At.mono _ _ _
   | exact step_First.mono _ _ _ _ _
   | exact step_Least.mono _ _ _ _
   | exact step_Take.mono _ _ _ _ _
   | exact LeO.none _
   | refine LeO.ite ?_ ?_
   | refine LeO.bind ?_ (fun _ => ?_)
set_option maxHeartbeats 8000000 in
set_option maxRecDepth 100000 in
theorem bailiwicklaw03_awake.calls (k : Nat)  (r : Bool) (w : World) (h : bailiwicklaw03_awake.f k  = some r) :
  Calls Try.prog 14 #[] w fun e w' => e = .returned (.bool r) ∧ Below w.heap.size w w' := by
 have HB := Aside0.mk (Below.refl w.heap.size w)
 have H : ((step_New.f 4).bind fun bt167 => ((step_Take.f k bt167.1 2 5 3).bind fun bt171 => ((step_First.f k bt171.1 1 2 3).bind fun bt175 => ((step_Least.f k bt171.1 0 3).bind fun bt177 => (if bt167.2 = 0 then (if bt171.2 = 0 then (if (bt171.1.length : Int) = 3 then (if bt175.2 = true then (if bt175.1 = 5 then (if bt177.1 = 1 then (if bt177.2 = 0 then ((step_At.f k bt171.1 5).bind fun t179 => (some (t179 == 4))) else (some false)) else (some false)) else (some false)) else (some false)) else (some false)) else (some false)) else (some false)))))) = some r := h
 clear h
 replace H := Option.bind_eq_some_iff.mp H
 obtain ⟨⟨t167, t168⟩, A10, H⟩ := H
 replace H : ((step_Take.f k t167 2 5 3).bind fun bt171 => ((step_First.f k bt171.1 1 2 3).bind fun bt175 => ((step_Least.f k bt171.1 0 3).bind fun bt177 => (if t168 = 0 then (if bt171.2 = 0 then (if (bt171.1.length : Int) = 3 then (if bt175.2 = true then (if bt175.1 = 5 then (if bt177.1 = 1 then (if bt177.2 = 0 then ((step_At.f k bt171.1 5).bind fun t179 => (some (t179 == 4))) else (some false)) else (some false)) else (some false)) else (some false)) else (some false)) else (some false)) else (some false))))) = some r := H
 have A1 := Aside0.mk A10
 clear A10
 replace H := Option.bind_eq_some_iff.mp H
 obtain ⟨⟨t171, t172⟩, A20, H⟩ := H
 replace H : ((step_First.f k t171 1 2 3).bind fun bt175 => ((step_Least.f k t171 0 3).bind fun bt177 => (if t168 = 0 then (if t172 = 0 then (if (t171.length : Int) = 3 then (if bt175.2 = true then (if bt175.1 = 5 then (if bt177.1 = 1 then (if bt177.2 = 0 then ((step_At.f k t171 5).bind fun t179 => (some (t179 == 4))) else (some false)) else (some false)) else (some false)) else (some false)) else (some false)) else (some false)) else (some false)))) = some r := H
 have A2 := Aside0.mk A20
 clear A20
 replace H := Option.bind_eq_some_iff.mp H
 obtain ⟨⟨t175, t176⟩, A30, H⟩ := H
 replace H : ((step_Least.f k t171 0 3).bind fun bt177 => (if t168 = 0 then (if t172 = 0 then (if (t171.length : Int) = 3 then (if t176 = true then (if t175 = 5 then (if bt177.1 = 1 then (if bt177.2 = 0 then ((step_At.f k t171 5).bind fun t179 => (some (t179 == 4))) else (some false)) else (some false)) else (some false)) else (some false)) else (some false)) else (some false)) else (some false))) = some r := H
 have A3 := Aside0.mk A30
 clear A30
 replace H := Option.bind_eq_some_iff.mp H
 obtain ⟨⟨t177, t178⟩, A40, H⟩ := H
 replace H : (if t168 = 0 then (if t172 = 0 then (if (t171.length : Int) = 3 then (if t176 = true then (if t175 = 5 then (if t177 = 1 then (if t178 = 0 then ((step_At.f k t171 5).bind fun t179 => (some (t179 == 4))) else (some false)) else (some false)) else (some false)) else (some false)) else (some false)) else (some false)) else (some false)) = some r := H
 have A4 := Aside0.mk A40
 clear A40
 by_cases c5 : t168 = 0
 ·rw [if_pos c5] at H
  have c5b0 : (t168 == 0) = true := beq_iff_eq.mpr c5
  have c5b1 : (t168 != 0) = false := bne_eq_false_iff_eq.mpr c5
  clear c5
  by_cases c6 : t172 = 0
  ·rw [if_pos c6] at H
   have c6b0 : (t172 == 0) = true := beq_iff_eq.mpr c6
   have c6b1 : (t172 != 0) = false := bne_eq_false_iff_eq.mpr c6
   clear c6
   by_cases c7 : (t171.length : Int) = 3
   ·rw [if_pos c7] at H
    have c7b0 : ((t171.length : Int) == 3) = true := beq_iff_eq.mpr c7
    have c7b1 : ((t171.length : Int) != 3) = false := bne_eq_false_iff_eq.mpr c7
    clear c7
    by_cases c8 : t176 = true
    ·subst c8
     have H1 : (if t175 = 5 then (if t177 = 1 then (if t178 = 0 then ((step_At.f k t171 5).bind fun t179 => (some (t179 == 4))) else (some false)) else (some false)) else (some false)) = some r := by rw [if_pos rfl] at H; exact H
     clear H
     have H := H1
     clear H1
     by_cases c9 : t175 = 5
     ·rw [if_pos c9] at H
      have c9b0 : (t175 == 5) = true := beq_iff_eq.mpr c9
      have c9b1 : (t175 != 5) = false := bne_eq_false_iff_eq.mpr c9
      clear c9
      by_cases c10 : t177 = 1
      ·rw [if_pos c10] at H
       have c10b0 : (t177 == 1) = true := beq_iff_eq.mpr c10
       have c10b1 : (t177 != 1) = false := bne_eq_false_iff_eq.mpr c10
       clear c10
       by_cases c11 : t178 = 0
       ·rw [if_pos c11] at H
        have c11b0 : (t178 == 0) = true := beq_iff_eq.mpr c11
        have c11b1 : (t178 != 0) = false := bne_eq_false_iff_eq.mpr c11
        clear c11
        replace H := Option.bind_eq_some_iff.mp H
        obtain ⟨t179, A120, H⟩ := H
        replace H : (some (t179 == 4)) = some r := H
        have A12 := Aside0.mk A120
        clear A120
        obtain rfl := Option.some.inj H
        go_enter Try.func14, Try.ntmps14
        go_wp2_with (first | ((with_reducible refine gate_callee (f := 29) rfl ?_); refine goesL_ (some 9) rfl rfl Try.func29 (by kernel_rfl) rfl #[.int .i64 4] rfl (by (try simp only [List.map_toArray, List.map_cons, List.map_nil]); first | done | rfl | (simp only [List.length_drop, List.length_take]; rfl)) ?_; (with_reducible refine (step_New.calls 4 t167 t168 _ A1.out).mono ?_); rintro e w13 ⟨v169, rfl, ho0, hb⟩; refine ⟨_, rfl, ?_⟩; have n0_ := Aside0.mk (Kd.R_lower ho0 (below_size (by repeat (first | (with_reducible first | exact HB.out | apply below_alloc | apply pw_below_drewN | apply below_drew1) | exact HB.out)))); have n1_ := Aside0.mk (below_step (by repeat (first | (with_reducible first | exact HB.out | apply below_alloc | apply pw_below_drewN | apply below_drew1) | exact HB.out)) hb); clear HB; have HO170 := n0_; have HB := n1_; clear n0_ n1_; (try clear hb); (try clear hb2); (try clear hk); (try clear hi); (try clear ho0); obtain ⟨Ao14, co14, eo14⟩ := Kd.R_slice HO170.out; subst eo14) | ((with_reducible refine gate_callee (f := 21) rfl ?_); refine goesL_ (some 14) rfl rfl Try.func21 (by kernel_rfl) rfl #[.slice Ao14 t167.length co14, .int .i64 2, .int .i64 5, .int .i64 3] rfl (by (try simp only [List.map_toArray, List.map_cons, List.map_nil]); first | done | rfl | (simp only [List.length_drop, List.length_take]; rfl)) ?_; (with_reducible refine (step_Take.calls k _ _ t167 2 5 3 t171 t172 _ ?side1 ?side2 A2.out).mono ?_); (case side1 => repeat (first | exact (Kd.R_reads' HO170.out).2.2 | (with_reducible refine Kd.C_alloc ?_ _) | (with_reducible refine Kd.C_drewN ?_ _) | (with_reducible refine Kd.C_drew ?_))); (case side2 => exact (Kd.R_reads' HO170.out).2.1); rintro e w15 ⟨v173, rfl, ho0, hb⟩; refine ⟨_, rfl, ?_⟩; have n0_ := Aside0.mk (Kd.R_elder' (by (with_reducible repeat (first | apply Kd.R_alloc | apply Kd.R_drewN | apply Kd.R_drew)); exact HO170.out) (Kd.R_base ho0) hb); have n1_ := Aside0.mk (Kd.R_lower (Kd.R_new' ho0 (Kd.R_lt (by (with_reducible repeat (first | apply Kd.R_alloc | apply Kd.R_drewN | apply Kd.R_drew)); exact HO170.out))) (below_size (by repeat (first | (with_reducible first | exact HB.out | apply below_alloc | apply pw_below_drewN | apply below_drew1) | exact HB.out)))); have n2_ := Aside0.mk (below_step (by repeat (first | (with_reducible first | exact HB.out | apply below_alloc | apply pw_below_drewN | apply below_drew1) | exact HB.out)) hb); clear HO170; clear HB; have HO170 := n0_; have HO174 := n1_; have HB := n2_; clear n0_ n1_ n2_; (try clear hb); (try clear hb2); (try clear hk); (try clear hi); (try clear ho0); obtain ⟨Ao16, co16, eo16⟩ := Kd.R_slice HO174.out; subst eo16) | ((with_reducible refine gate_callee (f := 15) rfl ?_); refine goesL_ (some 19) rfl rfl Try.func15 (by kernel_rfl) rfl #[.slice Ao16 t171.length co16, .int .i64 1, .int .i64 2, .int .i64 3] rfl (by (try simp only [List.map_toArray, List.map_cons, List.map_nil]); first | done | rfl | (simp only [List.length_drop, List.length_take]; rfl)) ?_; (with_reducible refine (step_First.calls k _ _ t171 1 2 3 t175 true _ ?side1 ?side2 A3.out).mono ?_); (case side1 => repeat (first | exact (Kd.R_reads' HO174.out).2.2 | (with_reducible refine Kd.C_alloc ?_ _) | (with_reducible refine Kd.C_drewN ?_ _) | (with_reducible refine Kd.C_drew ?_))); (case side2 => exact (Kd.R_reads' HO174.out).2.1); rintro e w17 ⟨rfl, hb⟩; refine ⟨_, rfl, ?_⟩; have n0_ := Aside0.mk (Kd.R_below (by (with_reducible repeat (first | apply Kd.R_alloc | apply Kd.R_drewN | apply Kd.R_drew)); exact HO170.out) hb); have n1_ := Aside0.mk (Kd.R_below (by (with_reducible repeat (first | apply Kd.R_alloc | apply Kd.R_drewN | apply Kd.R_drew)); exact HO174.out) hb); have n2_ := Aside0.mk (below_step (by repeat (first | (with_reducible first | exact HB.out | apply below_alloc | apply pw_below_drewN | apply below_drew1) | exact HB.out)) hb); clear HO170; clear HO174; clear HB; have HO170 := n0_; have HO174 := n1_; have HB := n2_; clear n0_ n1_ n2_; (try clear hb); (try clear hb2); (try clear hk); (try clear hi)) | ((with_reducible refine gate_callee (f := 19) rfl ?_); refine goesL_ (some 24) rfl rfl Try.func19 (by kernel_rfl) rfl #[.slice Ao16 t171.length co16, .int .i64 0, .int .i64 3] rfl (by (try simp only [List.map_toArray, List.map_cons, List.map_nil]); first | done | rfl | (simp only [List.length_drop, List.length_take]; rfl)) ?_; (with_reducible refine (step_Least.calls k _ _ t171 0 3 t177 t178 _ ?side1 ?side2 A4.out).mono ?_); (case side1 => repeat (first | exact (Kd.R_reads' HO174.out).2.2 | (with_reducible refine Kd.C_alloc ?_ _) | (with_reducible refine Kd.C_drewN ?_ _) | (with_reducible refine Kd.C_drew ?_))); (case side2 => exact (Kd.R_reads' HO174.out).2.1); rintro e w18 ⟨rfl, hb⟩; refine ⟨_, rfl, ?_⟩; have n0_ := Aside0.mk (Kd.R_below (by (with_reducible repeat (first | apply Kd.R_alloc | apply Kd.R_drewN | apply Kd.R_drew)); exact HO170.out) hb); have n1_ := Aside0.mk (Kd.R_below (by (with_reducible repeat (first | apply Kd.R_alloc | apply Kd.R_drewN | apply Kd.R_drew)); exact HO174.out) hb); have n2_ := Aside0.mk (below_step (by repeat (first | (with_reducible first | exact HB.out | apply below_alloc | apply pw_below_drewN | apply below_drew1) | exact HB.out)) hb); clear HO170; clear HO174; clear HB; have HO170 := n0_; have HO174 := n1_; have HB := n2_; clear n0_ n1_ n2_; (try clear hb); (try clear hb2); (try clear hk); (try clear hi)) | (go_at_call 31; (with_reducible refine (step_At.calls k _ _ t171 5 t179 _ ?side1 ?side2 A12.out).mono ?_); (case side1 => repeat (first | exact (Kd.R_reads' HO174.out).2.2 | (with_reducible refine Kd.C_alloc ?_ _) | (with_reducible refine Kd.C_drewN ?_ _) | (with_reducible refine Kd.C_drew ?_))); (case side2 => exact (Kd.R_reads' HO174.out).2.1); rintro e w19 ⟨rfl, hb⟩; have n0_ := Aside0.mk (Kd.R_below (by (with_reducible repeat (first | apply Kd.R_alloc | apply Kd.R_drewN | apply Kd.R_drew)); exact HO170.out) hb); have n1_ := Aside0.mk (Kd.R_below (by (with_reducible repeat (first | apply Kd.R_alloc | apply Kd.R_drewN | apply Kd.R_drew)); exact HO174.out) hb); have n2_ := Aside0.mk (below_step (by repeat (first | (with_reducible first | exact HB.out | apply below_alloc | apply pw_below_drewN | apply below_drew1) | exact HB.out)) hb); clear HO170; clear HO174; clear HB; have HO170 := n0_; have HO174 := n1_; have HB := n2_; clear n0_ n1_ n2_; (try clear hb); (try clear hb2); (try clear hk); (try clear hi)))
        go_ret
        exact ⟨by first | rfl | (simp [errW_none, errW_some] <;> rfl) | (simp [*, errW_none, errW_some] <;> rfl), by repeat (first | (with_reducible first | exact HB.out | apply below_alloc | apply pw_below_drewN | apply below_drew1) | exact HB.out)⟩
       ·rw [if_neg c11] at H
        have c11b0 : (t178 == 0) = false := beq_eq_false_iff_ne.mpr c11
        have c11b1 : (t178 != 0) = true := bne_iff_ne.mpr c11
        obtain rfl := Option.some.inj H
        go_enter Try.func14, Try.ntmps14
        go_wp2_with (first | ((with_reducible refine gate_callee (f := 29) rfl ?_); refine goesL_ (some 9) rfl rfl Try.func29 (by kernel_rfl) rfl #[.int .i64 4] rfl (by (try simp only [List.map_toArray, List.map_cons, List.map_nil]); first | done | rfl | (simp only [List.length_drop, List.length_take]; rfl)) ?_; (with_reducible refine (step_New.calls 4 t167 t168 _ A1.out).mono ?_); rintro e w20 ⟨v169, rfl, ho0, hb⟩; refine ⟨_, rfl, ?_⟩; have n0_ := Aside0.mk (Kd.R_lower ho0 (below_size (by repeat (first | (with_reducible first | exact HB.out | apply below_alloc | apply pw_below_drewN | apply below_drew1) | exact HB.out)))); have n1_ := Aside0.mk (below_step (by repeat (first | (with_reducible first | exact HB.out | apply below_alloc | apply pw_below_drewN | apply below_drew1) | exact HB.out)) hb); clear HB; have HO170 := n0_; have HB := n1_; clear n0_ n1_; (try clear hb); (try clear hb2); (try clear hk); (try clear hi); (try clear ho0); obtain ⟨Ao21, co21, eo21⟩ := Kd.R_slice HO170.out; subst eo21) | ((with_reducible refine gate_callee (f := 21) rfl ?_); refine goesL_ (some 14) rfl rfl Try.func21 (by kernel_rfl) rfl #[.slice Ao21 t167.length co21, .int .i64 2, .int .i64 5, .int .i64 3] rfl (by (try simp only [List.map_toArray, List.map_cons, List.map_nil]); first | done | rfl | (simp only [List.length_drop, List.length_take]; rfl)) ?_; (with_reducible refine (step_Take.calls k _ _ t167 2 5 3 t171 t172 _ ?side1 ?side2 A2.out).mono ?_); (case side1 => repeat (first | exact (Kd.R_reads' HO170.out).2.2 | (with_reducible refine Kd.C_alloc ?_ _) | (with_reducible refine Kd.C_drewN ?_ _) | (with_reducible refine Kd.C_drew ?_))); (case side2 => exact (Kd.R_reads' HO170.out).2.1); rintro e w22 ⟨v173, rfl, ho0, hb⟩; refine ⟨_, rfl, ?_⟩; have n0_ := Aside0.mk (Kd.R_elder' (by (with_reducible repeat (first | apply Kd.R_alloc | apply Kd.R_drewN | apply Kd.R_drew)); exact HO170.out) (Kd.R_base ho0) hb); have n1_ := Aside0.mk (Kd.R_lower (Kd.R_new' ho0 (Kd.R_lt (by (with_reducible repeat (first | apply Kd.R_alloc | apply Kd.R_drewN | apply Kd.R_drew)); exact HO170.out))) (below_size (by repeat (first | (with_reducible first | exact HB.out | apply below_alloc | apply pw_below_drewN | apply below_drew1) | exact HB.out)))); have n2_ := Aside0.mk (below_step (by repeat (first | (with_reducible first | exact HB.out | apply below_alloc | apply pw_below_drewN | apply below_drew1) | exact HB.out)) hb); clear HO170; clear HB; have HO170 := n0_; have HO174 := n1_; have HB := n2_; clear n0_ n1_ n2_; (try clear hb); (try clear hb2); (try clear hk); (try clear hi); (try clear ho0); obtain ⟨Ao23, co23, eo23⟩ := Kd.R_slice HO174.out; subst eo23) | ((with_reducible refine gate_callee (f := 15) rfl ?_); refine goesL_ (some 19) rfl rfl Try.func15 (by kernel_rfl) rfl #[.slice Ao23 t171.length co23, .int .i64 1, .int .i64 2, .int .i64 3] rfl (by (try simp only [List.map_toArray, List.map_cons, List.map_nil]); first | done | rfl | (simp only [List.length_drop, List.length_take]; rfl)) ?_; (with_reducible refine (step_First.calls k _ _ t171 1 2 3 t175 true _ ?side1 ?side2 A3.out).mono ?_); (case side1 => repeat (first | exact (Kd.R_reads' HO174.out).2.2 | (with_reducible refine Kd.C_alloc ?_ _) | (with_reducible refine Kd.C_drewN ?_ _) | (with_reducible refine Kd.C_drew ?_))); (case side2 => exact (Kd.R_reads' HO174.out).2.1); rintro e w24 ⟨rfl, hb⟩; refine ⟨_, rfl, ?_⟩; have n0_ := Aside0.mk (Kd.R_below (by (with_reducible repeat (first | apply Kd.R_alloc | apply Kd.R_drewN | apply Kd.R_drew)); exact HO170.out) hb); have n1_ := Aside0.mk (Kd.R_below (by (with_reducible repeat (first | apply Kd.R_alloc | apply Kd.R_drewN | apply Kd.R_drew)); exact HO174.out) hb); have n2_ := Aside0.mk (below_step (by repeat (first | (with_reducible first | exact HB.out | apply below_alloc | apply pw_below_drewN | apply below_drew1) | exact HB.out)) hb); clear HO170; clear HO174; clear HB; have HO170 := n0_; have HO174 := n1_; have HB := n2_; clear n0_ n1_ n2_; (try clear hb); (try clear hb2); (try clear hk); (try clear hi)) | ((with_reducible refine gate_callee (f := 19) rfl ?_); refine goesL_ (some 24) rfl rfl Try.func19 (by kernel_rfl) rfl #[.slice Ao23 t171.length co23, .int .i64 0, .int .i64 3] rfl (by (try simp only [List.map_toArray, List.map_cons, List.map_nil]); first | done | rfl | (simp only [List.length_drop, List.length_take]; rfl)) ?_; (with_reducible refine (step_Least.calls k _ _ t171 0 3 t177 t178 _ ?side1 ?side2 A4.out).mono ?_); (case side1 => repeat (first | exact (Kd.R_reads' HO174.out).2.2 | (with_reducible refine Kd.C_alloc ?_ _) | (with_reducible refine Kd.C_drewN ?_ _) | (with_reducible refine Kd.C_drew ?_))); (case side2 => exact (Kd.R_reads' HO174.out).2.1); rintro e w25 ⟨rfl, hb⟩; refine ⟨_, rfl, ?_⟩; have n0_ := Aside0.mk (Kd.R_below (by (with_reducible repeat (first | apply Kd.R_alloc | apply Kd.R_drewN | apply Kd.R_drew)); exact HO170.out) hb); have n1_ := Aside0.mk (Kd.R_below (by (with_reducible repeat (first | apply Kd.R_alloc | apply Kd.R_drewN | apply Kd.R_drew)); exact HO174.out) hb); have n2_ := Aside0.mk (below_step (by repeat (first | (with_reducible first | exact HB.out | apply below_alloc | apply pw_below_drewN | apply below_drew1) | exact HB.out)) hb); clear HO170; clear HO174; clear HB; have HO170 := n0_; have HO174 := n1_; have HB := n2_; clear n0_ n1_ n2_; (try clear hb); (try clear hb2); (try clear hk); (try clear hi)))
        go_ret
        exact ⟨by first | rfl | (simp [errW_none, errW_some] <;> rfl) | (simp [*, errW_none, errW_some] <;> rfl), by repeat (first | (with_reducible first | exact HB.out | apply below_alloc | apply pw_below_drewN | apply below_drew1) | exact HB.out)⟩
      ·rw [if_neg c10] at H
       have c10b0 : (t177 == 1) = false := beq_eq_false_iff_ne.mpr c10
       have c10b1 : (t177 != 1) = true := bne_iff_ne.mpr c10
       obtain rfl := Option.some.inj H
       go_enter Try.func14, Try.ntmps14
       go_wp2_with (first | ((with_reducible refine gate_callee (f := 29) rfl ?_); refine goesL_ (some 9) rfl rfl Try.func29 (by kernel_rfl) rfl #[.int .i64 4] rfl (by (try simp only [List.map_toArray, List.map_cons, List.map_nil]); first | done | rfl | (simp only [List.length_drop, List.length_take]; rfl)) ?_; (with_reducible refine (step_New.calls 4 t167 t168 _ A1.out).mono ?_); rintro e w26 ⟨v169, rfl, ho0, hb⟩; refine ⟨_, rfl, ?_⟩; have n0_ := Aside0.mk (Kd.R_lower ho0 (below_size (by repeat (first | (with_reducible first | exact HB.out | apply below_alloc | apply pw_below_drewN | apply below_drew1) | exact HB.out)))); have n1_ := Aside0.mk (below_step (by repeat (first | (with_reducible first | exact HB.out | apply below_alloc | apply pw_below_drewN | apply below_drew1) | exact HB.out)) hb); clear HB; have HO170 := n0_; have HB := n1_; clear n0_ n1_; (try clear hb); (try clear hb2); (try clear hk); (try clear hi); (try clear ho0); obtain ⟨Ao27, co27, eo27⟩ := Kd.R_slice HO170.out; subst eo27) | ((with_reducible refine gate_callee (f := 21) rfl ?_); refine goesL_ (some 14) rfl rfl Try.func21 (by kernel_rfl) rfl #[.slice Ao27 t167.length co27, .int .i64 2, .int .i64 5, .int .i64 3] rfl (by (try simp only [List.map_toArray, List.map_cons, List.map_nil]); first | done | rfl | (simp only [List.length_drop, List.length_take]; rfl)) ?_; (with_reducible refine (step_Take.calls k _ _ t167 2 5 3 t171 t172 _ ?side1 ?side2 A2.out).mono ?_); (case side1 => repeat (first | exact (Kd.R_reads' HO170.out).2.2 | (with_reducible refine Kd.C_alloc ?_ _) | (with_reducible refine Kd.C_drewN ?_ _) | (with_reducible refine Kd.C_drew ?_))); (case side2 => exact (Kd.R_reads' HO170.out).2.1); rintro e w28 ⟨v173, rfl, ho0, hb⟩; refine ⟨_, rfl, ?_⟩; have n0_ := Aside0.mk (Kd.R_elder' (by (with_reducible repeat (first | apply Kd.R_alloc | apply Kd.R_drewN | apply Kd.R_drew)); exact HO170.out) (Kd.R_base ho0) hb); have n1_ := Aside0.mk (Kd.R_lower (Kd.R_new' ho0 (Kd.R_lt (by (with_reducible repeat (first | apply Kd.R_alloc | apply Kd.R_drewN | apply Kd.R_drew)); exact HO170.out))) (below_size (by repeat (first | (with_reducible first | exact HB.out | apply below_alloc | apply pw_below_drewN | apply below_drew1) | exact HB.out)))); have n2_ := Aside0.mk (below_step (by repeat (first | (with_reducible first | exact HB.out | apply below_alloc | apply pw_below_drewN | apply below_drew1) | exact HB.out)) hb); clear HO170; clear HB; have HO170 := n0_; have HO174 := n1_; have HB := n2_; clear n0_ n1_ n2_; (try clear hb); (try clear hb2); (try clear hk); (try clear hi); (try clear ho0); obtain ⟨Ao29, co29, eo29⟩ := Kd.R_slice HO174.out; subst eo29) | ((with_reducible refine gate_callee (f := 15) rfl ?_); refine goesL_ (some 19) rfl rfl Try.func15 (by kernel_rfl) rfl #[.slice Ao29 t171.length co29, .int .i64 1, .int .i64 2, .int .i64 3] rfl (by (try simp only [List.map_toArray, List.map_cons, List.map_nil]); first | done | rfl | (simp only [List.length_drop, List.length_take]; rfl)) ?_; (with_reducible refine (step_First.calls k _ _ t171 1 2 3 t175 true _ ?side1 ?side2 A3.out).mono ?_); (case side1 => repeat (first | exact (Kd.R_reads' HO174.out).2.2 | (with_reducible refine Kd.C_alloc ?_ _) | (with_reducible refine Kd.C_drewN ?_ _) | (with_reducible refine Kd.C_drew ?_))); (case side2 => exact (Kd.R_reads' HO174.out).2.1); rintro e w30 ⟨rfl, hb⟩; refine ⟨_, rfl, ?_⟩; have n0_ := Aside0.mk (Kd.R_below (by (with_reducible repeat (first | apply Kd.R_alloc | apply Kd.R_drewN | apply Kd.R_drew)); exact HO170.out) hb); have n1_ := Aside0.mk (Kd.R_below (by (with_reducible repeat (first | apply Kd.R_alloc | apply Kd.R_drewN | apply Kd.R_drew)); exact HO174.out) hb); have n2_ := Aside0.mk (below_step (by repeat (first | (with_reducible first | exact HB.out | apply below_alloc | apply pw_below_drewN | apply below_drew1) | exact HB.out)) hb); clear HO170; clear HO174; clear HB; have HO170 := n0_; have HO174 := n1_; have HB := n2_; clear n0_ n1_ n2_; (try clear hb); (try clear hb2); (try clear hk); (try clear hi)) | ((with_reducible refine gate_callee (f := 19) rfl ?_); refine goesL_ (some 24) rfl rfl Try.func19 (by kernel_rfl) rfl #[.slice Ao29 t171.length co29, .int .i64 0, .int .i64 3] rfl (by (try simp only [List.map_toArray, List.map_cons, List.map_nil]); first | done | rfl | (simp only [List.length_drop, List.length_take]; rfl)) ?_; (with_reducible refine (step_Least.calls k _ _ t171 0 3 t177 t178 _ ?side1 ?side2 A4.out).mono ?_); (case side1 => repeat (first | exact (Kd.R_reads' HO174.out).2.2 | (with_reducible refine Kd.C_alloc ?_ _) | (with_reducible refine Kd.C_drewN ?_ _) | (with_reducible refine Kd.C_drew ?_))); (case side2 => exact (Kd.R_reads' HO174.out).2.1); rintro e w31 ⟨rfl, hb⟩; refine ⟨_, rfl, ?_⟩; have n0_ := Aside0.mk (Kd.R_below (by (with_reducible repeat (first | apply Kd.R_alloc | apply Kd.R_drewN | apply Kd.R_drew)); exact HO170.out) hb); have n1_ := Aside0.mk (Kd.R_below (by (with_reducible repeat (first | apply Kd.R_alloc | apply Kd.R_drewN | apply Kd.R_drew)); exact HO174.out) hb); have n2_ := Aside0.mk (below_step (by repeat (first | (with_reducible first | exact HB.out | apply below_alloc | apply pw_below_drewN | apply below_drew1) | exact HB.out)) hb); clear HO170; clear HO174; clear HB; have HO170 := n0_; have HO174 := n1_; have HB := n2_; clear n0_ n1_ n2_; (try clear hb); (try clear hb2); (try clear hk); (try clear hi)))
       go_ret
       exact ⟨by first | rfl | (simp [errW_none, errW_some] <;> rfl) | (simp [*, errW_none, errW_some] <;> rfl), by repeat (first | (with_reducible first | exact HB.out | apply below_alloc | apply pw_below_drewN | apply below_drew1) | exact HB.out)⟩
     ·rw [if_neg c9] at H
      have c9b0 : (t175 == 5) = false := beq_eq_false_iff_ne.mpr c9
      have c9b1 : (t175 != 5) = true := bne_iff_ne.mpr c9
      obtain rfl := Option.some.inj H
      go_enter Try.func14, Try.ntmps14
      go_wp2_with (first | ((with_reducible refine gate_callee (f := 29) rfl ?_); refine goesL_ (some 9) rfl rfl Try.func29 (by kernel_rfl) rfl #[.int .i64 4] rfl (by (try simp only [List.map_toArray, List.map_cons, List.map_nil]); first | done | rfl | (simp only [List.length_drop, List.length_take]; rfl)) ?_; (with_reducible refine (step_New.calls 4 t167 t168 _ A1.out).mono ?_); rintro e w32 ⟨v169, rfl, ho0, hb⟩; refine ⟨_, rfl, ?_⟩; have n0_ := Aside0.mk (Kd.R_lower ho0 (below_size (by repeat (first | (with_reducible first | exact HB.out | apply below_alloc | apply pw_below_drewN | apply below_drew1) | exact HB.out)))); have n1_ := Aside0.mk (below_step (by repeat (first | (with_reducible first | exact HB.out | apply below_alloc | apply pw_below_drewN | apply below_drew1) | exact HB.out)) hb); clear HB; have HO170 := n0_; have HB := n1_; clear n0_ n1_; (try clear hb); (try clear hb2); (try clear hk); (try clear hi); (try clear ho0); obtain ⟨Ao33, co33, eo33⟩ := Kd.R_slice HO170.out; subst eo33) | ((with_reducible refine gate_callee (f := 21) rfl ?_); refine goesL_ (some 14) rfl rfl Try.func21 (by kernel_rfl) rfl #[.slice Ao33 t167.length co33, .int .i64 2, .int .i64 5, .int .i64 3] rfl (by (try simp only [List.map_toArray, List.map_cons, List.map_nil]); first | done | rfl | (simp only [List.length_drop, List.length_take]; rfl)) ?_; (with_reducible refine (step_Take.calls k _ _ t167 2 5 3 t171 t172 _ ?side1 ?side2 A2.out).mono ?_); (case side1 => repeat (first | exact (Kd.R_reads' HO170.out).2.2 | (with_reducible refine Kd.C_alloc ?_ _) | (with_reducible refine Kd.C_drewN ?_ _) | (with_reducible refine Kd.C_drew ?_))); (case side2 => exact (Kd.R_reads' HO170.out).2.1); rintro e w34 ⟨v173, rfl, ho0, hb⟩; refine ⟨_, rfl, ?_⟩; have n0_ := Aside0.mk (Kd.R_elder' (by (with_reducible repeat (first | apply Kd.R_alloc | apply Kd.R_drewN | apply Kd.R_drew)); exact HO170.out) (Kd.R_base ho0) hb); have n1_ := Aside0.mk (Kd.R_lower (Kd.R_new' ho0 (Kd.R_lt (by (with_reducible repeat (first | apply Kd.R_alloc | apply Kd.R_drewN | apply Kd.R_drew)); exact HO170.out))) (below_size (by repeat (first | (with_reducible first | exact HB.out | apply below_alloc | apply pw_below_drewN | apply below_drew1) | exact HB.out)))); have n2_ := Aside0.mk (below_step (by repeat (first | (with_reducible first | exact HB.out | apply below_alloc | apply pw_below_drewN | apply below_drew1) | exact HB.out)) hb); clear HO170; clear HB; have HO170 := n0_; have HO174 := n1_; have HB := n2_; clear n0_ n1_ n2_; (try clear hb); (try clear hb2); (try clear hk); (try clear hi); (try clear ho0); obtain ⟨Ao35, co35, eo35⟩ := Kd.R_slice HO174.out; subst eo35) | ((with_reducible refine gate_callee (f := 15) rfl ?_); refine goesL_ (some 19) rfl rfl Try.func15 (by kernel_rfl) rfl #[.slice Ao35 t171.length co35, .int .i64 1, .int .i64 2, .int .i64 3] rfl (by (try simp only [List.map_toArray, List.map_cons, List.map_nil]); first | done | rfl | (simp only [List.length_drop, List.length_take]; rfl)) ?_; (with_reducible refine (step_First.calls k _ _ t171 1 2 3 t175 true _ ?side1 ?side2 A3.out).mono ?_); (case side1 => repeat (first | exact (Kd.R_reads' HO174.out).2.2 | (with_reducible refine Kd.C_alloc ?_ _) | (with_reducible refine Kd.C_drewN ?_ _) | (with_reducible refine Kd.C_drew ?_))); (case side2 => exact (Kd.R_reads' HO174.out).2.1); rintro e w36 ⟨rfl, hb⟩; refine ⟨_, rfl, ?_⟩; have n0_ := Aside0.mk (Kd.R_below (by (with_reducible repeat (first | apply Kd.R_alloc | apply Kd.R_drewN | apply Kd.R_drew)); exact HO170.out) hb); have n1_ := Aside0.mk (Kd.R_below (by (with_reducible repeat (first | apply Kd.R_alloc | apply Kd.R_drewN | apply Kd.R_drew)); exact HO174.out) hb); have n2_ := Aside0.mk (below_step (by repeat (first | (with_reducible first | exact HB.out | apply below_alloc | apply pw_below_drewN | apply below_drew1) | exact HB.out)) hb); clear HO170; clear HO174; clear HB; have HO170 := n0_; have HO174 := n1_; have HB := n2_; clear n0_ n1_ n2_; (try clear hb); (try clear hb2); (try clear hk); (try clear hi)) | ((with_reducible refine gate_callee (f := 19) rfl ?_); refine goesL_ (some 24) rfl rfl Try.func19 (by kernel_rfl) rfl #[.slice Ao35 t171.length co35, .int .i64 0, .int .i64 3] rfl (by (try simp only [List.map_toArray, List.map_cons, List.map_nil]); first | done | rfl | (simp only [List.length_drop, List.length_take]; rfl)) ?_; (with_reducible refine (step_Least.calls k _ _ t171 0 3 t177 t178 _ ?side1 ?side2 A4.out).mono ?_); (case side1 => repeat (first | exact (Kd.R_reads' HO174.out).2.2 | (with_reducible refine Kd.C_alloc ?_ _) | (with_reducible refine Kd.C_drewN ?_ _) | (with_reducible refine Kd.C_drew ?_))); (case side2 => exact (Kd.R_reads' HO174.out).2.1); rintro e w37 ⟨rfl, hb⟩; refine ⟨_, rfl, ?_⟩; have n0_ := Aside0.mk (Kd.R_below (by (with_reducible repeat (first | apply Kd.R_alloc | apply Kd.R_drewN | apply Kd.R_drew)); exact HO170.out) hb); have n1_ := Aside0.mk (Kd.R_below (by (with_reducible repeat (first | apply Kd.R_alloc | apply Kd.R_drewN | apply Kd.R_drew)); exact HO174.out) hb); have n2_ := Aside0.mk (below_step (by repeat (first | (with_reducible first | exact HB.out | apply below_alloc | apply pw_below_drewN | apply below_drew1) | exact HB.out)) hb); clear HO170; clear HO174; clear HB; have HO170 := n0_; have HO174 := n1_; have HB := n2_; clear n0_ n1_ n2_; (try clear hb); (try clear hb2); (try clear hk); (try clear hi)))
      go_ret
      exact ⟨by first | rfl | (simp [errW_none, errW_some] <;> rfl) | (simp [*, errW_none, errW_some] <;> rfl), by repeat (first | (with_reducible first | exact HB.out | apply below_alloc | apply pw_below_drewN | apply below_drew1) | exact HB.out)⟩
    ·replace c8 := Bool.eq_false_iff.mpr c8
     subst c8
     have H1 : (some false) = some r := by rw [if_neg (show ¬ (false = true) by decide)] at H; exact H
     clear H
     have H := H1
     clear H1
     obtain rfl := Option.some.inj H
     go_enter Try.func14, Try.ntmps14
     go_wp2_with (first | ((with_reducible refine gate_callee (f := 29) rfl ?_); refine goesL_ (some 9) rfl rfl Try.func29 (by kernel_rfl) rfl #[.int .i64 4] rfl (by (try simp only [List.map_toArray, List.map_cons, List.map_nil]); first | done | rfl | (simp only [List.length_drop, List.length_take]; rfl)) ?_; (with_reducible refine (step_New.calls 4 t167 t168 _ A1.out).mono ?_); rintro e w38 ⟨v169, rfl, ho0, hb⟩; refine ⟨_, rfl, ?_⟩; have n0_ := Aside0.mk (Kd.R_lower ho0 (below_size (by repeat (first | (with_reducible first | exact HB.out | apply below_alloc | apply pw_below_drewN | apply below_drew1) | exact HB.out)))); have n1_ := Aside0.mk (below_step (by repeat (first | (with_reducible first | exact HB.out | apply below_alloc | apply pw_below_drewN | apply below_drew1) | exact HB.out)) hb); clear HB; have HO170 := n0_; have HB := n1_; clear n0_ n1_; (try clear hb); (try clear hb2); (try clear hk); (try clear hi); (try clear ho0); obtain ⟨Ao39, co39, eo39⟩ := Kd.R_slice HO170.out; subst eo39) | ((with_reducible refine gate_callee (f := 21) rfl ?_); refine goesL_ (some 14) rfl rfl Try.func21 (by kernel_rfl) rfl #[.slice Ao39 t167.length co39, .int .i64 2, .int .i64 5, .int .i64 3] rfl (by (try simp only [List.map_toArray, List.map_cons, List.map_nil]); first | done | rfl | (simp only [List.length_drop, List.length_take]; rfl)) ?_; (with_reducible refine (step_Take.calls k _ _ t167 2 5 3 t171 t172 _ ?side1 ?side2 A2.out).mono ?_); (case side1 => repeat (first | exact (Kd.R_reads' HO170.out).2.2 | (with_reducible refine Kd.C_alloc ?_ _) | (with_reducible refine Kd.C_drewN ?_ _) | (with_reducible refine Kd.C_drew ?_))); (case side2 => exact (Kd.R_reads' HO170.out).2.1); rintro e w40 ⟨v173, rfl, ho0, hb⟩; refine ⟨_, rfl, ?_⟩; have n0_ := Aside0.mk (Kd.R_elder' (by (with_reducible repeat (first | apply Kd.R_alloc | apply Kd.R_drewN | apply Kd.R_drew)); exact HO170.out) (Kd.R_base ho0) hb); have n1_ := Aside0.mk (Kd.R_lower (Kd.R_new' ho0 (Kd.R_lt (by (with_reducible repeat (first | apply Kd.R_alloc | apply Kd.R_drewN | apply Kd.R_drew)); exact HO170.out))) (below_size (by repeat (first | (with_reducible first | exact HB.out | apply below_alloc | apply pw_below_drewN | apply below_drew1) | exact HB.out)))); have n2_ := Aside0.mk (below_step (by repeat (first | (with_reducible first | exact HB.out | apply below_alloc | apply pw_below_drewN | apply below_drew1) | exact HB.out)) hb); clear HO170; clear HB; have HO170 := n0_; have HO174 := n1_; have HB := n2_; clear n0_ n1_ n2_; (try clear hb); (try clear hb2); (try clear hk); (try clear hi); (try clear ho0); obtain ⟨Ao41, co41, eo41⟩ := Kd.R_slice HO174.out; subst eo41) | ((with_reducible refine gate_callee (f := 15) rfl ?_); refine goesL_ (some 19) rfl rfl Try.func15 (by kernel_rfl) rfl #[.slice Ao41 t171.length co41, .int .i64 1, .int .i64 2, .int .i64 3] rfl (by (try simp only [List.map_toArray, List.map_cons, List.map_nil]); first | done | rfl | (simp only [List.length_drop, List.length_take]; rfl)) ?_; (with_reducible refine (step_First.calls k _ _ t171 1 2 3 t175 false _ ?side1 ?side2 A3.out).mono ?_); (case side1 => repeat (first | exact (Kd.R_reads' HO174.out).2.2 | (with_reducible refine Kd.C_alloc ?_ _) | (with_reducible refine Kd.C_drewN ?_ _) | (with_reducible refine Kd.C_drew ?_))); (case side2 => exact (Kd.R_reads' HO174.out).2.1); rintro e w42 ⟨rfl, hb⟩; refine ⟨_, rfl, ?_⟩; have n0_ := Aside0.mk (Kd.R_below (by (with_reducible repeat (first | apply Kd.R_alloc | apply Kd.R_drewN | apply Kd.R_drew)); exact HO170.out) hb); have n1_ := Aside0.mk (Kd.R_below (by (with_reducible repeat (first | apply Kd.R_alloc | apply Kd.R_drewN | apply Kd.R_drew)); exact HO174.out) hb); have n2_ := Aside0.mk (below_step (by repeat (first | (with_reducible first | exact HB.out | apply below_alloc | apply pw_below_drewN | apply below_drew1) | exact HB.out)) hb); clear HO170; clear HO174; clear HB; have HO170 := n0_; have HO174 := n1_; have HB := n2_; clear n0_ n1_ n2_; (try clear hb); (try clear hb2); (try clear hk); (try clear hi)) | ((with_reducible refine gate_callee (f := 19) rfl ?_); refine goesL_ (some 24) rfl rfl Try.func19 (by kernel_rfl) rfl #[.slice Ao41 t171.length co41, .int .i64 0, .int .i64 3] rfl (by (try simp only [List.map_toArray, List.map_cons, List.map_nil]); first | done | rfl | (simp only [List.length_drop, List.length_take]; rfl)) ?_; (with_reducible refine (step_Least.calls k _ _ t171 0 3 t177 t178 _ ?side1 ?side2 A4.out).mono ?_); (case side1 => repeat (first | exact (Kd.R_reads' HO174.out).2.2 | (with_reducible refine Kd.C_alloc ?_ _) | (with_reducible refine Kd.C_drewN ?_ _) | (with_reducible refine Kd.C_drew ?_))); (case side2 => exact (Kd.R_reads' HO174.out).2.1); rintro e w43 ⟨rfl, hb⟩; refine ⟨_, rfl, ?_⟩; have n0_ := Aside0.mk (Kd.R_below (by (with_reducible repeat (first | apply Kd.R_alloc | apply Kd.R_drewN | apply Kd.R_drew)); exact HO170.out) hb); have n1_ := Aside0.mk (Kd.R_below (by (with_reducible repeat (first | apply Kd.R_alloc | apply Kd.R_drewN | apply Kd.R_drew)); exact HO174.out) hb); have n2_ := Aside0.mk (below_step (by repeat (first | (with_reducible first | exact HB.out | apply below_alloc | apply pw_below_drewN | apply below_drew1) | exact HB.out)) hb); clear HO170; clear HO174; clear HB; have HO170 := n0_; have HO174 := n1_; have HB := n2_; clear n0_ n1_ n2_; (try clear hb); (try clear hb2); (try clear hk); (try clear hi)))
     go_ret
     exact ⟨by first | rfl | (simp [errW_none, errW_some] <;> rfl) | (simp [*, errW_none, errW_some] <;> rfl), by repeat (first | (with_reducible first | exact HB.out | apply below_alloc | apply pw_below_drewN | apply below_drew1) | exact HB.out)⟩
   ·rw [if_neg c7] at H
    have c7b0 : ((t171.length : Int) == 3) = false := beq_eq_false_iff_ne.mpr c7
    have c7b1 : ((t171.length : Int) != 3) = true := bne_iff_ne.mpr c7
    obtain rfl := Option.some.inj H
    go_enter Try.func14, Try.ntmps14
    go_wp2_with (first | ((with_reducible refine gate_callee (f := 29) rfl ?_); refine goesL_ (some 9) rfl rfl Try.func29 (by kernel_rfl) rfl #[.int .i64 4] rfl (by (try simp only [List.map_toArray, List.map_cons, List.map_nil]); first | done | rfl | (simp only [List.length_drop, List.length_take]; rfl)) ?_; (with_reducible refine (step_New.calls 4 t167 t168 _ A1.out).mono ?_); rintro e w44 ⟨v169, rfl, ho0, hb⟩; refine ⟨_, rfl, ?_⟩; have n0_ := Aside0.mk (Kd.R_lower ho0 (below_size (by repeat (first | (with_reducible first | exact HB.out | apply below_alloc | apply pw_below_drewN | apply below_drew1) | exact HB.out)))); have n1_ := Aside0.mk (below_step (by repeat (first | (with_reducible first | exact HB.out | apply below_alloc | apply pw_below_drewN | apply below_drew1) | exact HB.out)) hb); clear HB; have HO170 := n0_; have HB := n1_; clear n0_ n1_; (try clear hb); (try clear hb2); (try clear hk); (try clear hi); (try clear ho0); obtain ⟨Ao45, co45, eo45⟩ := Kd.R_slice HO170.out; subst eo45) | ((with_reducible refine gate_callee (f := 21) rfl ?_); refine goesL_ (some 14) rfl rfl Try.func21 (by kernel_rfl) rfl #[.slice Ao45 t167.length co45, .int .i64 2, .int .i64 5, .int .i64 3] rfl (by (try simp only [List.map_toArray, List.map_cons, List.map_nil]); first | done | rfl | (simp only [List.length_drop, List.length_take]; rfl)) ?_; (with_reducible refine (step_Take.calls k _ _ t167 2 5 3 t171 t172 _ ?side1 ?side2 A2.out).mono ?_); (case side1 => repeat (first | exact (Kd.R_reads' HO170.out).2.2 | (with_reducible refine Kd.C_alloc ?_ _) | (with_reducible refine Kd.C_drewN ?_ _) | (with_reducible refine Kd.C_drew ?_))); (case side2 => exact (Kd.R_reads' HO170.out).2.1); rintro e w46 ⟨v173, rfl, ho0, hb⟩; refine ⟨_, rfl, ?_⟩; have n0_ := Aside0.mk (Kd.R_elder' (by (with_reducible repeat (first | apply Kd.R_alloc | apply Kd.R_drewN | apply Kd.R_drew)); exact HO170.out) (Kd.R_base ho0) hb); have n1_ := Aside0.mk (Kd.R_lower (Kd.R_new' ho0 (Kd.R_lt (by (with_reducible repeat (first | apply Kd.R_alloc | apply Kd.R_drewN | apply Kd.R_drew)); exact HO170.out))) (below_size (by repeat (first | (with_reducible first | exact HB.out | apply below_alloc | apply pw_below_drewN | apply below_drew1) | exact HB.out)))); have n2_ := Aside0.mk (below_step (by repeat (first | (with_reducible first | exact HB.out | apply below_alloc | apply pw_below_drewN | apply below_drew1) | exact HB.out)) hb); clear HO170; clear HB; have HO170 := n0_; have HO174 := n1_; have HB := n2_; clear n0_ n1_ n2_; (try clear hb); (try clear hb2); (try clear hk); (try clear hi); (try clear ho0); obtain ⟨Ao47, co47, eo47⟩ := Kd.R_slice HO174.out; subst eo47) | ((with_reducible refine gate_callee (f := 15) rfl ?_); refine goesL_ (some 19) rfl rfl Try.func15 (by kernel_rfl) rfl #[.slice Ao47 t171.length co47, .int .i64 1, .int .i64 2, .int .i64 3] rfl (by (try simp only [List.map_toArray, List.map_cons, List.map_nil]); first | done | rfl | (simp only [List.length_drop, List.length_take]; rfl)) ?_; (with_reducible refine (step_First.calls k _ _ t171 1 2 3 t175 t176 _ ?side1 ?side2 A3.out).mono ?_); (case side1 => repeat (first | exact (Kd.R_reads' HO174.out).2.2 | (with_reducible refine Kd.C_alloc ?_ _) | (with_reducible refine Kd.C_drewN ?_ _) | (with_reducible refine Kd.C_drew ?_))); (case side2 => exact (Kd.R_reads' HO174.out).2.1); rintro e w48 ⟨rfl, hb⟩; refine ⟨_, rfl, ?_⟩; have n0_ := Aside0.mk (Kd.R_below (by (with_reducible repeat (first | apply Kd.R_alloc | apply Kd.R_drewN | apply Kd.R_drew)); exact HO170.out) hb); have n1_ := Aside0.mk (Kd.R_below (by (with_reducible repeat (first | apply Kd.R_alloc | apply Kd.R_drewN | apply Kd.R_drew)); exact HO174.out) hb); have n2_ := Aside0.mk (below_step (by repeat (first | (with_reducible first | exact HB.out | apply below_alloc | apply pw_below_drewN | apply below_drew1) | exact HB.out)) hb); clear HO170; clear HO174; clear HB; have HO170 := n0_; have HO174 := n1_; have HB := n2_; clear n0_ n1_ n2_; (try clear hb); (try clear hb2); (try clear hk); (try clear hi)) | ((with_reducible refine gate_callee (f := 19) rfl ?_); refine goesL_ (some 24) rfl rfl Try.func19 (by kernel_rfl) rfl #[.slice Ao47 t171.length co47, .int .i64 0, .int .i64 3] rfl (by (try simp only [List.map_toArray, List.map_cons, List.map_nil]); first | done | rfl | (simp only [List.length_drop, List.length_take]; rfl)) ?_; (with_reducible refine (step_Least.calls k _ _ t171 0 3 t177 t178 _ ?side1 ?side2 A4.out).mono ?_); (case side1 => repeat (first | exact (Kd.R_reads' HO174.out).2.2 | (with_reducible refine Kd.C_alloc ?_ _) | (with_reducible refine Kd.C_drewN ?_ _) | (with_reducible refine Kd.C_drew ?_))); (case side2 => exact (Kd.R_reads' HO174.out).2.1); rintro e w49 ⟨rfl, hb⟩; refine ⟨_, rfl, ?_⟩; have n0_ := Aside0.mk (Kd.R_below (by (with_reducible repeat (first | apply Kd.R_alloc | apply Kd.R_drewN | apply Kd.R_drew)); exact HO170.out) hb); have n1_ := Aside0.mk (Kd.R_below (by (with_reducible repeat (first | apply Kd.R_alloc | apply Kd.R_drewN | apply Kd.R_drew)); exact HO174.out) hb); have n2_ := Aside0.mk (below_step (by repeat (first | (with_reducible first | exact HB.out | apply below_alloc | apply pw_below_drewN | apply below_drew1) | exact HB.out)) hb); clear HO170; clear HO174; clear HB; have HO170 := n0_; have HO174 := n1_; have HB := n2_; clear n0_ n1_ n2_; (try clear hb); (try clear hb2); (try clear hk); (try clear hi)))
    go_ret
    exact ⟨by first | rfl | (simp [errW_none, errW_some] <;> rfl) | (simp [*, errW_none, errW_some] <;> rfl), by repeat (first | (with_reducible first | exact HB.out | apply below_alloc | apply pw_below_drewN | apply below_drew1) | exact HB.out)⟩
  ·rw [if_neg c6] at H
   have c6b0 : (t172 == 0) = false := beq_eq_false_iff_ne.mpr c6
   have c6b1 : (t172 != 0) = true := bne_iff_ne.mpr c6
   obtain rfl := Option.some.inj H
   go_enter Try.func14, Try.ntmps14
   go_wp2_with (first | ((with_reducible refine gate_callee (f := 29) rfl ?_); refine goesL_ (some 9) rfl rfl Try.func29 (by kernel_rfl) rfl #[.int .i64 4] rfl (by (try simp only [List.map_toArray, List.map_cons, List.map_nil]); first | done | rfl | (simp only [List.length_drop, List.length_take]; rfl)) ?_; (with_reducible refine (step_New.calls 4 t167 t168 _ A1.out).mono ?_); rintro e w50 ⟨v169, rfl, ho0, hb⟩; refine ⟨_, rfl, ?_⟩; have n0_ := Aside0.mk (Kd.R_lower ho0 (below_size (by repeat (first | (with_reducible first | exact HB.out | apply below_alloc | apply pw_below_drewN | apply below_drew1) | exact HB.out)))); have n1_ := Aside0.mk (below_step (by repeat (first | (with_reducible first | exact HB.out | apply below_alloc | apply pw_below_drewN | apply below_drew1) | exact HB.out)) hb); clear HB; have HO170 := n0_; have HB := n1_; clear n0_ n1_; (try clear hb); (try clear hb2); (try clear hk); (try clear hi); (try clear ho0); obtain ⟨Ao51, co51, eo51⟩ := Kd.R_slice HO170.out; subst eo51) | ((with_reducible refine gate_callee (f := 21) rfl ?_); refine goesL_ (some 14) rfl rfl Try.func21 (by kernel_rfl) rfl #[.slice Ao51 t167.length co51, .int .i64 2, .int .i64 5, .int .i64 3] rfl (by (try simp only [List.map_toArray, List.map_cons, List.map_nil]); first | done | rfl | (simp only [List.length_drop, List.length_take]; rfl)) ?_; (with_reducible refine (step_Take.calls k _ _ t167 2 5 3 t171 t172 _ ?side1 ?side2 A2.out).mono ?_); (case side1 => repeat (first | exact (Kd.R_reads' HO170.out).2.2 | (with_reducible refine Kd.C_alloc ?_ _) | (with_reducible refine Kd.C_drewN ?_ _) | (with_reducible refine Kd.C_drew ?_))); (case side2 => exact (Kd.R_reads' HO170.out).2.1); rintro e w52 ⟨v173, rfl, ho0, hb⟩; refine ⟨_, rfl, ?_⟩; have n0_ := Aside0.mk (Kd.R_elder' (by (with_reducible repeat (first | apply Kd.R_alloc | apply Kd.R_drewN | apply Kd.R_drew)); exact HO170.out) (Kd.R_base ho0) hb); have n1_ := Aside0.mk (Kd.R_lower (Kd.R_new' ho0 (Kd.R_lt (by (with_reducible repeat (first | apply Kd.R_alloc | apply Kd.R_drewN | apply Kd.R_drew)); exact HO170.out))) (below_size (by repeat (first | (with_reducible first | exact HB.out | apply below_alloc | apply pw_below_drewN | apply below_drew1) | exact HB.out)))); have n2_ := Aside0.mk (below_step (by repeat (first | (with_reducible first | exact HB.out | apply below_alloc | apply pw_below_drewN | apply below_drew1) | exact HB.out)) hb); clear HO170; clear HB; have HO170 := n0_; have HO174 := n1_; have HB := n2_; clear n0_ n1_ n2_; (try clear hb); (try clear hb2); (try clear hk); (try clear hi); (try clear ho0); obtain ⟨Ao53, co53, eo53⟩ := Kd.R_slice HO174.out; subst eo53) | ((with_reducible refine gate_callee (f := 15) rfl ?_); refine goesL_ (some 19) rfl rfl Try.func15 (by kernel_rfl) rfl #[.slice Ao53 t171.length co53, .int .i64 1, .int .i64 2, .int .i64 3] rfl (by (try simp only [List.map_toArray, List.map_cons, List.map_nil]); first | done | rfl | (simp only [List.length_drop, List.length_take]; rfl)) ?_; (with_reducible refine (step_First.calls k _ _ t171 1 2 3 t175 t176 _ ?side1 ?side2 A3.out).mono ?_); (case side1 => repeat (first | exact (Kd.R_reads' HO174.out).2.2 | (with_reducible refine Kd.C_alloc ?_ _) | (with_reducible refine Kd.C_drewN ?_ _) | (with_reducible refine Kd.C_drew ?_))); (case side2 => exact (Kd.R_reads' HO174.out).2.1); rintro e w54 ⟨rfl, hb⟩; refine ⟨_, rfl, ?_⟩; have n0_ := Aside0.mk (Kd.R_below (by (with_reducible repeat (first | apply Kd.R_alloc | apply Kd.R_drewN | apply Kd.R_drew)); exact HO170.out) hb); have n1_ := Aside0.mk (Kd.R_below (by (with_reducible repeat (first | apply Kd.R_alloc | apply Kd.R_drewN | apply Kd.R_drew)); exact HO174.out) hb); have n2_ := Aside0.mk (below_step (by repeat (first | (with_reducible first | exact HB.out | apply below_alloc | apply pw_below_drewN | apply below_drew1) | exact HB.out)) hb); clear HO170; clear HO174; clear HB; have HO170 := n0_; have HO174 := n1_; have HB := n2_; clear n0_ n1_ n2_; (try clear hb); (try clear hb2); (try clear hk); (try clear hi)) | ((with_reducible refine gate_callee (f := 19) rfl ?_); refine goesL_ (some 24) rfl rfl Try.func19 (by kernel_rfl) rfl #[.slice Ao53 t171.length co53, .int .i64 0, .int .i64 3] rfl (by (try simp only [List.map_toArray, List.map_cons, List.map_nil]); first | done | rfl | (simp only [List.length_drop, List.length_take]; rfl)) ?_; (with_reducible refine (step_Least.calls k _ _ t171 0 3 t177 t178 _ ?side1 ?side2 A4.out).mono ?_); (case side1 => repeat (first | exact (Kd.R_reads' HO174.out).2.2 | (with_reducible refine Kd.C_alloc ?_ _) | (with_reducible refine Kd.C_drewN ?_ _) | (with_reducible refine Kd.C_drew ?_))); (case side2 => exact (Kd.R_reads' HO174.out).2.1); rintro e w55 ⟨rfl, hb⟩; refine ⟨_, rfl, ?_⟩; have n0_ := Aside0.mk (Kd.R_below (by (with_reducible repeat (first | apply Kd.R_alloc | apply Kd.R_drewN | apply Kd.R_drew)); exact HO170.out) hb); have n1_ := Aside0.mk (Kd.R_below (by (with_reducible repeat (first | apply Kd.R_alloc | apply Kd.R_drewN | apply Kd.R_drew)); exact HO174.out) hb); have n2_ := Aside0.mk (below_step (by repeat (first | (with_reducible first | exact HB.out | apply below_alloc | apply pw_below_drewN | apply below_drew1) | exact HB.out)) hb); clear HO170; clear HO174; clear HB; have HO170 := n0_; have HO174 := n1_; have HB := n2_; clear n0_ n1_ n2_; (try clear hb); (try clear hb2); (try clear hk); (try clear hi)))
   go_ret
   exact ⟨by first | rfl | (simp [errW_none, errW_some] <;> rfl) | (simp [*, errW_none, errW_some] <;> rfl), by repeat (first | (with_reducible first | exact HB.out | apply below_alloc | apply pw_below_drewN | apply below_drew1) | exact HB.out)⟩
 ·rw [if_neg c5] at H
  have c5b0 : (t168 == 0) = false := beq_eq_false_iff_ne.mpr c5
  have c5b1 : (t168 != 0) = true := bne_iff_ne.mpr c5
  obtain rfl := Option.some.inj H
  go_enter Try.func14, Try.ntmps14
  go_wp2_with (first | ((with_reducible refine gate_callee (f := 29) rfl ?_); refine goesL_ (some 9) rfl rfl Try.func29 (by kernel_rfl) rfl #[.int .i64 4] rfl (by (try simp only [List.map_toArray, List.map_cons, List.map_nil]); first | done | rfl | (simp only [List.length_drop, List.length_take]; rfl)) ?_; (with_reducible refine (step_New.calls 4 t167 t168 _ A1.out).mono ?_); rintro e w56 ⟨v169, rfl, ho0, hb⟩; refine ⟨_, rfl, ?_⟩; have n0_ := Aside0.mk (Kd.R_lower ho0 (below_size (by repeat (first | (with_reducible first | exact HB.out | apply below_alloc | apply pw_below_drewN | apply below_drew1) | exact HB.out)))); have n1_ := Aside0.mk (below_step (by repeat (first | (with_reducible first | exact HB.out | apply below_alloc | apply pw_below_drewN | apply below_drew1) | exact HB.out)) hb); clear HB; have HO170 := n0_; have HB := n1_; clear n0_ n1_; (try clear hb); (try clear hb2); (try clear hk); (try clear hi); (try clear ho0); obtain ⟨Ao57, co57, eo57⟩ := Kd.R_slice HO170.out; subst eo57) | ((with_reducible refine gate_callee (f := 21) rfl ?_); refine goesL_ (some 14) rfl rfl Try.func21 (by kernel_rfl) rfl #[.slice Ao57 t167.length co57, .int .i64 2, .int .i64 5, .int .i64 3] rfl (by (try simp only [List.map_toArray, List.map_cons, List.map_nil]); first | done | rfl | (simp only [List.length_drop, List.length_take]; rfl)) ?_; (with_reducible refine (step_Take.calls k _ _ t167 2 5 3 t171 t172 _ ?side1 ?side2 A2.out).mono ?_); (case side1 => repeat (first | exact (Kd.R_reads' HO170.out).2.2 | (with_reducible refine Kd.C_alloc ?_ _) | (with_reducible refine Kd.C_drewN ?_ _) | (with_reducible refine Kd.C_drew ?_))); (case side2 => exact (Kd.R_reads' HO170.out).2.1); rintro e w58 ⟨v173, rfl, ho0, hb⟩; refine ⟨_, rfl, ?_⟩; have n0_ := Aside0.mk (Kd.R_elder' (by (with_reducible repeat (first | apply Kd.R_alloc | apply Kd.R_drewN | apply Kd.R_drew)); exact HO170.out) (Kd.R_base ho0) hb); have n1_ := Aside0.mk (Kd.R_lower (Kd.R_new' ho0 (Kd.R_lt (by (with_reducible repeat (first | apply Kd.R_alloc | apply Kd.R_drewN | apply Kd.R_drew)); exact HO170.out))) (below_size (by repeat (first | (with_reducible first | exact HB.out | apply below_alloc | apply pw_below_drewN | apply below_drew1) | exact HB.out)))); have n2_ := Aside0.mk (below_step (by repeat (first | (with_reducible first | exact HB.out | apply below_alloc | apply pw_below_drewN | apply below_drew1) | exact HB.out)) hb); clear HO170; clear HB; have HO170 := n0_; have HO174 := n1_; have HB := n2_; clear n0_ n1_ n2_; (try clear hb); (try clear hb2); (try clear hk); (try clear hi); (try clear ho0); obtain ⟨Ao59, co59, eo59⟩ := Kd.R_slice HO174.out; subst eo59) | ((with_reducible refine gate_callee (f := 15) rfl ?_); refine goesL_ (some 19) rfl rfl Try.func15 (by kernel_rfl) rfl #[.slice Ao59 t171.length co59, .int .i64 1, .int .i64 2, .int .i64 3] rfl (by (try simp only [List.map_toArray, List.map_cons, List.map_nil]); first | done | rfl | (simp only [List.length_drop, List.length_take]; rfl)) ?_; (with_reducible refine (step_First.calls k _ _ t171 1 2 3 t175 t176 _ ?side1 ?side2 A3.out).mono ?_); (case side1 => repeat (first | exact (Kd.R_reads' HO174.out).2.2 | (with_reducible refine Kd.C_alloc ?_ _) | (with_reducible refine Kd.C_drewN ?_ _) | (with_reducible refine Kd.C_drew ?_))); (case side2 => exact (Kd.R_reads' HO174.out).2.1); rintro e w60 ⟨rfl, hb⟩; refine ⟨_, rfl, ?_⟩; have n0_ := Aside0.mk (Kd.R_below (by (with_reducible repeat (first | apply Kd.R_alloc | apply Kd.R_drewN | apply Kd.R_drew)); exact HO170.out) hb); have n1_ := Aside0.mk (Kd.R_below (by (with_reducible repeat (first | apply Kd.R_alloc | apply Kd.R_drewN | apply Kd.R_drew)); exact HO174.out) hb); have n2_ := Aside0.mk (below_step (by repeat (first | (with_reducible first | exact HB.out | apply below_alloc | apply pw_below_drewN | apply below_drew1) | exact HB.out)) hb); clear HO170; clear HO174; clear HB; have HO170 := n0_; have HO174 := n1_; have HB := n2_; clear n0_ n1_ n2_; (try clear hb); (try clear hb2); (try clear hk); (try clear hi)) | ((with_reducible refine gate_callee (f := 19) rfl ?_); refine goesL_ (some 24) rfl rfl Try.func19 (by kernel_rfl) rfl #[.slice Ao59 t171.length co59, .int .i64 0, .int .i64 3] rfl (by (try simp only [List.map_toArray, List.map_cons, List.map_nil]); first | done | rfl | (simp only [List.length_drop, List.length_take]; rfl)) ?_; (with_reducible refine (step_Least.calls k _ _ t171 0 3 t177 t178 _ ?side1 ?side2 A4.out).mono ?_); (case side1 => repeat (first | exact (Kd.R_reads' HO174.out).2.2 | (with_reducible refine Kd.C_alloc ?_ _) | (with_reducible refine Kd.C_drewN ?_ _) | (with_reducible refine Kd.C_drew ?_))); (case side2 => exact (Kd.R_reads' HO174.out).2.1); rintro e w61 ⟨rfl, hb⟩; refine ⟨_, rfl, ?_⟩; have n0_ := Aside0.mk (Kd.R_below (by (with_reducible repeat (first | apply Kd.R_alloc | apply Kd.R_drewN | apply Kd.R_drew)); exact HO170.out) hb); have n1_ := Aside0.mk (Kd.R_below (by (with_reducible repeat (first | apply Kd.R_alloc | apply Kd.R_drewN | apply Kd.R_drew)); exact HO174.out) hb); have n2_ := Aside0.mk (below_step (by repeat (first | (with_reducible first | exact HB.out | apply below_alloc | apply pw_below_drewN | apply below_drew1) | exact HB.out)) hb); clear HO170; clear HO174; clear HB; have HO170 := n0_; have HO174 := n1_; have HB := n2_; clear n0_ n1_ n2_; (try clear hb); (try clear hb2); (try clear hk); (try clear hi)))
  go_ret
  exact ⟨by first | rfl | (simp [errW_none, errW_some] <;> rfl) | (simp [*, errW_none, errW_some] <;> rfl), by repeat (first | (with_reducible first | exact HB.out | apply below_alloc | apply pw_below_drewN | apply below_drew1) | exact HB.out)⟩

def bailiwickref03_Same.l0 : Nat → List (S45) → List (S45) → Int → Option (Bool)
 | 0, _, _, _ => none
 | k + 1, x0, x1, x5 => if x5 < (x0.length : Int) then (if 0 ≤ x5 then (if x5 < (x1.length : Int) then (if (!(((rd_T45 x0 x5).f0) == ((rd_T45 x1 x5).f0)) || (!(((rd_T45 x0 x5).f1) == ((rd_T45 x1 x5).f1)))) = true then (some false) else (bailiwickref03_Same.l0 k x0 x1 (wrap64 (x5 + 1)))) else (none)) else (none)) else (some true)
def bailiwickref03_Same.f (k : Nat) (l0 : List (S45)) (l1 : List (S45)) : Option (Bool) := if (l0.length : Int) = (l1.length : Int) then (bailiwickref03_Same.l0 k l0 l1 0) else (some false)
set_option maxHeartbeats 8000000 in
set_option maxRecDepth 100000 in
theorem bailiwickref03_Same.calls (k : Nat) (A0 : Option Addr) (c0 : Nat) (l0 : List (S45)) (A1 : Option Addr) (c1 : Nat) (l1 : List (S45)) (r : Bool) (w : World) (hr0 : Kd.C k45 w A0 l0.length l0) (hc0 : l0.length ≤ c0) (hr1 : Kd.C k45 w A1 l1.length l1) (hc1 : l1.length ≤ c1) (h : bailiwickref03_Same.f k l0 l1 = some r) :
  Calls Try.prog 22 #[.slice A0 l0.length c0, .slice A1 l1.length c1] w fun e w' => e = .returned (.bool r) ∧ Drawn0 w w' := by
 have hu45 := Try.underlying45
 have HR0 := Aside0.mk hr0
 have HC0 := Aside0.mk hc0
 clear hr0 hc0
 have HR1 := Aside0.mk hr1
 have HC1 := Aside0.mk hc1
 clear hr1 hc1
 have H : (if (l0.length : Int) = (l1.length : Int) then (bailiwickref03_Same.l0 k l0 l1 0) else (some false)) = some r := h
 clear h
 by_cases c3 : (l0.length : Int) = (l1.length : Int)
 ·rw [if_pos c3] at H
  have c3b0 : ((l0.length : Int) == (l1.length : Int)) = true := beq_iff_eq.mpr c3
  have c3b1 : ((l0.length : Int) != (l1.length : Int)) = false := bne_eq_false_iff_eq.mpr c3
  have c3b2 : (l0.length == l1.length) = true := by first | simpa using c3 | (simp at c3 ⊢; omega)
  clear c3
  have H' := Aside0.mk H
  clear H
  go_enter Try.func22, Try.ntmps22
  go_wp2
  repeat (go_quiet (fail); try go_wp2)
  go_loopg [5] k (fun kq v5 w' => ∃ (x5_1 : Int), v5 = .int .i64 x5_1 ∧ Aside0 (bailiwickref03_Same.l0 kq l0 l1 x5_1 = some r) ∧ Aside0 (kq ≤ k) ∧ Drawn0 w w')
  case atStart => exact ⟨(0), (by first | rfl | (simp; done) | (simp [*]; done)), H', ⟨Nat.le_refl _⟩, by repeat (first | exact Drawn0.refl _ | apply Drawn0.step)⟩
  case round =>
   clear H'
   try clear c1
   try clear c2
   try clear p2
   try clear c3
   try clear c3b0
   try clear c3b1
   try clear c3b2
   obtain ⟨x5_1, rfl, HA, HK1, ⟨m1, rfl⟩⟩ := hrel
   cases gk with
   | zero => exact absurd HA.out (by simp [bailiwickref03_Same.l0])
   | succ k1 =>
    have H := HA.out
    clear HA
    simp only [bailiwickref03_Same.l0] at H
    by_cases c4 : x5_1 < (l0.length : Int)
    ·rw [if_pos c4] at H
     have c4b0 : decide (x5_1 < (l0.length : Int)) = true := decide_eq_true c4
     clear c4
     by_cases c5 : 0 ≤ x5_1
     ·rw [if_pos c5] at H
      have c5b0 : decide (0 ≤ x5_1) = true := decide_eq_true c5
      clear c5
      by_cases c6 : x5_1 < (l1.length : Int)
      ·rw [if_pos c6] at H
       have c6b0 : decide (x5_1 < (l1.length : Int)) = true := decide_eq_true c6
       clear c6
       by_cases c7 : (!(((rd_T45 l0 x5_1).f0) == ((rd_T45 l1 x5_1).f0)) || (!(((rd_T45 l0 x5_1).f1) == ((rd_T45 l1 x5_1).f1)))) = true
       ·rw [if_pos c7] at H
        have c7b0 : (!(((rd_T45 l0 x5_1).f0) == ((rd_T45 l1 x5_1).f0)) || (!(((rd_T45 l0 x5_1).f1) == ((rd_T45 l1 x5_1).f1)))) = true := c7
        clear c7
        obtain rfl := Option.some.inj H
        have p180 : 0 ≤ (x5_1 : Int) := of_decide_eq_true (by first | (with_reducible assumption) | assumption)
        have q180 : x5_1 < (l0.length : Int) := of_decide_eq_true (by first | (with_reducible assumption) | assumption)
        obtain ⟨ad180, e180, hx180_0, hx180_1⟩ := at_T45 HR0.out x5_1 p180 q180
        cases e180
        replace p180 := eq_true p180
        replace q180 := eq_true q180
        have p181 : 0 ≤ (x5_1 : Int) := of_decide_eq_true (by first | (with_reducible assumption) | assumption)
        have q181 : x5_1 < (l1.length : Int) := of_decide_eq_true (by first | (with_reducible assumption) | assumption)
        obtain ⟨ad181, e181, hx181_0, hx181_1⟩ := at_T45 HR1.out x5_1 p181 q181
        cases e181
        replace p181 := eq_true p181
        replace q181 := eq_true q181
        go_wp2
        repeat (go_quiet (fail); try go_wp2)
        go_ret
        exact ⟨by first | rfl | (simp; done) | (simp [*]; done), by repeat (first | exact Drawn0.refl _ | apply Drawn0.step)⟩
       ·rw [if_neg c7] at H
        have c7b0 : (!(((rd_T45 l0 x5_1).f0) == ((rd_T45 l1 x5_1).f0)) || (!(((rd_T45 l0 x5_1).f1) == ((rd_T45 l1 x5_1).f1)))) = false := by simpa using c7
        clear c7
        have H' := Aside0.mk H
        clear H
        have p180 : 0 ≤ (x5_1 : Int) := of_decide_eq_true (by first | (with_reducible assumption) | assumption)
        have q180 : x5_1 < (l0.length : Int) := of_decide_eq_true (by first | (with_reducible assumption) | assumption)
        obtain ⟨ad180, e180, hx180_0, hx180_1⟩ := at_T45 HR0.out x5_1 p180 q180
        cases e180
        replace p180 := eq_true p180
        replace q180 := eq_true q180
        have p181 : 0 ≤ (x5_1 : Int) := of_decide_eq_true (by first | (with_reducible assumption) | assumption)
        have q181 : x5_1 < (l1.length : Int) := of_decide_eq_true (by first | (with_reducible assumption) | assumption)
        obtain ⟨ad181, e181, hx181_0, hx181_1⟩ := at_T45 HR1.out x5_1 p181 q181
        cases e181
        replace p181 := eq_true p181
        replace q181 := eq_true q181
        go_wp2
        repeat (go_quiet (fail); try go_wp2)
        go_roundg k1
        case measure => have := HK1.out; omega
        case rel => exact ⟨(wrap64 (x5_1 + 1)), (by first | rfl | (simp; done) | (simp [*]; done)), H', ⟨by have := HK1.out; omega⟩, by repeat (first | exact Drawn0.refl _ | apply Drawn0.step)⟩
      ·rw [if_neg c6] at H
       exact absurd H (by simp)
     ·rw [if_neg c5] at H
      exact absurd H (by simp)
    ·rw [if_neg c4] at H
     have c4b0 : decide (x5_1 < (l0.length : Int)) = false := decide_eq_false c4
     clear c4
     obtain rfl := Option.some.inj H
     go_wp2
     repeat (go_quiet (fail); try go_wp2)
     go_ret
     exact ⟨by first | rfl | (simp; done) | (simp [*]; done), by repeat (first | exact Drawn0.refl _ | apply Drawn0.step)⟩
 ·rw [if_neg c3] at H
  have c3b0 : ((l0.length : Int) == (l1.length : Int)) = false := beq_eq_false_iff_ne.mpr c3
  have c3b1 : ((l0.length : Int) != (l1.length : Int)) = true := bne_iff_ne.mpr c3
  have c3b2 : (l0.length == l1.length) = false := by first | simpa using c3 | (simp at c3 ⊢; omega)
  obtain rfl := Option.some.inj H
  go_enter Try.func22, Try.ntmps22
  go_wp2
  repeat (go_quiet (fail); try go_wp2)
  go_ret
  exact ⟨by first | rfl | (simp; done) | (simp [*]; done), by repeat (first | exact Drawn0.refl _ | apply Drawn0.step)⟩

end Go.Proofs.Ytimllhflecippaa.F
end

section
namespace Go.Proofs.Ytimllhflecippaa.Pk
open Go.RowKit Go.Proofs.YtimllhflecippaaW.PrintWords Go.Proofs.YtimllhflecippaaW.PrintMore
set_option linter.unusedSimpArgs false
set_option linter.unusedVariables false

theorem w64 {n : Int} (h0 : -9223372036854775808 ≤ n) (h1 : n ≤ 9223372036854775807) : wrap64 n = n := by unfold wrap64; omega
theorem mx_eq (x y : Int) : mx x y = if x < y then y else x := by unfold mx; rfl
theorem mn_eq (x y : Int) : mn x y = if y < x then y else x := by unfold mn; rfl

theorem rd_nat (l : List Int) (i : Nat) : rd l (i : Int) = l.getD i 0 := by unfold rd; simp
end Go.Proofs.Ytimllhflecippaa.Pk
end

section
namespace Go.Proofs.Ytimllhflecippaa.StepP
open Go.RowKit Go.Proofs.YtimllhflecippaaW.PrintWords Go.Proofs.YtimllhflecippaaW.PrintMore Go.Proofs.Ytimllhflecippaa.F Go.Proofs.Ytimllhflecippaa.Pk
set_option linter.unusedSimpArgs false
set_option linter.unusedVariables false

abbrev St := S45
abbrev rdS (l : List St) (i : Int) : St := rd_T45 l i
/-- The i-th step's time and amount. -/
def At (l : List St) (i : Nat) : Int := (rdS l i).f0
def Vl (l : List St) (i : Nat) : Int := (rdS l i).f1
theorem rdS_nat (l : List St) (i : Nat) (h : i < l.length) : rdS l (i : Int) = l[i] := by
  show l.getD (i : Int).toNat _ = _
  rw [List.getD_eq_getElem?_getD]; simp [h]
theorem rdS_app {l m : List St} {i : Nat} (h : i < l.length) : rdS (l ++ m) (i : Int) = rdS l i := by
  rw [rdS_nat _ _ (by simp; omega), rdS_nat _ _ h, List.getElem_append_left h]
theorem rdS_last {l : List St} {s : St} : rdS (l ++ [s]) (l.length : Int) = s := by
  rw [rdS_nat _ _ (by simp)]; simp
def Never : Int := 4611686018427387904
def amt (n : Int) : Prop := 0 ≤ n ∧ n ≤ 1048576
instance (n : Int) : Decidable (amt n) := by unfold amt; exact inferInstance
/-- Rising from 0 on, each step says something else. -/
structure Norm (l : List St) : Prop where
  pos : 0 < l.length
  zero : At l 0 = 0
  rise : ∀ i, i + 1 < l.length → At l i < At l (i + 1) ∧ Vl l i ≠ Vl l (i + 1)
  top : ∀ i, i < l.length → At l i ≤ Never
structure Right (l : List St) : Prop extends Norm l where
  len : l.length ≤ 1024
  amts : ∀ i, i < l.length → amt (Vl l i)
theorem Norm.lt {l : List St} (h : Norm l) : ∀ {i j : Nat}, i < j → j < l.length → At l i < At l j
  | i, 0, hi, _ => by omega
  | i, j + 1, hi, hj => by
    have h1 := (h.rise j hj).1
    rcases Nat.lt_or_ge i j with h2 | h2
    · have := Norm.lt h h2 (by omega); omega
    · have : i = j := by omega
      subst this; exact h1
theorem Norm.le {l : List St} (h : Norm l) {i j : Nat} (hij : i ≤ j) (hj : j < l.length) : At l i ≤ At l j := by
  rcases Nat.lt_or_ge i j with h1 | h1
  · exact Int.le_of_lt (h.lt h1 hj)
  · have : i = j := by omega
    subst this; exact Int.le_refl _
theorem Norm.ge0 {l : List St} (h : Norm l) {i : Nat} (hi : i < l.length) : 0 ≤ At l i := by have := h.le (Nat.zero_le i) hi; rw [h.zero] at this; exact this
/-- Step i holds at t. -/
def IsPl (l : List St) (t : Int) (i : Nat) : Prop := i < l.length ∧ At l i ≤ t ∧ (i + 1 < l.length → t < At l (i + 1))
theorem IsPl.uniq {l : List St} (h : Norm l) {t : Int} {i j : Nat} (hi : IsPl l t i) (hj : IsPl l t j) : i = j := by
  rcases Nat.lt_trichotomy i j with h1 | h1 | h1
  · have h2 := hi.2.2 (by have := hj.1; omega)
    have h3 := h.le (i := i + 1) (j := j) h1 hj.1
    have h4 := hj.2.1
    omega
  · exact h1
  · have h2 := hj.2.2 (by have := hi.1; omega)
    have h3 := h.le (i := j + 1) (j := i) h1 hi.1
    have h4 := hi.2.1
    omega
theorem IsPl.ex {l : List St} (h : Norm l) {t : Int} (ht : 0 ≤ t) : ∃ i, IsPl l t i := by
  have key : ∀ n, n < l.length → At l 0 ≤ t → (∃ i, IsPl l t i) ∨ At l n ≤ t := by
    intro n
    induction n with
    | zero => intro _ h0; exact .inr h0
    | succ n ih =>
      intro hn h0
      rcases ih (by omega) h0 with h1 | h1
      · exact .inl h1
      · by_cases h2 : At l (n + 1) ≤ t
        · exact .inr h2
        · exact .inl ⟨n, by omega, h1, fun _ => by omega⟩
  rcases key (l.length - 1) (by have := h.pos; omega) (by rw [h.zero]; exact ht) with h1 | h1
  · exact h1
  · exact ⟨l.length - 1, by have := h.pos; omega, h1, fun hc => by have := h.pos; omega⟩
open Classical in
/-- The step that holds, and what it says. -/
noncomputable def pl (l : List St) (t : Int) : Nat := if h : ∃ i, IsPl l t i then h.choose else 0
noncomputable def val (l : List St) (t : Int) : Int := Vl l (pl l t)
theorem pl_spec {l : List St} (h : Norm l) {t : Int} (ht : 0 ≤ t) : IsPl l t (pl l t) := by
  unfold pl
  rw [dif_pos (IsPl.ex h ht)]
  exact (IsPl.ex h ht).choose_spec
theorem pl_eq {l : List St} (h : Norm l) {t : Int} {i : Nat} (hi : IsPl l t i) : pl l t = i := by
  have h0 : 0 ≤ t := by have := hi.2.1; have := h.ge0 hi.1; omega
  exact IsPl.uniq h (pl_spec h h0) hi
theorem val_eq {l : List St} (h : Norm l) {t : Int} {i : Nat} (hi : IsPl l t i) : val l t = Vl l i := by unfold val; rw [pl_eq h hi]
theorem val_at {l : List St} (h : Norm l) {i : Nat} (hi : i < l.length) : val l (At l i) = Vl l i := val_eq h ⟨hi, Int.le_refl _, fun h1 => (h.rise i h1).1⟩
theorem Right.val_amt {l : List St} (h : Right l) {t : Int} (ht : 0 ≤ t) : amt (val l t) := h.amts _ (pl_spec h.toNorm ht).1
/-- Who says the same at all times is the same. -/
theorem Norm.ext {p q : List St} (hp : Norm p) (hq : Norm q) (h : ∀ t, 0 ≤ t → t ≤ Never → val p t = val q t) : p = q := by
  have one : ∀ (p q : List St), Norm p → Norm q → (∀ t, 0 ≤ t → t ≤ Never → val p t = val q t) → ∀ i, (∀ j, j ≤ i → j < p.length ∧ j < q.length ∧ At p j = At q j ∧ Vl p j = Vl q j) → i + 1 < p.length → i + 1 < q.length ∧ At q (i + 1) ≤ At p (i + 1) := by
    intro p q hp hq h i hi h1
    have h0 := hi i (Nat.le_refl _)
    have ht0 := hp.ge0 h1
    have htn := hp.top _ h1
    have hv := h _ ht0 htn
    rw [val_at hp h1] at hv
    have hne := (hp.rise i h1).2
    by_cases hc : i + 1 < q.length ∧ At q (i + 1) ≤ At p (i + 1)
    · exact hc
    · have : IsPl q (At p (i + 1)) i := ⟨h0.2.1, by have := (hp.rise i h1).1; rw [← h0.2.2.1]; omega, fun h2 => by
        have : ¬ At q (i + 1) ≤ At p (i + 1) := fun h3 => hc ⟨h2, h3⟩
        omega⟩
      rw [val_eq hq this, ← h0.2.2.2] at hv
      exact absurd hv.symm hne
  have key : ∀ i, i < p.length → (∀ j, j ≤ i → j < p.length ∧ j < q.length ∧ At p j = At q j ∧ Vl p j = Vl q j) := by
    intro i
    induction i with
    | zero =>
      intro hi j hj
      have : j = 0 := by omega
      subst this
      refine ⟨hi, hq.pos, by rw [hp.zero, hq.zero], ?_⟩
      have := h 0 (by omega) (by unfold Never; omega)
      have e1 := val_at hp hp.pos
      have e2 := val_at hq hq.pos
      rw [hp.zero] at e1
      rw [hq.zero] at e2
      rw [← e1, ← e2, this]
    | succ i ih =>
      intro hi j hj
      have hI := ih (by omega)
      rcases Nat.lt_or_ge j (i + 1) with h1 | h1
      · exact hI j (by omega)
      · have : j = i + 1 := by omega
        subst this
        have h2 := one p q hp hq h i hI hi
        have h3 := one q p hq hp (fun t a b => (h t a b).symm) i (fun j hj => by have := hI j hj; exact ⟨this.2.1, this.1, this.2.2.1.symm, this.2.2.2.symm⟩) h2.1
        have h4 : At p (i + 1) = At q (i + 1) := by have := h2.2; have := h3.2; omega
        refine ⟨hi, h2.1, h4, ?_⟩
        have h5 := h _ (hp.ge0 hi) (hp.top _ hi)
        rw [val_at hp hi, h4, val_at hq h2.1] at h5
        exact h5
  have hl : p.length = q.length := by
    have h1 : p.length ≤ q.length := by have := (key (p.length - 1) (by have := hp.pos; omega) (p.length - 1) (Nat.le_refl _)).2.1; omega
    rcases Nat.lt_or_ge p.length q.length with h2 | h2
    · have h3 := one q p hq hp (fun t a b => (h t a b).symm) (p.length - 1) (fun j hj => by
        have := key (p.length - 1) (by have := hp.pos; omega) j hj; exact ⟨this.2.1, this.1, this.2.2.1.symm, this.2.2.2.symm⟩) (by have := hp.pos; omega)
      have := h3.1
      have := hp.pos
      omega
    · omega
  apply List.ext_getElem hl
  intro i h1 h2
  have h3 := key i h1 i (Nat.le_refl _)
  have e1 := rdS_nat p i h1
  have e2 := rdS_nat q i h2
  have a1 : (rdS p i).f0 = (rdS q i).f0 := h3.2.2.1
  have a2 : (rdS p i).f1 = (rdS q i).f1 := h3.2.2.2
  rw [← e1, ← e2]
  cases h4 : rdS p i
  cases h5 : rdS q i
  rw [h4, h5] at a1 a2
  simp only at a1 a2
  rw [a1, a2]

/-- out tells g from 0 on till E. -/
structure Built (out : List St) (E : Int) (g : Int → Int) : Prop where
  nil : E ≤ 0 → out = []
  pos : 0 < E → 0 < out.length ∧ At out 0 = 0
  rise : ∀ i, i + 1 < out.length → At out i < At out (i + 1) ∧ Vl out i ≠ Vl out (i + 1)
  top : ∀ i, i < out.length → At out i < E
  tells : ∀ t i, 0 ≤ t → t < E → IsPl out t i → Vl out i = g t
theorem Built.start (g : Int → Int) : Built [] 0 g := ⟨fun _ => rfl, fun h => by omega, fun i h => by simp at h, fun i h => by simp at h, fun t i h0 h1 => by omega⟩
theorem At_app {l m : List St} {i : Nat} (h : i < l.length) : At (l ++ m) i = At l i := by unfold At; rw [rdS_app h]
theorem Vl_app {l m : List St} {i : Nat} (h : i < l.length) : Vl (l ++ m) i = Vl l i := by unfold Vl; rw [rdS_app h]
theorem At_last {l : List St} {s : St} : At (l ++ [s]) l.length = s.f0 := by unfold At; rw [rdS_last]
theorem Vl_last {l : List St} {s : St} : Vl (l ++ [s]) l.length = s.f1 := by unfold Vl; rw [rdS_last]
theorem last_Vl {l : List St} (h : 0 < l.length) : l.getLast?.map (·.f1) = some (Vl l (l.length - 1)) := by
  rw [List.getLast?_eq_getElem?, List.getElem?_eq_getElem (by omega)]
  unfold Vl
  rw [rdS_nat _ _ (by omega)]
  rfl
theorem Built.add {out : List St} {E E' f : Int} {g : Int → Int} (h : Built out E g) (h0 : 0 ≤ E) (h1 : E < E') (hf : ∀ t, E ≤ t → t < E' → g t = f) : Built (addS out E f) E' g := by
  by_cases hz : E = 0
  · subst hz
    have := h.nil (Int.le_refl _)
    subst this
    have e : addS ([] : List St) 0 f = [⟨0, f⟩] := by simp [addS]
    rw [e]
    have ea : At [(⟨0, f⟩ : St)] 0 = 0 := rfl
    have ev : Vl [(⟨0, f⟩ : St)] 0 = f := rfl
    refine ⟨fun h => by omega, fun _ => ⟨by simp, ea⟩, fun i hi => by simp at hi, fun i hi => ?_, fun t i ht0 ht1 hi => ?_⟩
    · have : i = 0 := by simpa using hi
      subst this; rw [ea]; omega
    · have : i = 0 := by simpa using hi.1
      subst this; rw [ev, hf t ht0 ht1]
  · have hp := h.pos (by omega)
    unfold addS
    rw [last_Vl hp.1]
    by_cases hl : Vl out (out.length - 1) = f
    · rw [if_pos (by rw [hl])]
      refine ⟨fun h => by omega, fun _ => hp, h.rise, fun i hi => by have := h.top i hi; omega, fun t i ht0 ht1 hi => ?_⟩
      rcases Int.lt_or_le t E with h2 | h2
      · exact h.tells t i ht0 h2 hi
      · have : i = out.length - 1 := by
          rcases Nat.lt_or_ge (i + 1) out.length with h3 | h3
          · have := hi.2.2 h3; have := h.top _ h3; omega
          · have := hi.1; omega
        rw [this, hl, hf t h2 ht1]
    · rw [if_neg (by simpa using hl)]
      have hlen : (out ++ [(⟨E, f⟩ : St)]).length = out.length + 1 := by simp
      refine ⟨fun h => by omega, fun _ => ⟨by omega, by rw [At_app hp.1]; exact hp.2⟩, fun i hi => ?_, fun i hi => ?_, fun t i ht0 ht1 hi => ?_⟩
      · rw [hlen] at hi
        rcases Nat.lt_or_ge (i + 1) out.length with h3 | h3
        · rw [At_app (by omega), At_app h3, Vl_app (by omega), Vl_app h3]; exact h.rise i h3
        · have : i + 1 = out.length := by omega
          rw [this, At_last, Vl_last, At_app (by omega), Vl_app (by omega)]
          refine ⟨h.top i (by omega), ?_⟩
          have e : i = out.length - 1 := by omega
          rw [e]; exact hl
      · rw [hlen] at hi
        rcases Nat.lt_or_ge i out.length with h3 | h3
        · rw [At_app h3]; have := h.top i h3; omega
        · have : i = out.length := by omega
          rw [this, At_last]; exact h1
      · have hil := hi.1
        rw [hlen] at hil
        rcases Nat.lt_or_ge i out.length with h3 | h3
        · have h4 : t < E := by
            rcases Nat.lt_or_ge (i + 1) out.length with h5 | h5
            · have := hi.2.2 (by omega); rw [At_app h5] at this; have := h.top _ h5; omega
            · have := hi.2.2 (by omega)
              rw [show i + 1 = out.length by omega, At_last] at this
              exact this
          rw [Vl_app h3]
          refine h.tells t i ht0 h4 ⟨h3, by have := hi.2.1; rw [At_app h3] at this; exact this, fun h5 => by have := hi.2.2 (by omega); rw [At_app h5] at this; exact this⟩
        · have : i = out.length := by omega
          subst this
          have := hi.2.1
          rw [At_last] at this
          rw [Vl_last]
          exact (hf t this ht1).symm
theorem Built.norm {out : List St} {g : Int → Int} (h : Built out (Never + 1) g) : Norm out ∧ ∀ t, 0 ≤ t → t ≤ Never → val out t = g t := by
  have hp := h.pos (by unfold Never; omega)
  have hn : Norm out := ⟨hp.1, hp.2, h.rise, fun i hi => by have := h.top i hi; omega⟩
  exact ⟨hn, fun t h0 h1 => h.tells t _ h0 (by omega) (pl_spec hn h0)⟩

/-- So much more in a span. -/
def more (f t n x v : Int) : Int := if f ≤ x ∧ x < t then v + n else v
theorem plusE_eq (l : List St) (i : Nat) : plusE l i = if i + 1 < l.length then At l (i + 1) else Never + 1 := by
  unfold plusE At Never
  by_cases h : i + 1 < l.length
  · rw [if_pos (by omega), if_pos h]; rfl
  · rw [if_neg (by omega), if_neg h]; rfl
theorem plus_built {l : List St} (h : Right l) {f t n : Int} (h0 : 0 ≤ f) (h1 : f < t) (h2 : t ≤ Never) (hn : -1048576 ≤ n ∧ n ≤ 1048576) : ∀ i, i ≤ l.length → Built (plusN l f t n i) (if i < l.length then At l i else Never + 1) (fun x => more f t n x (val l x))
  | 0, _ => by
    rw [if_pos h.pos, h.zero]
    exact Built.start _
  | i + 1, hi => by
    have ih := plus_built h h0 h1 h2 hn i (by omega)
    rw [if_pos (by omega)] at ih
    have hlt : i < l.length := by omega
    have hE := plusE_eq l i
    have hs0 := h.ge0 hlt
    have hsn := h.top i hlt
    have hse : At l i < plusE l i := by
      rw [hE]
      split
      · exact (h.rise i (by assumption)).1
      · omega
    have hen : plusE l i ≤ Never + 1 := by
      rw [hE]
      split
      · have := h.top (i + 1) (by assumption); omega
      · omega
    have hv : ∀ x, At l i ≤ x → x < plusE l i → val l x = Vl l i := fun x a b => val_eq h.toNorm ⟨hlt, a, fun hc => by rw [hE, if_pos hc] at b; exact b⟩
    have ham := h.amts i hlt
    unfold amt at ham
    have hw : wrap64 (Vl l i + n) = Vl l i + n := w64 (by omega) (by omega)
    rw [← hE]
    show Built (plus3 l f t n i (plus2 l f t n i (plus1 l f t n i (plusN l f t n i)))) (plusE l i) _
    generalize hpe : plusE l i = e at hse hen hv ⊢
    have hA : (rd_T45 l (i : Int)).f0 = At l i := rfl
    have hV : (rd_T45 l (i : Int)).f1 = Vl l i := rfl
    generalize hs : At l i = s at ih hse hs0 hsn hv hA
    generalize hvv : Vl l i = v at hv ham hw hV
    have b1 : Built (plus1 l f t n i (plusN l f t n i)) (if s < f then (if e < f then e else f) else s) (fun x => more f t n x (val l x)) := by
      unfold plus1
      rw [hA, hV]
      by_cases c : s < f
      · rw [if_pos c, if_pos c]
        refine ih.add hs0 (by split <;> omega) (fun x a b => ?_)
        have hx : x < e ∧ x < f := by split at b <;> omega
        rw [hv x a hx.1]
        unfold more
        rw [if_neg (by omega)]
      · rw [if_neg c, if_neg c]; exact ih
    generalize plus1 l f t n i (plusN l f t n i) = o1 at b1 ⊢
    have b2 : Built (plus2 l f t n i o1) (if (if s < f then f else s) < (if t < e then t else e) then (if t < e then t else e) else (if s < f then (if e < f then e else f) else s)) (fun x => more f t n x (val l x)) := by
      unfold plus2
      rw [hA, hV, hpe, mx_eq, mn_eq, hw]
      by_cases c : (if s < f then f else s) < (if t < e then t else e)
      · rw [if_pos c, if_pos c]
        have he : (if s < f then (if e < f then e else f) else s) = (if s < f then f else s) := by
          by_cases c1 : s < f
          · rw [if_pos c1, if_pos c1]; rw [if_pos c1] at c; split at c <;> rw [if_neg (by omega)]
          · rw [if_neg c1, if_neg c1]
        rw [he] at b1
        refine b1.add (by split <;> omega) c (fun x a b => ?_)
        have hx : s ≤ x ∧ f ≤ x ∧ x < e ∧ x < t := by split at a <;> split at b <;> omega
        rw [hv x hx.1 hx.2.2.1]
        unfold more
        rw [if_pos ⟨hx.2.1, hx.2.2.2⟩]
      · rw [if_neg c, if_neg c]; exact b1
    generalize plus2 l f t n i o1 = o2 at b2 ⊢
    unfold plus3
    rw [hA, hV, hpe, mx_eq]
    by_cases c : t < e
    · rw [if_pos c]
      have he : (if (if s < f then f else s) < (if t < e then t else e) then (if t < e then t else e) else (if s < f then (if e < f then e else f) else s)) = (if s < t then t else s) := by
        rw [if_pos c]
        by_cases c1 : s < f
        · rw [if_pos c1, if_pos h1, if_pos (by omega)]
        · rw [if_neg c1]
          by_cases c2 : s < t
          · rw [if_pos c2, if_pos c2]
          · rw [if_neg c2, if_neg c2, if_neg c1]
      rw [he] at b2
      refine b2.add (by split <;> omega) (by split <;> omega) (fun x a b => ?_)
      have hx : s ≤ x ∧ t ≤ x := by split at a <;> omega
      rw [hv x hx.1 b]
      unfold more
      rw [if_neg (by omega)]
    · rw [if_neg c]
      have he : (if (if s < f then f else s) < (if t < e then t else e) then (if t < e then t else e) else (if s < f then (if e < f then e else f) else s)) = e := by
        rw [if_neg c]
        by_cases c1 : s < f
        · rw [if_pos c1]
          by_cases c2 : f < e
          · rw [if_pos c2]
          · rw [if_neg c2, if_pos c1]
            by_cases c3 : e < f
            · rw [if_pos c3]
            · rw [if_neg c3]; omega
        · rw [if_neg c1, if_pos hse]
      rw [he] at b2
      exact b2
/-- What plus makes tells what it told, and so much more in the span. -/
theorem plus_norm {l : List St} (h : Right l) {f t n : Int} (h0 : 0 ≤ f) (h1 : f < t) (h2 : t ≤ Never) (hn : -1048576 ≤ n ∧ n ≤ 1048576) : Norm (plusN l f t n l.length) ∧ ∀ x, 0 ≤ x → x ≤ Never → val (plusN l f t n l.length) x = more f t n x (val l x) := by
  have := plus_built h h0 h1 h2 hn l.length (Nat.le_refl _)
  rw [if_neg (by omega)] at this
  exact this.norm
end Go.Proofs.Ytimllhflecippaa.StepP
/- Layer 3, plainly: what the functions of step and of the third reference answer. -/
namespace Go.Proofs.Ytimllhflecippaa.StepQ
open Go.RowKit Go.Proofs.YtimllhflecippaaW.PrintWords Go.Proofs.YtimllhflecippaaW.PrintMore Go.Proofs.Ytimllhflecippaa.F Go.Proofs.Ytimllhflecippaa.Pk Go.Proofs.Ytimllhflecippaa.StepP
set_option linter.unusedSimpArgs false
set_option linter.unusedVariables false

theorem nx (i : Nat) (h : i < 9223372036854775807) : wrap64 ((i : Int) + 1) = ((i + 1 : Nat) : Int) := by rw [w64 (by omega) (by omega)]; rfl
theorem pv (i : Nat) (h : i < 9223372036854775807) (h0 : 0 < i) : wrap64 ((i : Int) - 1) = ((i - 1 : Nat) : Int) := by rw [w64 (by omega) (by omega)]; omega
theorem at_ (l : List St) (i : Nat) : (rdS l (i : Int)).f0 = At l i := Eq.trans rfl rfl
theorem vl_ (l : List St) (i : Nat) : (rdS l (i : Int)).f1 = Vl l i := Eq.trans rfl rfl
theorem wright (a : Int) : when_Right.f a = some (decide (0 ≤ a ∧ a ≤ Never)) := by
  unfold when_Right.f Never
  by_cases h : a ≥ 0
  · rw [if_pos h]; congr 1; exact decide_eq_decide.2 (by omega)
  · rw [if_neg h]; congr 1; exact (decide_eq_false (by omega)).symm
theorem samt (a : Int) : step_amount.f a = some (decide (amt a)) := by
  unfold step_amount.f
  by_cases h : a ≥ 0
  · rw [if_pos h]; congr 1; exact decide_eq_decide.2 (by unfold amt; omega)
  · rw [if_neg h]; congr 1; exact (decide_eq_false (by unfold amt; omega)).symm
/-- One step is right, beside that ahead of it. -/
def good (l : List St) (i : Nat) : Prop := amt (Vl l i) ∧ (0 ≤ At l i ∧ At l i ≤ Never) ∧ (0 < i → At l (i - 1) < At l i ∧ Vl l i ≠ Vl l (i - 1))
theorem right_iff (l : List St) : Right l ↔ 1 ≤ l.length ∧ l.length ≤ 1024 ∧ At l 0 = 0 ∧ ∀ i, 0 ≤ i → i < l.length → good l i := by
  constructor
  · intro h
    refine ⟨h.pos, h.len, h.zero, fun i _ hi => ⟨h.amts i hi, ⟨h.ge0 hi, h.top i hi⟩, fun h0 => ?_⟩⟩
    have := h.rise (i - 1) (by omega)
    rw [show i - 1 + 1 = i by omega] at this
    exact ⟨this.1, this.2.symm⟩
  · rintro ⟨h1, h2, h3, h4⟩
    refine { pos := h1, zero := h3, rise := fun i hi => ?_, top := fun i hi => (h4 i (by omega) hi).2.1.2, len := h2, amts := fun i hi => (h4 i (by omega) hi).1 }
    have := (h4 (i + 1) (by omega) hi).2.2 (by omega)
    exact ⟨this.1, this.2.symm⟩
theorem all_step {P : Nat → Prop} {i n : Nat} (h : i < n) : (∀ j, i ≤ j → j < n → P j) ↔ P i ∧ ∀ j, i + 1 ≤ j → j < n → P j := by
  constructor
  · exact fun a => ⟨a i (by omega) h, fun j h1 h2 => a j (by omega) h2⟩
  · rintro ⟨a, b⟩ j h1 h2
    rcases Nat.lt_or_ge i j with h3 | h3
    · exact b j h3 h2
    · have : j = i := by omega
      rw [this]; exact a
theorem bool_false {b : Bool} {P : Prop} (h : b = true ↔ P) (n : ¬ P) : b = false := by cases b; rfl; exact absurd (h.1 rfl) n
theorem bool_true {b : Bool} {P : Prop} (h : b = true ↔ P) (n : P) : b = true := h.2 n
theorem right_loop (l : List St) (hl : l.length ≤ 1024) : ∀ (d i : Nat) (b : Bool), l.length - i = d → i ≤ l.length → (b = true ↔ ∀ j, i ≤ j → j < l.length → good l j) → Ev (fun k => step_Right.l0 k l l (l.length : Int) (i : Int)) b
  | 0, i, b, hd, hi, hb => by
    rw [bool_true hb (fun j h1 h2 => by omega)]
    refine Ev.step (f := fun _ => some true) (fun k => ?_) (Ev.now _)
    simp only [step_Right.l0]
    rw [if_neg (by omega)]
  | d + 1, i, b, hd, hi, hb => by
    have hlt : i < l.length := by omega
    rw [all_step hlt] at hb
    have q1 : (i : Int) < (l.length : Int) := by omega
    have q2 : (0 : Int) ≤ (i : Int) := by omega
    by_cases c1 : amt (Vl l i)
    · by_cases c2 : 0 ≤ At l i ∧ At l i ≤ Never
      · by_cases c3 : 0 < i
        · have e1 := pv i (by omega) c3
          have q3 : (i : Int) > 0 := by clear e1; omega
          have q4 : (0 : Int) ≤ ((i - 1 : Nat) : Int) := by clear e1; omega
          have q5 : ((i - 1 : Nat) : Int) < (l.length : Int) := by clear e1; omega
          by_cases c4 : At l i ≤ At l (i - 1)
          · rw [bool_false hb (fun hg => by have := (hg.1.2.2 c3).1; omega)]
            refine Ev.step (f := fun _ => some false) (fun k => ?_) (Ev.now _)
            simp only [step_Right.l0, at_, vl_, samt, wright, Option.bind_some, if_pos q1, if_pos q2, c1, c2, decide_true, if_true, if_pos q3, e1, if_pos q4, if_pos q5, if_pos c4, and_self]
          · by_cases c5 : Vl l i = Vl l (i - 1)
            · rw [bool_false hb (fun hg => (hg.1.2.2 c3).2 c5)]
              refine Ev.step (f := fun _ => some false) (fun k => ?_) (Ev.now _)
              simp only [step_Right.l0, at_, vl_, samt, wright, Option.bind_some, if_pos q1, if_pos q2, c1, c2, decide_true, if_true, if_pos q3, e1, if_pos q4, if_pos q5, if_neg c4, if_pos c5, and_self]
            · refine Ev.step (fun k => ?_) (right_loop l hl d (i + 1) b (by omega) (by omega) (hb.trans ⟨fun h => h.2, fun h => ⟨⟨c1, c2, fun _ => ⟨by omega, c5⟩⟩, h⟩⟩))
              simp only [step_Right.l0, at_, vl_, samt, wright, Option.bind_some, if_pos q1, if_pos q2, c1, c2, decide_true, if_true, if_pos q3, e1, if_pos q4, if_pos q5, if_neg c4, if_neg c5, nx i (by omega), and_self]
        · have q3 : ¬ (i : Int) > 0 := by omega
          refine Ev.step (fun k => ?_) (right_loop l hl d (i + 1) b (by omega) (by omega) (hb.trans ⟨fun h => h.2, fun h => ⟨⟨c1, c2, fun h => absurd h c3⟩, h⟩⟩))
          simp only [step_Right.l0, at_, vl_, samt, wright, Option.bind_some, if_pos q1, if_pos q2, c1, c2, decide_true, if_true, if_neg q3, nx i (by omega), and_self]
      · rw [bool_false hb (fun hg => c2 hg.1.2.1)]
        refine Ev.step (f := fun _ => some false) (fun k => ?_) (Ev.now _)
        simp only [step_Right.l0, at_, vl_, samt, wright, Option.bind_some, if_pos q1, if_pos q2, c1, c2, decide_true, decide_false, if_true, Bool.false_eq_true, if_false]
    · rw [bool_false hb (fun hg => c1 hg.1.1)]
      refine Ev.step (f := fun _ => some false) (fun k => ?_) (Ev.now _)
      simp only [step_Right.l0, at_, vl_, samt, wright, Option.bind_some, if_pos q1, if_pos q2, c1, decide_false, if_true, Bool.false_eq_true, if_false]
theorem right_ev (l : List St) (b : Bool) (hb : b = true ↔ Right l) : Ev (fun k => step_Right.f k l) b := by
  have no : ¬ Right l → Ev (fun k => step_Right.j0 k l true) b := by
    intro h
    rw [bool_false hb h]
    exact Ev.step (f := fun _ => some false) (fun k => by simp only [step_Right.j0, if_true]) (Ev.now _)
  rw [right_iff] at no
  by_cases c1 : (l.length : Int) < 1
  · refine Ev.congr (fun k => ?_) (no (fun h => by have := h.1; omega))
    simp only [step_Right.f, if_pos c1]
  by_cases c2 : (l.length : Int) > 1024
  · refine Ev.congr (fun k => ?_) (no (fun h => by have := h.2.1; omega))
    simp only [step_Right.f, if_neg c1, if_pos c2]
  have q : (0 : Int) < (l.length : Int) := by omega
  have a0 : (rdS l 0).f0 = At l 0 := rfl
  by_cases c3 : At l 0 = 0
  · refine Ev.congr (f := fun k => step_Right.j0 k l false) (fun k => ?_) ?_
    · simp only [step_Right.f, if_neg c1, if_neg c2, if_pos q, a0, c3]; rfl
    · refine Ev.step (fun k => ?_) (right_loop l (by omega) l.length 0 b (by omega) (by omega) (hb.trans ((right_iff l).trans ⟨fun h => h.2.2.2, fun h => ⟨by omega, by omega, c3, h⟩⟩)))
      simp only [step_Right.j0, Bool.false_eq_true, if_false]; rfl
  · refine Ev.congr (fun k => ?_) (no (fun h => c3 h.2.2.1))
    simp only [step_Right.f, if_neg c1, if_neg c2, if_pos q, a0, bne, beq_false_of_ne c3]; rfl
theorem right_yes {l : List St} (h : Right l) : Ev (fun k => step_Right.f k l) true := right_ev l true ⟨fun _ => h, fun _ => rfl⟩
theorem right_no {l : List St} (h : ¬ Right l) : Ev (fun k => step_Right.f k l) false := right_ev l false ⟨fun h' => Bool.noConfusion h', fun h' => absurd h' h⟩

def May (l : List St) (f t : Int) : Prop := Right l ∧ 0 ≤ f ∧ f < t ∧ t ≤ Never
theorem may_yes {l : List St} {f t : Int} (h : May l f t) : Ev (fun k => step_may.f k l f t) true := by
  obtain ⟨h0, h1, h2, h3⟩ := h
  refine Ev.bind (right_yes h0) ?_
  simp only [if_true, wright, Option.bind_some, decide_eq_true (show 0 ≤ f ∧ f ≤ Never by omega), decide_eq_true (show 0 ≤ t ∧ t ≤ Never by omega), decide_eq_true h2]
  exact Ev.now _
theorem may_no {l : List St} {f t : Int} (h : ¬ May l f t) : Ev (fun k => step_may.f k l f t) false := by
  by_cases c0 : Right l
  · refine Ev.bind (right_yes c0) ?_
    simp only [if_true, wright, Option.bind_some]
    by_cases c1 : 0 ≤ f ∧ f ≤ Never
    · by_cases c2 : 0 ≤ t ∧ t ≤ Never
      · have c3 : ¬ f < t := fun c => h ⟨c0, c1.1, c, c2.2⟩
        simp only [decide_eq_true c1, decide_eq_true c2, if_true, decide_eq_false c3]
        exact Ev.now _
      · simp only [decide_eq_true c1, decide_eq_false c2, if_true, Bool.false_eq_true, if_false]
        exact Ev.now _
    · simp only [decide_eq_false c1, Bool.false_eq_true, if_false]
      exact Ev.now _
  · refine Ev.bind (right_no c0) ?_
    simp only [Bool.false_eq_true, if_false]
    exact Ev.now _

theorem half (i j : Nat) (h : i + j < 9223372036854775807) : wrap64 ((IntKind.u64.wrap (wrap64 ((i : Int) + (j : Int)))) / 2) = (((i + j) / 2 : Nat) : Int) := by
  rw [w64 (n := (i : Int) + j) (by omega) (by omega), IntKind.wrap_u64]
  rw [w64 (by omega) (by omega)]
  omega
theorem search_loop {l : List St} (h : Right l) (t : Int) : ∀ (d i j : Nat), j - i ≤ d → i ≤ j → j ≤ l.length → (∀ x, x < i → At l x < t) → (∀ x, j ≤ x → x < l.length → t ≤ At l x) →
    ∃ p : Nat, (p ≤ l.length ∧ (∀ x, x < p → At l x < t) ∧ (∀ x, p ≤ x → x < l.length → t ≤ At l x)) ∧ Ev (fun k => slices_BinarySearchFunc_api_Step_api_Step_int64__at_step_place_1.l0 k l t (l.length : Int) (i : Int) (j : Int)) ((p : Int), decide (p < l.length ∧ At l p = t)) := by
  intro d
  induction d with
  | zero =>
    intro i j hd hij hj h1 h2
    have : j = i := by omega
    subst this
    refine ⟨j, ⟨hj, h1, h2⟩, ?_⟩
    have q : ¬ (j : Int) < (j : Int) := by omega
    by_cases c : j < l.length
    · have q1 : (j : Int) < (l.length : Int) := by omega
      have q2 : (0 : Int) ≤ (j : Int) := by omega
      have hge := h2 j (by omega) c
      have n1 : ¬ At l j < t := by omega
      by_cases c1 : At l j > t
      · refine Ev.step (f := fun _ => some ((j : Int), false)) (fun k => ?_) ?_
        · simp only [slices_BinarySearchFunc_api_Step_api_Step_int64__at_step_place_1.l0, if_neg q, if_pos q1, if_pos q2, step_place_1.f, at_, if_neg n1, if_pos c1, Option.bind_some]
          rfl
        · rw [decide_eq_false (show ¬ (j < l.length ∧ At l j = t) by omega)]
          exact Ev.now _
      · refine Ev.step (f := fun _ => some ((j : Int), true)) (fun k => ?_) ?_
        · simp only [slices_BinarySearchFunc_api_Step_api_Step_int64__at_step_place_1.l0, if_neg q, if_pos q1, if_pos q2, step_place_1.f, at_, if_neg n1, if_neg c1, Option.bind_some]
          rfl
        · rw [decide_eq_true (show (j < l.length ∧ At l j = t) by omega)]
          exact Ev.now _
    · have q1 : ¬ (j : Int) < (l.length : Int) := by omega
      refine Ev.step (f := fun _ => some ((j : Int), false)) (fun k => ?_) ?_
      · simp only [slices_BinarySearchFunc_api_Step_api_Step_int64__at_step_place_1.l0, if_neg q, if_neg q1]
      · rw [decide_eq_false (show ¬ (j < l.length ∧ At l j = t) by omega)]
        exact Ev.now _
  | succ d ih =>
    intro i j hd hij hj h1 h2
    by_cases hlt : i < j
    · have hlen := h.len
      have e := half i j (by omega)
      have q : (i : Int) < (j : Int) := by omega
      have hm : i ≤ (i + j) / 2 ∧ (i + j) / 2 < j := by omega
      generalize (i + j) / 2 = m at e hm
      have q1 : (0 : Int) ≤ (m : Int) := by omega
      have q2 : (m : Int) < (l.length : Int) := by omega
      by_cases c : At l m < t
      · obtain ⟨p, hp, hev⟩ := ih (m + 1) j (by omega) (by omega) hj (fun x hx => by
          have := h.le (i := x) (j := m) (by omega) (by omega)
          omega) h2
        refine ⟨p, hp, Ev.step (fun k => ?_) hev⟩
        simp only [slices_BinarySearchFunc_api_Step_api_Step_int64__at_step_place_1.l0, if_pos q, e, if_pos q1, if_pos q2, step_place_1.f, at_, if_pos c, Option.bind_some, nx m (by omega)]
        rfl
      · obtain ⟨p, hp, hev⟩ := ih i m (by omega) (by omega) (by omega) h1 (fun x hx hx2 => by
          have := h.le (i := m) (j := x) (by omega) (by omega)
          omega)
        refine ⟨p, hp, Ev.step (fun k => ?_) hev⟩
        by_cases c1 : At l m > t
        · simp only [slices_BinarySearchFunc_api_Step_api_Step_int64__at_step_place_1.l0, if_pos q, e, if_pos q1, if_pos q2, step_place_1.f, at_, if_neg c, if_pos c1, Option.bind_some]
          rfl
        · simp only [slices_BinarySearchFunc_api_Step_api_Step_int64__at_step_place_1.l0, if_pos q, e, if_pos q1, if_pos q2, step_place_1.f, at_, if_neg c, if_neg c1, Option.bind_some]
          rfl
    · exact ih i j (by omega) hij hj h1 h2
theorem place_ev {l : List St} (h : Right l) {t : Int} (ht : 0 ≤ t) : Ev (fun k => step_place.f k l t) ((pl l t : Nat) : Int) := by
  obtain ⟨p, ⟨h1, h2, h3⟩, hev⟩ := search_loop h t l.length 0 l.length (by omega) (by omega) (by omega) (fun x hx => by omega) (fun x hx hx2 => by omega)
  refine Ev.bind hev ?_
  by_cases c : p < l.length ∧ At l p = t
  · simp only [decide_eq_true c, if_true]
    rw [pl_eq h.toNorm (i := p) ⟨c.1, by omega, fun hn => by have := (h.rise p hn).1; omega⟩]
    exact Ev.now _
  · simp only [decide_eq_false c, Bool.false_eq_true, if_false]
    have hp : 0 < p := by
      rcases Nat.eq_zero_or_pos p with h0 | h0
      · subst h0
        have := h3 0 (by omega) h.pos
        rw [h.zero] at this
        exact absurd ⟨h.pos, by rw [h.zero]; omega⟩ c
      · exact h0
    rw [pv p (by have := h.len; omega) hp]
    have h4 := h2 (p - 1) (by omega)
    rw [pl_eq h.toNorm (i := p - 1) ⟨by omega, by omega, fun hn => by
      rw [show p - 1 + 1 = p by omega] at hn ⊢
      have := h3 p (by omega) hn
      have : At l p ≠ t := fun he => c ⟨hn, he⟩
      omega⟩]
    exact Ev.now _

theorem at_ev {l : List St} (h : Right l) {t : Int} (h0 : 0 ≤ t) (h1 : t ≤ Never) : Ev (fun k => step_At.f k l t) (val l t) := by
  refine Ev.bind (right_yes h) ?_
  simp only [if_true, wright, Option.bind_some, decide_eq_true (show 0 ≤ t ∧ t ≤ Never from ⟨h0, h1⟩)]
  refine Ev.bind (place_ev h h0) ?_
  have := (pl_spec h.toNorm h0).1
  simp only [if_pos (show (0 : Int) ≤ ((pl l t : Nat) : Int) by omega), if_pos (show ((pl l t : Nat) : Int) < (l.length : Int) by omega)]
  exact Ev.now _
theorem at_no {l : List St} {t : Int} (h : ¬ (Right l ∧ 0 ≤ t ∧ t ≤ Never)) : Ev (fun k => step_At.f k l t) 0 := by
  by_cases c : Right l
  · refine Ev.bind (right_yes c) ?_
    simp only [if_true, wright, Option.bind_some, decide_eq_false (show ¬ (0 ≤ t ∧ t ≤ Never) from fun h' => h ⟨c, h'⟩), Bool.false_eq_true, if_false]
    exact Ev.now _
  · refine Ev.bind (right_no c) ?_
    simp only [Bool.false_eq_true, if_false]
    exact Ev.now _
/-- The least amount in a span. -/
def IsLeast (l : List St) (f t m : Int) : Prop := ∀ n, n ≤ m ↔ (n ≤ 1048576 ∧ ∀ x, f ≤ x → x < t → n ≤ val l x)
theorem IsLeast.uniq {l : List St} {f t m m' : Int} (h : IsLeast l f t m) (h' : IsLeast l f t m') : m = m' := by
  have a := (h' m).2 ((h m).1 (Int.le_refl _))
  have b := (h m').2 ((h' m').1 (Int.le_refl _))
  omega
/-- What holds at all times of a span holds in its steps. -/
theorem span_iff {l : List St} (h : Norm l) {f t : Int} (h0 : 0 ≤ f) (h1 : f < t) (P : Int → Prop) : (∀ x, f ≤ x → x < t → P (val l x)) ↔ ∀ j, pl l f ≤ j → j < l.length → At l j < t → P (Vl l j) := by
  have hp := pl_spec h h0
  constructor
  · intro a j h2 h3 h4
    rcases Nat.lt_or_ge (pl l f) j with h5 | h5
    · have h6 := hp.2.2 (by omega)
      have h7 := h.le (i := pl l f + 1) (j := j) h5 h3
      have := a (At l j) (by omega) h4
      rwa [val_at h h3] at this
    · have : j = pl l f := by omega
      subst this
      exact a f (Int.le_refl _) h1
  · intro a x h2 h3
    have hx := pl_spec h (t := x) (by omega)
    refine a (pl l x) ?_ hx.1 (by have := hx.2.1; omega)
    rcases Nat.lt_or_ge (pl l x) (pl l f) with h5 | h5
    · have h6 := hx.2.2 (by have := hp.1; omega)
      have h7 := h.le (i := pl l x + 1) (j := pl l f) h5 hp.1
      have := hp.2.1
      omega
    · exact h5
theorem least_loop {l : List St} (h : Right l) (t : Int) : ∀ (d i : Nat) (a : Int), l.length - i = d → i ≤ l.length → ∃ m, Ev (fun k => step_least.l0 k l t a (i : Int)) m ∧ ∀ n, n ≤ m ↔ (n ≤ a ∧ ∀ j, i ≤ j → j < l.length → At l j < t → n ≤ Vl l j)
  | 0, i, a, hd, hi => by
    refine ⟨a, Ev.step (f := fun _ => some a) (fun k => ?_) (Ev.now _), fun n => ⟨fun hn => ⟨hn, fun j h1 h2 => by omega⟩, fun hn => hn.1⟩⟩
    simp only [step_least.l0]
    rw [if_neg (by omega)]
  | d + 1, i, a, hd, hi => by
    have hlt : i < l.length := by omega
    have q1 : (i : Int) < (l.length : Int) := by omega
    have q2 : (0 : Int) ≤ (i : Int) := by omega
    by_cases c : At l i < t
    · obtain ⟨m, hev, hm⟩ := least_loop h t d (i + 1) (mn a (Vl l i)) (by omega) (by omega)
      refine ⟨m, Ev.step (fun k => ?_) hev, fun n => ?_⟩
      · simp only [step_least.l0, if_pos q1, if_pos q2, at_, vl_, if_pos c, nx i (by have := h.len; omega)]
      · rw [hm n, all_step hlt, mn_eq]
        constructor
        · rintro ⟨x, y⟩
          exact ⟨by split at x <;> omega, fun _ => by split at x <;> omega, y⟩
        · rintro ⟨x, y, z⟩
          exact ⟨by have := y c; split <;> omega, z⟩
    · refine ⟨a, Ev.step (f := fun _ => some a) (fun k => ?_) (Ev.now _), fun n => ⟨fun hn => ⟨hn, fun j h1 h2 h3 => ?_⟩, fun hn => hn.1⟩⟩
      · simp only [step_least.l0, if_pos q1, if_pos q2, at_, vl_, if_neg c]
      · have := h.le (i := i) (j := j) h1 h2
        omega
theorem least_ev {l : List St} (h : Right l) {f t : Int} (h0 : 0 ≤ f) (h1 : f < t) : ∃ m, Ev (fun k => step_least.f k l f t) m ∧ IsLeast l f t m := by
  obtain ⟨m, hev, hm⟩ := least_loop h t (l.length - pl l f) (pl l f) 1048576 rfl (by have := (pl_spec h.toNorm h0).1; omega)
  refine ⟨m, Ev.bind (place_ev h h0) hev, fun n => ?_⟩
  rw [hm n, span_iff h.toNorm h0 h1 (fun v => n ≤ v)]
def nr (t : Int) : Int := if t < 0 then 0 else if Never < t then Never else t
end Go.Proofs.Ytimllhflecippaa.StepQ
end

section
namespace Go.Proofs.Ytimllhflecippaa.StepR
open Go.RowKit Go.Proofs.YtimllhflecippaaW.PrintWords Go.Proofs.YtimllhflecippaaW.PrintMore Go.Proofs.Ytimllhflecippaa.F Go.Proofs.Ytimllhflecippaa.Pk Go.Proofs.Ytimllhflecippaa.StepP Go.Proofs.Ytimllhflecippaa.StepQ
set_option linter.unusedSimpArgs false
set_option linter.unusedVariables false

theorem rright_loop (l : List St) (hl : l.length ≤ 1024) : ∀ (d i : Nat) (b : Bool), l.length - i = d → i ≤ l.length → (b = true ↔ ∀ j, i ≤ j → j < l.length → good l j) → Ev (fun k => bailiwickref03_Right.l0 k l (i : Int)) b
  | 0, i, b, hd, hi, hb => by
    rw [bool_true hb (fun j h1 h2 => by omega)]
    refine Ev.step (f := fun _ => some true) (fun k => ?_) (Ev.now _)
    simp only [bailiwickref03_Right.l0]
    rw [if_neg (by omega)]
  | d + 1, i, b, hd, hi, hb => by
    have hlt : i < l.length := by omega
    rw [all_step hlt] at hb
    have q1 : (i : Int) < (l.length : Int) := by omega
    have q2 : (0 : Int) ≤ (i : Int) := by omega
    have no : ¬ good l i → Ev (fun k => bailiwickref03_Right.j2 k l (i : Int) true) b := by
      intro h
      rw [bool_false hb (fun h' => h h'.1)]
      exact Ev.step (f := fun _ => some false) (fun k => by simp only [bailiwickref03_Right.j2, if_true]) (Ev.now _)
    by_cases a1 : Vl l i < 0
    · refine Ev.step (fun k => ?_) (no (fun h => by have := h.1.1; omega))
      simp only [bailiwickref03_Right.l0, at_, vl_, if_pos q1, if_pos q2, if_pos a1]
    by_cases a2 : Vl l i > 1048576
    · refine Ev.step (fun k => ?_) (no (fun h => by have := h.1.2; omega))
      simp only [bailiwickref03_Right.l0, at_, vl_, if_pos q1, if_pos q2, if_neg a1, if_pos a2]
    by_cases a3 : At l i < 0
    · refine Ev.step (fun k => ?_) (no (fun h => by have := h.2.1.1; omega))
      simp only [bailiwickref03_Right.l0, at_, vl_, if_pos q1, if_pos q2, if_neg a1, if_neg a2, if_pos a3]
    by_cases a4 : At l i > 4611686018427387904
    · refine Ev.step (fun k => ?_) (no (fun h => by have := h.2.1.2; unfold Never at this; omega))
      simp only [bailiwickref03_Right.l0, at_, vl_, if_pos q1, if_pos q2, if_neg a1, if_neg a2, if_neg a3, decide_eq_true a4]
    refine Ev.step (f := fun k => bailiwickref03_Right.j2 k l (i : Int) false) (fun k => ?_) ?_
    · simp only [bailiwickref03_Right.l0, at_, vl_, if_pos q1, if_pos q2, if_neg a1, if_neg a2, if_neg a3, decide_eq_false a4]
    by_cases c3 : 0 < i
    · have e1 := pv i (by omega) c3
      have q3 : (i : Int) > 0 := by clear e1; omega
      have q4 : (0 : Int) ≤ ((i - 1 : Nat) : Int) := by clear e1; omega
      have q5 : ((i - 1 : Nat) : Int) < (l.length : Int) := by clear e1; omega
      by_cases c4 : At l i ≤ At l (i - 1)
      · rw [bool_false hb (fun hg => by have := (hg.1.2.2 c3).1; omega)]
        refine Ev.step (f := fun _ => some false) (fun k => ?_) (Ev.now _)
        simp only [bailiwickref03_Right.j2, Bool.false_eq_true, if_false, at_, vl_, if_pos q1, if_pos q2, if_pos q3, e1, if_pos q4, if_pos q5, if_pos c4]
      · by_cases c5 : Vl l i = Vl l (i - 1)
        · rw [bool_false hb (fun hg => (hg.1.2.2 c3).2 c5)]
          refine Ev.step (f := fun _ => some false) (fun k => ?_) (Ev.now _)
          simp only [bailiwickref03_Right.j2, Bool.false_eq_true, if_false, at_, vl_, if_pos q1, if_pos q2, if_pos q3, e1, if_pos q4, if_pos q5, if_neg c4, if_pos c5]
        · refine Ev.step (fun k => ?_) (rright_loop l hl d (i + 1) b (by omega) (by omega) (hb.trans ⟨fun h => h.2, fun h => ⟨⟨⟨by omega, by omega⟩, ⟨by omega, by unfold Never; omega⟩, fun _ => ⟨by omega, c5⟩⟩, h⟩⟩))
          simp only [bailiwickref03_Right.j2, Bool.false_eq_true, if_false, at_, vl_, if_pos q1, if_pos q2, if_pos q3, e1, if_pos q4, if_pos q5, if_neg c4, if_neg c5, nx i (by omega)]
    · have q3 : ¬ (i : Int) > 0 := by omega
      refine Ev.step (fun k => ?_) (rright_loop l hl d (i + 1) b (by omega) (by omega) (hb.trans ⟨fun h => h.2, fun h => ⟨⟨⟨by omega, by omega⟩, ⟨by omega, by unfold Never; omega⟩, fun h => absurd h c3⟩, h⟩⟩))
      simp only [bailiwickref03_Right.j2, Bool.false_eq_true, if_false, if_neg q3, nx i (by omega)]
theorem rright_ev (l : List St) (b : Bool) (hb : b = true ↔ Right l) : Ev (fun k => bailiwickref03_Right.f k l) b := by
  have no : ¬ Right l → ∀ c, c = true → Ev (fun k => bailiwickref03_Right.j0 k l c) b := by
    rintro h _ rfl
    rw [bool_false hb h]
    exact Ev.step (f := fun _ => some false) (fun k => by simp only [bailiwickref03_Right.j0, if_true]) (Ev.now _)
  rw [right_iff] at no
  by_cases c1 : (l.length : Int) = 0
  · refine Ev.congr (fun k => ?_) (no (fun h => by have := h.1; omega) _ rfl)
    simp only [bailiwickref03_Right.f, if_pos c1]
  by_cases c2 : (l.length : Int) > 1024
  · refine Ev.congr (fun k => ?_) (no (fun h => by have := h.2.1; omega) _ rfl)
    simp only [bailiwickref03_Right.f, if_neg c1, if_pos c2]
  have q : (0 : Int) < (l.length : Int) := by omega
  have a0 : (rdS l 0).f0 = At l 0 := rfl
  by_cases c3 : At l 0 = 0
  · refine Ev.congr (f := fun k => bailiwickref03_Right.j0 k l false) (fun k => ?_) ?_
    · simp only [bailiwickref03_Right.f, if_neg c1, if_neg c2, if_pos q, a0, c3]; rfl
    · refine Ev.step (fun k => ?_) (rright_loop l (by omega) l.length 0 b (by omega) (by omega) (hb.trans ((right_iff l).trans ⟨fun h => h.2.2.2, fun h => ⟨by omega, by omega, c3, h⟩⟩)))
      simp only [bailiwickref03_Right.j0, Bool.false_eq_true, if_false]; rfl
  · refine Ev.congr (fun k => ?_) (no (fun h => c3 h.2.2.1) _ rfl)
    simp only [bailiwickref03_Right.f, if_neg c1, if_neg c2, if_pos q, a0, bne, beq_false_of_ne c3]; rfl
theorem rright_yes {l : List St} (h : Right l) : Ev (fun k => bailiwickref03_Right.f k l) true := rright_ev l true ⟨fun _ => h, fun _ => rfl⟩
theorem rright_no {l : List St} (h : ¬ Right l) : Ev (fun k => bailiwickref03_Right.f k l) false := rright_ev l false ⟨fun h' => Bool.noConfusion h', fun h' => absurd h' h⟩
theorem rat_loop {l : List St} (h : Right l) {t : Int} (ht : 0 ≤ t) : ∀ (d i : Nat) (a : Int), l.length - i = d → i ≤ l.length → (pl l t < i → a = val l t) → Ev (fun k => bailiwickref03_at.l0 k l t a (i : Int)) (val l t)
  | 0, i, a, hd, hi, ha => by
    rw [← ha (by have := (pl_spec h.toNorm ht).1; omega)]
    refine Ev.step (f := fun _ => some a) (fun k => ?_) (Ev.now _)
    simp only [bailiwickref03_at.l0]
    rw [if_neg (by omega)]
  | d + 1, i, a, hd, hi, ha => by
    have hlt : i < l.length := by omega
    have q1 : (i : Int) < (l.length : Int) := by omega
    have q2 : (0 : Int) ≤ (i : Int) := by omega
    have hp := pl_spec h.toNorm ht
    by_cases c : At l i ≤ t
    · refine Ev.step (fun k => ?_) (rat_loop h ht d (i + 1) (Vl l i) (by omega) (by omega) (fun hl => ?_))
      · simp only [bailiwickref03_at.l0, if_pos q1, if_pos q2, at_, vl_, if_pos c, nx i (by have := h.len; omega)]
      · rcases Nat.lt_or_ge (pl l t) i with c1 | c1
        · have h1 := hp.2.2 (by omega)
          have := h.toNorm.le (i := pl l t + 1) (j := i) (by omega) hlt
          omega
        · have : pl l t = i := by omega
          unfold val; rw [this]
    · refine Ev.step (fun k => ?_) (rat_loop h ht d (i + 1) a (by omega) (by omega) (fun hl => ?_))
      · simp only [bailiwickref03_at.l0, if_pos q1, if_pos q2, at_, vl_, if_neg c, nx i (by have := h.len; omega)]
      · rcases Nat.lt_or_ge (pl l t) i with c1 | c1
        · exact ha c1
        · have : pl l t = i := by omega
          rw [this] at hp
          exact absurd hp.2.1 c
theorem rat_ev {l : List St} (h : Right l) {t : Int} (ht : 0 ≤ t) : Ev (fun k => bailiwickref03_at.f k l t) (val l t) := rat_loop h ht l.length 0 0 (by omega) (by omega) (fun h => by omega)
theorem rleast_loop {l : List St} (h : Right l) (f t : Int) : ∀ (d i : Nat) (a : Int), l.length - i = d → i ≤ l.length → ∃ m, Ev (fun k => bailiwickref03_Least.l0 k l f t a (i : Int)) m ∧ ∀ n, n ≤ m ↔ (n ≤ a ∧ ∀ j, i ≤ j → j < l.length → f < At l j → At l j < t → n ≤ Vl l j)
  | 0, i, a, hd, hi => by
    refine ⟨a, Ev.step (f := fun _ => some a) (fun k => ?_) (Ev.now _), fun n => ⟨fun hn => ⟨hn, fun j h1 h2 => by omega⟩, fun hn => hn.1⟩⟩
    simp only [bailiwickref03_Least.l0]
    rw [if_neg (by omega)]
  | d + 1, i, a, hd, hi => by
    have hlt : i < l.length := by omega
    have q1 : (i : Int) < (l.length : Int) := by omega
    have q2 : (0 : Int) ≤ (i : Int) := by omega
    by_cases c : At l i > f
    · by_cases c1 : At l i < t
      · by_cases c2 : Vl l i < a
        · obtain ⟨m, hev, hm⟩ := rleast_loop h f t d (i + 1) (Vl l i) (by omega) (by omega)
          refine ⟨m, Ev.step (fun k => ?_) hev, fun n => ?_⟩
          · simp only [bailiwickref03_Least.l0, if_pos q1, if_pos q2, at_, vl_, if_pos c, if_pos c1, if_pos c2, nx i (by have := h.len; omega)]
          · rw [hm n, all_step hlt]
            exact ⟨fun ⟨x, y⟩ => ⟨by omega, fun _ _ => x, y⟩, fun ⟨x, y, z⟩ => ⟨y c c1, z⟩⟩
        · obtain ⟨m, hev, hm⟩ := rleast_loop h f t d (i + 1) a (by omega) (by omega)
          refine ⟨m, Ev.step (fun k => ?_) hev, fun n => ?_⟩
          · simp only [bailiwickref03_Least.l0, if_pos q1, if_pos q2, at_, vl_, if_pos c, if_pos c1, if_neg c2, nx i (by have := h.len; omega)]
          · rw [hm n, all_step hlt]
            exact ⟨fun ⟨x, y⟩ => ⟨x, fun _ _ => by omega, y⟩, fun ⟨x, y, z⟩ => ⟨x, z⟩⟩
      · obtain ⟨m, hev, hm⟩ := rleast_loop h f t d (i + 1) a (by omega) (by omega)
        refine ⟨m, Ev.step (fun k => ?_) hev, fun n => ?_⟩
        · simp only [bailiwickref03_Least.l0, if_pos q1, if_pos q2, at_, vl_, if_pos c, if_neg c1, nx i (by have := h.len; omega)]
        · rw [hm n, all_step hlt]
          exact ⟨fun ⟨x, y⟩ => ⟨x, fun _ h' => absurd h' c1, y⟩, fun ⟨x, y, z⟩ => ⟨x, z⟩⟩
    · obtain ⟨m, hev, hm⟩ := rleast_loop h f t d (i + 1) a (by omega) (by omega)
      refine ⟨m, Ev.step (fun k => ?_) hev, fun n => ?_⟩
      · simp only [bailiwickref03_Least.l0, if_pos q1, if_pos q2, at_, vl_, if_neg c, nx i (by have := h.len; omega)]
      · rw [hm n, all_step hlt]
        exact ⟨fun ⟨x, y⟩ => ⟨x, fun h' => absurd h' c, y⟩, fun ⟨x, y, z⟩ => ⟨x, z⟩⟩
/-- The span's steps: that which holds at its begin, and those that begin in it. -/
theorem span_iff2 {l : List St} (h : Norm l) {f t : Int} (h0 : 0 ≤ f) (h1 : f < t) (P : Int → Prop) : (∀ x, f ≤ x → x < t → P (val l x)) ↔ P (val l f) ∧ ∀ j, 0 ≤ j → j < l.length → f < At l j → At l j < t → P (Vl l j) := by
  have hp := pl_spec h h0
  constructor
  · intro a
    refine ⟨a f (Int.le_refl _) h1, fun j _ h3 h4 h5 => ?_⟩
    have := a (At l j) (by omega) h5
    rwa [val_at h h3] at this
  · rintro ⟨a, b⟩ x h2 h3
    have hx := pl_spec h (t := x) (by omega)
    by_cases c : f < At l (pl l x)
    · exact b _ (by omega) hx.1 c (by have := hx.2.1; omega)
    · have : IsPl l f (pl l x) := ⟨hx.1, by omega, fun hn => by have := hx.2.2 hn; omega⟩
      rw [← pl_eq h this] at hx
      unfold val at a ⊢
      rwa [pl_eq h this] at a
theorem rleast_ev {l : List St} (h : Right l) {f t : Int} (h0 : 0 ≤ f) (h1 : f < t) : ∃ m, Ev (fun k => bailiwickref03_Least.f k l f t) m ∧ IsLeast l f t m := by
  obtain ⟨m, hev, hm⟩ := rleast_loop h f t l.length 0 (val l f) (by omega) (by omega)
  refine ⟨m, Ev.bind (rat_ev h h0) hev, fun n => ?_⟩
  rw [hm n, span_iff2 h.toNorm h0 h1 (fun v => n ≤ v)]
  have := (h.val_amt h0).2
  exact ⟨fun a => ⟨by have := a.1; omega, a⟩, fun a => a.2⟩

end Go.Proofs.Ytimllhflecippaa.StepR
end

section
namespace Go.Proofs.Ytimllhflecippaa.StepT
open Go.RowKit Go.Proofs.YtimllhflecippaaW.PrintWords Go.Proofs.YtimllhflecippaaW.PrintMore Go.Proofs.Ytimllhflecippaa.F Go.Proofs.Ytimllhflecippaa.Pk Go.Proofs.Ytimllhflecippaa.StepP Go.Proofs.Ytimllhflecippaa.StepQ
set_option linter.unusedSimpArgs false
set_option linter.unusedVariables false

theorem same_loop (l : List St) (hl : l.length ≤ 8796093022208) : ∀ (d i : Nat), l.length - i = d → i ≤ l.length → Ev (fun k => bailiwickref03_Same.l0 k l l (i : Int)) true
  | 0, i, hd, hi => by
    refine Ev.step (f := fun _ => some true) (fun k => ?_) (Ev.now _)
    simp only [bailiwickref03_Same.l0]
    rw [if_neg (by omega)]
  | d + 1, i, hd, hi => by
    refine Ev.step (fun k => ?_) (same_loop l hl d (i + 1) (by omega) (by omega))
    have q1 : (i : Int) < (l.length : Int) := by omega
    have q2 : (0 : Int) ≤ (i : Int) := by omega
    simp only [bailiwickref03_Same.l0, if_pos q1, if_pos q2, beq_self_eq_true, Bool.not_true, Bool.or_false, Bool.false_eq_true, if_false, nx i (by omega)]
theorem same_ev (l : List St) (hl : l.length ≤ 8796093022208) : Ev (fun k => bailiwickref03_Same.f k l l) true := by
  have := same_loop l hl l.length 0 (by omega) (by omega)
  refine Ev.congr (fun k => ?_) this
  simp only [bailiwickref03_Same.f, if_true]; rfl

theorem addS_len (o : List St) (a b : Int) : (addS o a b).length ≤ o.length + 1 := by unfold addS; split <;> simp
/-- Where the i-th step begins; behind the last one: behind all times. -/
def beg (l : List St) (i : Nat) : Int := if i < l.length then At l i else Never + 1
theorem plusN_len2 {l : List St} (h : Norm l) {f t n : Int} (h0 : 0 ≤ f) (h1 : f < t) : ∀ i, i ≤ l.length → (plusN l f t n i).length ≤ i + (if f < beg l i then 1 else 0) + (if t < beg l i then 1 else 0)
  | 0, _ => by simp [plusN]
  | i + 1, hi => by
    have ih := plusN_len2 h h0 h1 (n := n) i (by omega)
    have hE := plusE_eq l i
    have e1 : beg l i = At l i := by unfold beg; rw [if_pos (by omega)]
    have e2 : beg l (i + 1) = plusE l i := by unfold beg; rw [hE]
    have hse : At l i < plusE l i := by
      rw [hE]
      split
      · exact (h.rise i (by assumption)).1
      · have := h.top i (by omega); omega
    rw [e2]
    rw [e1] at ih
    show (plus3 l f t n i (plus2 l f t n i (plus1 l f t n i (plusN l f t n i)))).length ≤ _
    have a1 : (plus1 l f t n i (plusN l f t n i)).length ≤ (plusN l f t n i).length + (if At l i < f then 1 else 0) := by
      show (if At l i < f then addS (plusN l f t n i) (At l i) (Vl l i) else plusN l f t n i).length ≤ _
      split
      · exact addS_len _ _ _
      · omega
    generalize plus1 l f t n i (plusN l f t n i) = o1 at *
    have a2 : (plus2 l f t n i o1).length ≤ o1.length + (if mx (At l i) f < mn (plusE l i) t then 1 else 0) := by
      show (if mx (At l i) f < mn (plusE l i) t then addS o1 (mx (At l i) f) (wrap64 (Vl l i + n)) else o1).length ≤ _
      split
      · exact addS_len _ _ _
      · omega
    generalize plus2 l f t n i o1 = o2 at *
    have a3 : (plus3 l f t n i o2).length ≤ o2.length + (if t < plusE l i then 1 else 0) := by
      show (if t < plusE l i then addS o2 (mx (At l i) t) (Vl l i) else o2).length ≤ _
      split
      · exact addS_len _ _ _
      · omega
    generalize plus3 l f t n i o2 = o3 at *
    rw [mx_eq, mn_eq] at a2
    generalize plusE l i = e at *
    generalize At l i = s at *
    clear hE e1 e2
    by_cases c1 : s < f <;> by_cases c2 : f < e <;> by_cases c3 : t < e <;> by_cases c4 : s < t <;> by_cases c5 : f < s <;> by_cases c6 : t < s <;> simp only [c1, c2, c3, c4, c5, c6, if_true, if_false] at ih a1 a2 a3 ⊢ <;> (try split at a2) <;> omega
def chg (l : List St) (f t n : Int) : List St := plusN l f t n l.length
theorem change_ev {l : List St} {f t n : Int} (h : (chg l f t n).length ≤ 1024) (hl : l.length ≤ 1024) : step_change.f l f t n = some (chg l f t n, 0) := by
  unfold step_change.f step_plus.f
  rw [if_pos (by omega)]
  simp only [Option.bind_some]
  unfold chg at h ⊢
  rw [if_neg (by omega)]
theorem clone_ev {l : List St} (h : l.length < 8796093022208) : slices_Clone_api_Step_api_Step.f l = some l := by
  unfold slices_Clone_api_Step_api_Step.f
  simp only [Option.bind_some, List.length_nil, Nat.zero_add, if_pos h, List.nil_append]
theorem chg_len {l : List St} (h : Norm l) {f t n : Int} (h0 : 0 ≤ f) (h1 : f < t) : (chg l f t n).length ≤ l.length + 2 := by
  have := plusN_len2 h h0 h1 (n := n) l.length (Nat.le_refl _)
  unfold chg
  split at this <;> split at this <;> omega
def TakeOk (l : List St) (f t n : Int) : Prop := May l f t ∧ amt n
theorem take_cases (l : List St) (f t n : Int) (hl : l.length ≤ 1000) :
    (¬ TakeOk l f t n ∧ Ev (fun k => step_Take.f k l f t n) (l, 1)) ∨
    (TakeOk l f t n ∧ (¬ ∀ x, f ≤ x → x < t → n ≤ val l x) ∧ Ev (fun k => step_Take.f k l f t n) (l, 5)) ∨
    (TakeOk l f t n ∧ (∀ x, f ≤ x → x < t → n ≤ val l x) ∧ Ev (fun k => step_Take.f k l f t n) (chg l f t (-n), 0)) := by
  have no : ∀ b, b = true → Ev (fun k => step_Take.j0 k l f t n b) (l, 1) := by
    rintro _ rfl
    exact Ev.step (f := fun _ => some (l, 1)) (fun k => by simp only [step_Take.j0, if_true, clone_ev (l := l) (by omega), Option.bind_some]) (Ev.now _)
  by_cases c0 : May l f t
  · by_cases c1 : amt n
    · obtain ⟨m, hev, hm⟩ := least_ev c0.1 c0.2.1 c0.2.2.1
      have hmn := hm n
      by_cases c2 : m < n
      · refine .inr (.inl ⟨⟨c0, c1⟩, fun hc => by have := hmn.2 ⟨c1.2, hc⟩; omega, ?_⟩)
        refine Ev.bind (may_yes c0) ?_
        simp only [if_true, samt, Option.bind_some, decide_eq_true c1, Bool.not_true]
        refine Ev.step (f := fun k => (step_least.f k l f t).bind fun m => if m < n then some (l, 5) else (step_change.f l f t (wrap64 (-n))).bind fun bt => some (bt.1, bt.2)) (fun k => ?_) (Ev.bind hev ?_)
        · simp only [step_Take.j0, Bool.false_eq_true, if_false, clone_ev (l := l) (by omega), Option.bind_some]
        · simp only [if_pos c2]; exact Ev.now _
      · refine .inr (.inr ⟨⟨c0, c1⟩, (hmn.1 (by omega)).2, ?_⟩)
        refine Ev.bind (may_yes c0) ?_
        simp only [if_true, samt, Option.bind_some, decide_eq_true c1, Bool.not_true]
        refine Ev.step (f := fun k => (step_least.f k l f t).bind fun m => if m < n then some (l, 5) else (step_change.f l f t (wrap64 (-n))).bind fun bt => some (bt.1, bt.2)) (fun k => ?_) (Ev.bind hev ?_)
        · simp only [step_Take.j0, Bool.false_eq_true, if_false, clone_ev (l := l) (by omega), Option.bind_some]
        · have := c1.1
          have := c1.2
          have e : wrap64 (-n) = -n := w64 (by omega) (by omega)
          simp only [if_neg c2, e, change_ev (l := l) (f := f) (t := t) (n := -n) (by have := chg_len c0.1.toNorm c0.2.1 c0.2.2.1 (n := -n); omega) (by omega), Option.bind_some]
          exact Ev.now _
    · refine .inl ⟨fun h => c1 h.2, Ev.bind (may_yes c0) ?_⟩
      simp only [if_true, samt, Option.bind_some, decide_eq_false c1, Bool.not_false]
      exact no _ rfl
  · refine .inl ⟨fun h => c0 h.1, Ev.bind (may_no c0) ?_⟩
    simp only [Bool.false_eq_true, if_false]
    exact no _ rfl
theorem give_loop {l : List St} (h : Right l) {f t n : Int} (hn : amt n) (hc : (chg l f t n).length ≤ 1024) (hall : ∀ j, pl l f ≤ j → j < l.length → At l j < t → Vl l j + n ≤ 1048576) : ∀ (d i : Nat), l.length - i = d → i ≤ l.length → pl l f ≤ i → Ev (fun k => step_Give.l0 k l f t n (i : Int)) (chg l f t n, 0) := by
  intro d
  have out : ∀ i : Int, Ev (fun k => step_Give.j2 k l f t n i false) (chg l f t n, 0) := by
    intro i
    refine Ev.step (f := fun _ => some (chg l f t n, 0)) (fun k => ?_) (Ev.now _)
    simp only [step_Give.j2, Bool.false_eq_true, if_false, change_ev hc h.len, Option.bind_some]
  induction d with
  | zero =>
    intro i hd hi hp
    refine Ev.step (fun k => ?_) (out i)
    simp only [step_Give.l0]
    rw [if_neg (by omega)]
  | succ d ih =>
    intro i hd hi hp
    have hlt : i < l.length := by omega
    have q1 : (i : Int) < (l.length : Int) := by omega
    have q2 : (0 : Int) ≤ (i : Int) := by omega
    by_cases c : At l i < t
    · have h1 := hall i hp hlt c
      have h2 := h.amts i hlt
      unfold amt at h2 hn
      have e : wrap64 (Vl l i + n) = Vl l i + n := w64 (by omega) (by omega)
      have n1 : ¬ Vl l i + n > 1048576 := by omega
      refine Ev.step (f := fun k => step_Give.j2 k l f t n (i : Int) true) (fun k => ?_) (Ev.step (fun k => ?_) (ih (i + 1) (by omega) (by omega) (by omega)))
      · simp only [step_Give.l0, if_pos q1, if_pos q2, at_, decide_eq_true c]
      · simp only [step_Give.j2, if_true, if_pos q1, if_pos q2, vl_, e, if_neg n1, nx i (by have := h.len; omega)]
    · refine Ev.step (fun k => ?_) (out i)
      simp only [step_Give.l0, if_pos q1, if_pos q2, at_, decide_eq_false c]
theorem give_ev {l : List St} {f t n : Int} (h : TakeOk l f t n) (hall : ∀ x, f ≤ x → x < t → val l x + n ≤ 1048576) (hc : (chg l f t n).length ≤ 1024) : Ev (fun k => step_Give.f k l f t n) (chg l f t n, 0) := by
  obtain ⟨c0, c1⟩ := h
  refine Ev.bind (may_yes c0) ?_
  simp only [if_true, samt, Option.bind_some, decide_eq_true c1, Bool.not_true]
  refine Ev.step (f := fun k => (step_place.f k l f).bind fun i => step_Give.l0 k l f t n i) (fun k => ?_) (Ev.bind (place_ev c0.1 c0.2.1) ?_)
  · simp only [step_Give.j0, Bool.false_eq_true, if_false]
  · exact give_loop c0.1 c1 hc ((span_iff c0.1.toNorm c0.2.1 c0.2.2.1 (fun v => v + n ≤ 1048576)).1 hall) _ (pl l f) rfl (by have := (pl_spec c0.1.toNorm c0.2.1).1; omega) (Nat.le_refl _)
end Go.Proofs.Ytimllhflecippaa.StepT
end

section
namespace Go.Proofs.Ytimllhflecippaa.StepQ
open Go.RowKit Go.Proofs.YtimllhflecippaaW.PrintWords Go.Proofs.YtimllhflecippaaW.PrintMore Go.Proofs.Ytimllhflecippaa.F Go.Proofs.Ytimllhflecippaa.Pk Go.Proofs.Ytimllhflecippaa.StepP Go.Proofs.Ytimllhflecippaa.StepT
set_option linter.unusedSimpArgs false
set_option linter.unusedVariables false

/-- x behind a row, if it is beyond its last. -/
def put (o : List Int) (x : Int) : List Int := if o.length = 0 ∨ rd o ((o.length - 1 : Nat) : Int) < x then o ++ [x] else o
theorem put_len (o : List Int) (x : Int) : (put o x).length ≤ o.length + 1 := by unfold put; split <;> simp
def stp (p : List St) (f t : Int) (i : Nat) (o : List Int) : List Int := put (if t < At p i then put (if f < At p i then put o f else o) t else (if f < At p i then put o f else o)) (At p i)
def outN (p : List St) (f t : Int) : Nat → List Int
  | 0 => []
  | i + 1 => stp p f t i (outN p f t i)
def timesR (p : List St) (f t : Int) : List Int := put (put (outN p f t p.length) f) t
theorem stp_len (p : List St) (f t : Int) (i : Nat) (o : List Int) : (stp p f t i o).length ≤ o.length + 3 := by
  unfold stp
  refine Nat.le_trans (put_len _ _) ?_
  have h1 := put_len o f
  split
  · refine Nat.le_trans (Nat.succ_le_succ (put_len _ _)) ?_
    split <;> omega
  · split <;> omega
theorem put_pos (o : List Int) (x : Int) : 0 < (put o x).length := by
  unfold put
  by_cases h : o.length = 0 ∨ rd o ((o.length - 1 : Nat) : Int) < x
  · rw [if_pos h]; simp
  · rw [if_neg h]; exact Nat.pos_of_ne_zero (fun e => h (.inl e))
theorem stp_pos (p : List St) (f t : Int) (i : Nat) (o : List Int) : 0 < (stp p f t i o).length := put_pos _ _
theorem outN_len (p : List St) (f t : Int) : ∀ i, (outN p f t i).length ≤ 3 * i
  | 0 => Nat.le_refl _
  | i + 1 => by
    have := stp_len p f t i (outN p f t i)
    have := outN_len p f t i
    show (stp p f t i (outN p f t i)).length ≤ _
    omega
section
variable {p : List St} {f t : Int} {i : Nat} {r : List Int} (hi : i < p.length) (hp : p.length ≤ 1024)
include hi hp
theorem j3_ev {o : List Int} (ho : o.length ≤ 5000) (b : Bool) (h : Ev (fun k => bailiwickref03_times.l0 k p f t (put (if b = true then o ++ [t] else o) (At p i)) ((i + 1 : Nat) : Int)) r) : Ev (fun k => bailiwickref03_times.j3 k p f t o (i : Int) b) r := by
  have q1 : (i : Int) < (p.length : Int) := by omega
  have q2 : (0 : Int) ≤ (i : Int) := by omega
  have core : ∀ (y : List Int), y.length ≤ 5001 → ∀ k, bailiwickref03_times.j3 (k + 1) p f t y (i : Int) false = bailiwickref03_times.l0 k p f t (put y (At p i)) ((i + 1 : Nat) : Int) := by
    intro y hy k
    have q3 : y.length < 17592186044416 := by omega
    by_cases h0 : y.length = 0
    · have c0 : (y.length : Int) = 0 := by omega
      unfold put
      rw [if_pos (.inl h0)]
      simp only [bailiwickref03_times.j3, Bool.false_eq_true, if_false, if_pos c0, if_pos q1, if_pos q2, if_pos q3, nx i (by omega), at_]
    · have c0 : ¬ (y.length : Int) = 0 := by omega
      have c1 : (0 : Int) ≤ ((y.length - 1 : Nat) : Int) := by omega
      have c2 : ((y.length - 1 : Nat) : Int) < (y.length : Int) := by omega
      by_cases h1 : rd y ((y.length - 1 : Nat) : Int) < At p i
      · unfold put
        rw [if_pos (.inr h1)]
        simp only [bailiwickref03_times.j3, Bool.false_eq_true, if_false, if_neg c0, pv y.length (by omega) (by omega), if_pos c1, if_pos c2, if_pos q1, if_pos q2, if_pos q3, nx i (by omega), at_, if_pos h1]
      · unfold put
        rw [if_neg (fun h => h.elim h0 h1)]
        simp only [bailiwickref03_times.j3, Bool.false_eq_true, if_false, if_neg c0, pv y.length (by omega) (by omega), if_pos c1, if_pos c2, if_pos q1, if_pos q2, if_pos q3, nx i (by omega), at_, if_neg h1]
  refine Ev.step (fun k => ?_) h
  cases b with
  | false => simpa only [Bool.false_eq_true, if_false] using core o (by omega) k
  | true =>
    have q3 : o.length < 17592186044416 := by omega
    have := core (o ++ [t]) (by simp; omega) k
    simp only [if_true]
    rw [← this]
    simp only [bailiwickref03_times.j3, if_true, Bool.false_eq_true, if_false, if_pos q3, Option.bind_some]
theorem j2_ev {o : List Int} (ho : o.length ≤ 5000) (h : Ev (fun k => bailiwickref03_times.l0 k p f t (put (if t < At p i then put o t else o) (At p i)) ((i + 1 : Nat) : Int)) r) : Ev (fun k => bailiwickref03_times.j2 k p f t o (i : Int)) r := by
  have q1 : (i : Int) < (p.length : Int) := by omega
  have q2 : (0 : Int) ≤ (i : Int) := by omega
  by_cases c : t < At p i
  · rw [if_pos c] at h
    by_cases h0 : o.length = 0
    · have c0 : (o.length : Int) = 0 := by omega
      have e : put o t = if true = true then o ++ [t] else o := by unfold put; rw [if_pos (.inl h0), if_pos rfl]
      rw [e] at h
      refine Ev.step (fun k => ?_) (j3_ev hi hp ho true h)
      simp only [bailiwickref03_times.j2, if_pos q1, if_pos q2, at_, if_pos c, if_pos c0]
    · have c0 : ¬ (o.length : Int) = 0 := by omega
      have c1 : (0 : Int) ≤ ((o.length - 1 : Nat) : Int) := by omega
      have c2 : ((o.length - 1 : Nat) : Int) < (o.length : Int) := by omega
      have e : put o t = if decide (rd o ((o.length - 1 : Nat) : Int) < t) = true then o ++ [t] else o := by
        unfold put
        by_cases h1 : rd o ((o.length - 1 : Nat) : Int) < t
        · rw [if_pos (.inr h1), if_pos (decide_eq_true h1)]
        · rw [if_neg (fun h => h.elim h0 h1), if_neg (by simpa using h1)]
      rw [e] at h
      refine Ev.step (fun k => ?_) (j3_ev hi hp ho _ h)
      simp only [bailiwickref03_times.j2, if_pos q1, if_pos q2, at_, if_pos c, if_neg c0, pv o.length (by omega) (by omega), if_pos c1, if_pos c2]
  · rw [if_neg c] at h
    refine Ev.step (fun k => ?_) (j3_ev hi hp ho false (by simpa only [Bool.false_eq_true, if_false] using h))
    simp only [bailiwickref03_times.j2, if_pos q1, if_pos q2, at_, if_neg c]
theorem l0_ev {o : List Int} (ho : o.length ≤ 4000) (h : Ev (fun k => bailiwickref03_times.l0 k p f t (stp p f t i o) ((i + 1 : Nat) : Int)) r) : Ev (fun k => bailiwickref03_times.l0 k p f t o (i : Int)) r := by
  have q1 : (i : Int) < (p.length : Int) := by omega
  have q2 : (0 : Int) ≤ (i : Int) := by omega
  unfold stp at h
  have j1 : ∀ b : Bool, (if f < At p i then put o f else o) = (if b = true then o ++ [f] else o) → Ev (fun k => bailiwickref03_times.j1 k p f t o (i : Int) b) r := by
    intro b e
    rw [e] at h
    have q3 : o.length < 17592186044416 := by omega
    cases b with
    | false =>
      refine Ev.step (fun k => ?_) (j2_ev hi hp (by omega) (o := o) (by simpa only [Bool.false_eq_true, if_false] using h))
      simp only [bailiwickref03_times.j1, Bool.false_eq_true, if_false]
    | true =>
      refine Ev.step (fun k => ?_) (j2_ev hi hp (by simp; omega) (o := o ++ [f]) (by simpa only [if_true] using h))
      simp only [bailiwickref03_times.j1, if_true, if_pos q3]
  by_cases c : f < At p i
  · rw [if_pos c] at j1
    by_cases h0 : o.length = 0
    · have c0 : (o.length : Int) = 0 := by omega
      refine Ev.step (fun k => ?_) (j1 true (by unfold put; rw [if_pos (.inl h0), if_pos rfl]))
      simp only [bailiwickref03_times.l0, if_pos q1, if_pos q2, at_, if_pos c, if_pos c0]
    · have c0 : ¬ (o.length : Int) = 0 := by omega
      have c1 : (0 : Int) ≤ ((o.length - 1 : Nat) : Int) := by omega
      have c2 : ((o.length - 1 : Nat) : Int) < (o.length : Int) := by omega
      refine Ev.step (fun k => ?_) (j1 (decide (rd o ((o.length - 1 : Nat) : Int) < f)) ?_)
      · simp only [bailiwickref03_times.l0, if_pos q1, if_pos q2, at_, if_pos c, if_neg c0, pv o.length (by omega) (by omega), if_pos c1, if_pos c2]
      · unfold put
        by_cases h1 : rd o ((o.length - 1 : Nat) : Int) < f
        · rw [if_pos (.inr h1), if_pos (decide_eq_true h1)]
        · rw [if_neg (fun h => h.elim h0 h1), if_neg (by simpa using h1)]
  · rw [if_neg c] at j1
    refine Ev.step (fun k => ?_) (j1 false (by simp))
    simp only [bailiwickref03_times.l0, if_pos q1, if_pos q2, at_, if_neg c]
end
theorem times_ev {p : List St} (hp : p.length ≤ 1024) (h0 : 0 < p.length) (f t : Int) : Ev (fun k => bailiwickref03_times.f k p f t) (timesR p f t) := by
  have fin : ∀ o : List Int, 0 < o.length → o.length ≤ 5000 → Ev (fun k => bailiwickref03_times.l0 k p f t o (p.length : Int)) (put (put o f) t) := by
    intro o ho hl
    have c1 : (0 : Int) ≤ ((o.length - 1 : Nat) : Int) := by omega
    have c2 : ((o.length - 1 : Nat) : Int) < (o.length : Int) := by omega
    have q3 : o.length < 17592186044416 := by omega
    refine Ev.step (f := fun _ => some _) (fun k => ?_) (Ev.now _)
    by_cases h1 : rd o ((o.length - 1 : Nat) : Int) < f
    · have e1 : put o f = o ++ [f] := by unfold put; rw [if_pos (.inr h1)]
      have d1 : (0 : Int) ≤ (((o ++ [f]).length - 1 : Nat) : Int) := by omega
      have d2 : (((o ++ [f]).length - 1 : Nat) : Int) < ((o ++ [f]).length : Int) := by simp; omega
      have d3 : (o ++ [f]).length < 17592186044416 := by simp; omega
      have d0 : ¬ (o ++ [f]).length = 0 := by simp
      have dp := pv (o ++ [f]).length (by simp; omega) (by simp)
      rw [e1]
      by_cases h2 : rd (o ++ [f]) (((o ++ [f]).length - 1 : Nat) : Int) < t
      · unfold put
        rw [if_pos (.inr h2)]
        simp only [bailiwickref03_times.l0, if_neg (Int.lt_irrefl _), pv o.length (by omega) (by omega), if_pos c1, if_pos c2, if_pos h1, if_pos q3, Option.bind_some, dp, if_pos d1, if_pos d2, if_pos h2, if_pos d3]
      · unfold put
        rw [if_neg (fun h => h.elim d0 h2)]
        simp only [bailiwickref03_times.l0, if_neg (Int.lt_irrefl _), pv o.length (by omega) (by omega), if_pos c1, if_pos c2, if_pos h1, if_pos q3, Option.bind_some, dp, if_pos d1, if_pos d2, if_neg h2]
    · have e1 : put o f = o := by unfold put; rw [if_neg (fun h => h.elim (by omega) h1)]
      rw [e1]
      by_cases h2 : rd o ((o.length - 1 : Nat) : Int) < t
      · unfold put
        rw [if_pos (.inr h2)]
        simp only [bailiwickref03_times.l0, if_neg (Int.lt_irrefl _), pv o.length (by omega) (by omega), if_pos c1, if_pos c2, if_neg h1, if_pos h2, if_pos q3]
      · unfold put
        rw [if_neg (fun h => h.elim (by omega) h2)]
        simp only [bailiwickref03_times.l0, if_neg (Int.lt_irrefl _), pv o.length (by omega) (by omega), if_pos c1, if_pos c2, if_neg h1, if_neg h2]
  have go : ∀ (d i : Nat), p.length - i = d → i ≤ p.length → (0 < i → 0 < (outN p f t i).length) → Ev (fun k => bailiwickref03_times.l0 k p f t (outN p f t i) (i : Int)) (timesR p f t) := by
    intro d
    induction d with
    | zero =>
      intro i hd hi hpos
      obtain rfl : i = p.length := by omega
      exact fin _ (hpos h0) (by have := outN_len p f t p.length; omega)
    | succ d ih =>
      intro i hd hi hpos
      refine l0_ev (by omega) hp (by have := outN_len p f t i; omega) (ih (i + 1) (by omega) (by omega) fun _ => ?_)
      exact stp_pos p f t i _
  exact go p.length 0 (by omega) (by omega) (fun h => by omega)

structure Good (o : List Int) (L : Int) : Prop where
  pw : o.Pairwise (· < ·)
  pos : 0 < o.length
  last : rd o ((o.length - 1 : Nat) : Int) = L
theorem rd_nat (o : List Int) (i : Nat) (h : i < o.length) : rd o (i : Int) = o[i] := by unfold rd; simp [h]
theorem Good.le {o : List Int} {L : Int} (h : Good o L) {y : Int} (hy : y ∈ o) : y ≤ L := by
  obtain ⟨j, hj, rfl⟩ := List.mem_iff_getElem.1 hy
  have := h.last
  have hp := h.pos
  rw [rd_nat o _ (by omega)] at this
  rw [← this]
  rcases Nat.lt_or_ge j (o.length - 1) with c | c
  · exact Int.le_of_lt (List.pairwise_iff_getElem.1 h.pw j (o.length - 1) hj (by omega) c)
  · have : j = o.length - 1 := by omega
    subst this; exact Int.le_refl _
theorem good_nil (x : Int) : Good (put [] x) x := ⟨by simp [put], by simp [put], by simp [put, rd]⟩
theorem put_mem {o : List Int} {x y : Int} (h : y ∈ o) : y ∈ put o x := by unfold put; split <;> simp [h]
theorem put_sub {o : List Int} {x y : Int} (h : y ∈ put o x) : y ∈ o ∨ y = x := by unfold put at h; split at h <;> simp_all
theorem put_skip {o : List Int} {L x : Int} (h : Good o L) (hx : x ≤ L) : put o x = o := by
  have := h.pos; have := h.last
  unfold put
  rw [if_neg]
  rintro (h1 | h1) <;> omega
theorem put_good {o : List Int} {L x : Int} (h : Good o L) (hx : L ≤ x) : Good (put o x) x ∧ x ∈ put o x := by
  have hp := h.pos; have hl := h.last
  rcases Int.lt_or_le L x with c | c
  · unfold put
    rw [if_pos (.inr (by omega))]
    refine ⟨⟨List.pairwise_append.2 ⟨h.pw, by simp, fun y hy z hz => ?_⟩, by simp, ?_⟩, by simp⟩
    · simp at hz; subst hz; have := h.le hy; omega
    · rw [rd_nat _ _ (by simp)]; simp
  · obtain rfl : L = x := by omega
    rw [put_skip h (Int.le_refl _)]
    refine ⟨h, ?_⟩
    rw [rd_nat _ _ (by omega)] at hl
    rw [← hl]
    exact List.getElem_mem _
structure TI (p : List St) (f t : Int) (n : Nat) (o : List Int) : Prop where
  good : Good o (At p (n - 1))
  ge0 : ∀ x ∈ o, 0 ≤ x
  has : ∀ j, j < n → At p j ∈ o
  hf : f ≤ At p (n - 1) → f ∈ o
  ht : t ≤ At p (n - 1) → t ∈ o
theorem outN_ti {p : List St} (h : Norm p) {f t : Int} (h0 : 0 ≤ f) (h1 : f < t) : ∀ n, n + 1 ≤ p.length → TI p f t (n + 1) (outN p f t (n + 1))
  | 0, hn => by
    have e : outN p f t 1 = [0] := by
      show stp p f t 0 [] = [0]
      unfold stp
      rw [h.zero, if_neg (by omega), if_neg (by omega)]
      rfl
    rw [e]
    refine ⟨by rw [show At p (0 + 1 - 1) = 0 from h.zero]; exact good_nil 0, by simp, fun j hj => ?_, fun hf => ?_, fun ht => ?_⟩
    · obtain rfl : j = 0 := by omega
      rw [h.zero]; simp
    · rw [show At p (0 + 1 - 1) = 0 from h.zero] at hf
      have : f = 0 := by omega
      simp [this]
    · rw [show At p (0 + 1 - 1) = 0 from h.zero] at ht
      omega
  | n + 1, hn => by
    have ih := outN_ti h h0 h1 n (by omega)
    have e : outN p f t (n + 1 + 1) = stp p f t (n + 1) (outN p f t (n + 1)) := rfl
    have hA : At p n < At p (n + 1) := (h.rise n (by omega)).1
    have hA0 := h.ge0 (i := n) (by omega)
    rw [e]
    generalize outN p f t (n + 1) = o at ih
    obtain ⟨good, ge0, has, hf, ht⟩ := ih
    rw [show n + 1 - 1 = n by omega] at good hf ht
    have s1 : ∃ L1, Good (if f < At p (n + 1) then put o f else o) L1 ∧ L1 < At p (n + 1) ∧ (f < At p (n + 1) → f ∈ (if f < At p (n + 1) then put o f else o)) ∧ (∀ x ∈ o, x ∈ (if f < At p (n + 1) then put o f else o)) ∧ (∀ x ∈ (if f < At p (n + 1) then put o f else o), 0 ≤ x) ∧ (t ≤ L1 → t ∈ (if f < At p (n + 1) then put o f else o)) := by
      by_cases c : f < At p (n + 1)
      · simp only [if_pos c]
        by_cases c2 : f ≤ At p n
        · rw [put_skip good c2]
          exact ⟨_, good, hA, fun _ => hf c2, fun _ h => h, ge0, ht⟩
        · obtain ⟨g1, g2⟩ := put_good good (x := f) (by omega)
          exact ⟨f, g1, c, fun _ => g2, fun _ h => put_mem h, fun x hx => (put_sub hx).elim (ge0 x) (fun e => by omega), fun h => by omega⟩
      · simp only [if_neg c]
        exact ⟨_, good, hA, fun h => absurd h c, fun _ h => h, ge0, ht⟩
    unfold stp
    generalize (if f < At p (n + 1) then put o f else o) = o1 at s1
    obtain ⟨L1, g1, l1, m1, k1, z1, t1⟩ := s1
    have s2 : ∃ L2, Good (if t < At p (n + 1) then put o1 t else o1) L2 ∧ L2 < At p (n + 1) ∧ (t < At p (n + 1) → t ∈ (if t < At p (n + 1) then put o1 t else o1)) ∧ (∀ x ∈ o1, x ∈ (if t < At p (n + 1) then put o1 t else o1)) ∧ (∀ x ∈ (if t < At p (n + 1) then put o1 t else o1), 0 ≤ x) := by
      by_cases c : t < At p (n + 1)
      · simp only [if_pos c]
        by_cases c2 : t ≤ L1
        · rw [put_skip g1 c2]
          exact ⟨_, g1, l1, fun _ => t1 c2, fun _ h => h, z1⟩
        · obtain ⟨g2, g3⟩ := put_good g1 (x := t) (by omega)
          exact ⟨t, g2, c, fun _ => g3, fun _ h => put_mem h, fun x hx => (put_sub hx).elim (z1 x) (fun e => by omega)⟩
      · simp only [if_neg c]
        exact ⟨_, g1, l1, fun h => absurd h c, fun _ h => h, z1⟩
    generalize (if t < At p (n + 1) then put o1 t else o1) = o2 at s2
    obtain ⟨L2, g2, l2, m2, k2, z2⟩ := s2
    obtain ⟨g3, g4⟩ := put_good g2 (x := At p (n + 1)) (by omega)
    refine ⟨g3, fun x hx => (put_sub hx).elim (z2 x) (fun e => by omega), fun j hj => ?_, fun hf' => ?_, fun ht' => ?_⟩
    · rcases Nat.lt_or_ge j (n + 1) with c | c
      · exact put_mem (k2 _ (k1 _ (has j c)))
      · obtain rfl : j = n + 1 := by omega
        exact g4
    · rw [show n + 1 + 1 - 1 = n + 1 by omega] at hf'
      rcases Int.lt_or_le f (At p (n + 1)) with c | c
      · exact put_mem (k2 _ (m1 c))
      · rw [show f = At p (n + 1) by omega]; exact g4
    · rw [show n + 1 + 1 - 1 = n + 1 by omega] at ht'
      rcases Int.lt_or_le t (At p (n + 1)) with c | c
      · exact put_mem (m2 c)
      · rw [show t = At p (n + 1) by omega]; exact g4
structure TimesOf (p : List St) (f t : Int) (l : List Int) : Prop where
  pw : l.Pairwise (· < ·)
  rng : ∀ x ∈ l, 0 ≤ x ∧ x ≤ Never
  has : ∀ j, j < p.length → At p j ∈ l
  hf : f ∈ l
  ht : t ∈ l
  len : l.length ≤ 3 * p.length + 2
theorem timesR_of {p : List St} (h : Right p) {f t : Int} (h0 : 0 ≤ f) (h1 : f < t) (h2 : t ≤ Never) : TimesOf p f t (timesR p f t) := by
  have hp := (right_iff p).1 h
  obtain ⟨m, hm⟩ : ∃ m, p.length = m + 1 := ⟨p.length - 1, by omega⟩
  have ti := outN_ti h.toNorm h0 h1 m (by omega)
  have hl := outN_len p f t p.length
  have top : At p m ≤ Never := ((hp.2.2.2 m (by omega) (by omega)).2.1).2
  unfold timesR
  rw [hm] at hl ⊢
  generalize outN p f t (m + 1) = o at ti hl
  obtain ⟨good, ge0, has, hf, ht⟩ := ti
  rw [show m + 1 - 1 = m by omega] at good hf ht
  have s1 : ∃ L, Good (put o f) L ∧ L ≤ Never ∧ f ∈ put o f ∧ (t ≤ L → t ∈ put o f) := by
    by_cases c : f ≤ At p m
    · rw [put_skip good c]
      exact ⟨_, good, top, hf c, ht⟩
    · obtain ⟨g1, g2⟩ := put_good good (x := f) (by omega)
      exact ⟨f, g1, by omega, g2, fun h => by omega⟩
  obtain ⟨L, g, hL, mf, mt⟩ := s1
  have z1 : ∀ x ∈ put o f, 0 ≤ x := fun x hx => (put_sub hx).elim (ge0 x) (fun e => by omega)
  have s2 : ∃ L2, Good (put (put o f) t) L2 ∧ L2 ≤ Never ∧ t ∈ put (put o f) t := by
    by_cases c : t ≤ L
    · rw [put_skip g c]
      exact ⟨_, g, hL, mt c⟩
    · obtain ⟨g1, g2⟩ := put_good g (x := t) (by omega)
      exact ⟨t, g1, h2, g2⟩
  obtain ⟨L2, g2, hL2, mt2⟩ := s2
  have a1 := put_len o f
  have a2 := put_len (put o f) t
  refine ⟨g2.pw, fun x hx => ⟨(put_sub hx).elim (z1 x) (fun e => by omega), Int.le_trans (g2.le hx) hL2⟩, fun j hj => put_mem (put_mem (has j (by omega))), put_mem mf, mt2, by omega⟩

noncomputable def chgN (p : List St) (f t n : Int) (l : List Int) : Nat → List St
  | 0 => []
  | i + 1 => addS (chgN p f t n l i) (rd l (i : Int)) (more f t n (rd l (i : Int)) (val p (rd l (i : Int))))
theorem chgN_len (p : List St) (f t n : Int) (l : List Int) : ∀ i, (chgN p f t n l i).length ≤ i
  | 0 => Nat.le_refl _
  | i + 1 => Nat.le_trans (StepT.addS_len _ _ _) (Nat.succ_le_succ (chgN_len p f t n l i))
/-- Between two times nothing turns. -/
theorem between {p : List St} {f t : Int} {l : List Int} (hl : TimesOf p f t l) {i : Nat} (hi : i < l.length) {x : Int} (a : rd l (i : Int) ≤ x) (b : i + 1 < l.length → x < rd l ((i + 1 : Nat) : Int)) : (∀ y ∈ l, y ≤ x → y ≤ rd l (i : Int)) := by
  intro y hy hyx
  obtain ⟨j, hj, rfl⟩ := List.mem_iff_getElem.1 hy
  rw [rd_nat l i hi] at a ⊢
  rcases Nat.lt_or_ge i j with c | c
  · exfalso
    have hb := b (by omega)
    rw [rd_nat l (i + 1) (by omega)] at hb
    rcases Nat.lt_or_ge (i + 1) j with d | d
    · have := List.pairwise_iff_getElem.1 hl.pw (i + 1) j (by omega) hj d
      omega
    · have : j = i + 1 := by omega
      subst this; omega
  · rcases Nat.lt_or_ge j i with d | d
    · exact Int.le_of_lt (List.pairwise_iff_getElem.1 hl.pw j i hj hi d)
    · have : j = i := by omega
      subst this; exact Int.le_refl _
theorem same_val {p : List St} (h : Right p) {f t n : Int} {l : List Int} (hl : TimesOf p f t l) {i : Nat} (hi : i < l.length) {x : Int} (a : rd l (i : Int) ≤ x) (b : i + 1 < l.length → x < rd l ((i + 1 : Nat) : Int)) :
    more f t n x (val p x) = more f t n (rd l (i : Int)) (val p (rd l (i : Int))) := by
  have bt := between hl hi a b
  have hr : 0 ≤ rd l (i : Int) := by rw [rd_nat l i hi]; exact (hl.rng _ (List.getElem_mem hi)).1
  have hv : val p x = val p (rd l (i : Int)) := by
    obtain ⟨j, hj⟩ := IsPl.ex h.toNorm hr
    rw [val_eq h.toNorm hj, val_eq h.toNorm (i := j) ⟨hj.1, by have := hj.2.1; omega, fun c => ?_⟩]
    have := hj.2.2 c
    rcases Int.lt_or_le x (At p (j + 1)) with d | d
    · exact d
    · have := bt _ (hl.has (j + 1) c) d
      omega
  rw [hv]
  unfold more
  have c1 : (f ≤ x ∧ x < t) ↔ (f ≤ rd l (i : Int) ∧ rd l (i : Int) < t) := by
    constructor
    · rintro ⟨c, d⟩
      exact ⟨bt f hl.hf c, by omega⟩
    · rintro ⟨c, d⟩
      refine ⟨by omega, ?_⟩
      rcases Int.lt_or_le x t with e | e
      · exact e
      · have := bt t hl.ht e
        omega
  by_cases c : f ≤ x ∧ x < t
  · rw [if_pos c, if_pos (c1.1 c)]
  · rw [if_neg c, if_neg (fun d => c (c1.2 d))]
theorem first_zero {p : List St} (h : Right p) {f t : Int} {l : List Int} (hl : TimesOf p f t l) (hp : 0 < l.length) : rd l ((0 : Nat) : Int) = 0 := by
  have hz := hl.has 0 (by have := (right_iff p).1 h; omega)
  rw [h.zero] at hz
  obtain ⟨j, hj, e⟩ := List.mem_iff_getElem.1 hz
  rw [rd_nat l 0 hp]
  have := (hl.rng _ (List.getElem_mem hp)).1
  rcases Nat.eq_zero_or_pos j with c | c
  · subst c; exact e
  · have := List.pairwise_iff_getElem.1 hl.pw 0 j hp hj c
    omega
theorem chgN_built {p : List St} (h : Right p) {f t n : Int} {l : List Int} (hl : TimesOf p f t l) : ∀ i, i ≤ l.length → Built (chgN p f t n l i) (if i < l.length then rd l (i : Int) else Never + 1) (fun x => more f t n x (val p x))
  | 0, hi => by
    have hp : 0 < l.length := List.length_pos_of_mem hl.hf
    rw [if_pos hp, first_zero h hl hp]
    exact Built.start _
  | i + 1, hi => by
    have hlt : i < l.length := by omega
    have ih := chgN_built h (n := n) hl i (by omega)
    rw [if_pos hlt] at ih
    have hr := hl.rng _ (List.getElem_mem hlt)
    rw [← rd_nat l i hlt] at hr
    refine Built.add ih hr.1 ?_ ?_
    · by_cases c : i + 1 < l.length
      · rw [if_pos c, rd_nat l i hlt, rd_nat l (i + 1) c]
        exact List.pairwise_iff_getElem.1 hl.pw i (i + 1) hlt c (by omega)
      · rw [if_neg c]; omega
    · intro x a b
      refine same_val h hl hlt a (fun c => ?_)
      rw [if_pos c] at b
      exact b
theorem chgN_eq {p : List St} (h : Right p) {f t n : Int} (h0 : 0 ≤ f) (h1 : f < t) (h2 : t ≤ Never) {l : List Int} (hl : TimesOf p f t l) (hn : -1048576 ≤ n ∧ n ≤ 1048576) : chgN p f t n l l.length = chg p f t n := by
  have b := chgN_built h hl (n := n) l.length (Nat.le_refl _)
  rw [if_neg (Nat.lt_irrefl _)] at b
  obtain ⟨a1, a2⟩ := b.norm
  obtain ⟨b1, b2⟩ := plus_norm h h0 h1 h2 hn
  exact Norm.ext a1 b1 (fun x c d => (a2 x c d).trans (b2 x c d).symm)
end Go.Proofs.Ytimllhflecippaa.StepQ
end

section
namespace Go.Proofs.Ytimllhflecippaa.StepQ
open Go.RowKit Go.Proofs.YtimllhflecippaaW.PrintWords Go.Proofs.YtimllhflecippaaW.PrintMore Go.Proofs.Ytimllhflecippaa.F Go.Proofs.Ytimllhflecippaa.Pk Go.Proofs.Ytimllhflecippaa.StepP
set_option linter.unusedSimpArgs false
set_option linter.unusedVariables false
theorem Least_yes {l : List St} {f t : Int} (h : May l f t) : ∃ m, Ev (fun k => step_Least.f k l f t) (m, 0) ∧ IsLeast l f t m := by
  obtain ⟨m, hev, hm⟩ := least_ev h.1 h.2.1 h.2.2.1
  refine ⟨m, Ev.bind (may_yes h) ?_, hm⟩
  simp only [if_true]
  exact Ev.bind hev (Ev.now _)
theorem Least_no {l : List St} {f t : Int} (h : ¬ May l f t) : Ev (fun k => step_Least.f k l f t) (0, 1) := by
  refine Ev.bind (may_no h) ?_
  simp only [Bool.false_eq_true, if_false]
  exact Ev.now _

end Go.Proofs.Ytimllhflecippaa.StepQ
end

section
namespace Go.Proofs.Ytimllhflecippaa.StepR
open Go.RowKit Go.Proofs.YtimllhflecippaaW.PrintWords Go.Proofs.YtimllhflecippaaW.PrintMore Go.Proofs.Ytimllhflecippaa.F Go.Proofs.Ytimllhflecippaa.Pk Go.Proofs.Ytimllhflecippaa.StepP Go.Proofs.Ytimllhflecippaa.StepQ Go.Proofs.Ytimllhflecippaa.StepT
set_option linter.unusedSimpArgs false
set_option linter.unusedVariables false

theorem rmay_yes {l : List St} {f t : Int} (h : May l f t) : Ev (fun k => bailiwickref03_May.f k l f t) true := by
  refine Ev.bind (rright_yes h.1) ?_
  have h2 := h.2
  unfold Never at h2
  simp only [if_true, if_pos (show f ≥ 0 by omega), if_pos h2.2.1, decide_eq_true h2.2.2]
  exact Ev.now _
theorem rmay_no {l : List St} {f t : Int} (h : ¬ May l f t) : Ev (fun k => bailiwickref03_May.f k l f t) false := by
  by_cases c : Right l
  · refine Ev.bind (rright_yes c) ?_
    simp only [if_true]
    have n : ¬ (0 ≤ f ∧ f < t ∧ t ≤ 4611686018427387904) := fun e => h ⟨c, e⟩
    by_cases a : f ≥ 0
    · by_cases b : f < t
      · have d : ¬ t ≤ 4611686018427387904 := fun d => n ⟨a, b, d⟩
        simp only [if_pos a, if_pos b, decide_eq_false d]; exact Ev.now _
      · simp only [if_pos a, if_neg b]; exact Ev.now _
    · simp only [if_neg a]; exact Ev.now _
  · refine Ev.bind (rright_no c) ?_
    simp only [Bool.false_eq_true, if_false]; exact Ev.now _
theorem rAt_ev {l : List St} (h : Right l) {t : Int} (h0 : 0 ≤ t) (h1 : t ≤ Never) : Ev (fun k => bailiwickref03_At.f k l t) (val l t) := by
  refine Ev.bind (rright_yes h) ?_
  unfold Never at h1
  simp only [if_true, if_neg (show ¬ t < 0 by omega), if_neg (show ¬ t > 4611686018427387904 by omega)]
  exact Ev.bind (rat_ev h h0) (Ev.now _)
theorem rAt_no {l : List St} {t : Int} (h : ¬ (Right l ∧ 0 ≤ t ∧ t ≤ Never)) : Ev (fun k => bailiwickref03_At.f k l t) 0 := by
  by_cases c : Right l
  · refine Ev.bind (rright_yes c) ?_
    have n : ¬ (0 ≤ t ∧ t ≤ 4611686018427387904) := fun e => h ⟨c, e⟩
    simp only [if_true]
    by_cases a : t < 0
    · simp only [if_pos a]; exact Ev.now _
    · simp only [if_neg a, if_pos (show t > 4611686018427387904 by omega)]; exact Ev.now _
  · refine Ev.bind (rright_no c) ?_
    simp only [Bool.false_eq_true, if_false]; exact Ev.now _
def IsMost (l : List St) (f t m : Int) : Prop := ∀ n, m ≤ n ↔ ∀ x, f ≤ x → x < t → val l x ≤ n
theorem rmost_loop {l : List St} (h : Right l) (f t : Int) : ∀ (d i : Nat) (a : Int), l.length - i = d → i ≤ l.length → ∃ m, Ev (fun k => bailiwickref03_Most.l0 k l f t a (i : Int)) m ∧ ∀ n, m ≤ n ↔ (a ≤ n ∧ ∀ j, i ≤ j → j < l.length → f < At l j → At l j < t → Vl l j ≤ n)
  | 0, i, a, hd, hi => by
    refine ⟨a, Ev.step (f := fun _ => some a) (fun k => ?_) (Ev.now _), fun n => ⟨fun hn => ⟨hn, fun j h1 h2 => by omega⟩, fun hn => hn.1⟩⟩
    simp only [bailiwickref03_Most.l0]
    rw [if_neg (by omega)]
  | d + 1, i, a, hd, hi => by
    have hlt : i < l.length := by omega
    have q1 : (i : Int) < (l.length : Int) := by omega
    have q2 : (0 : Int) ≤ (i : Int) := by omega
    by_cases c : At l i > f
    · by_cases c1 : At l i < t
      · by_cases c2 : Vl l i > a
        · obtain ⟨m, hev, hm⟩ := rmost_loop h f t d (i + 1) (Vl l i) (by omega) (by omega)
          refine ⟨m, Ev.step (fun k => ?_) hev, fun n => ?_⟩
          · simp only [bailiwickref03_Most.l0, if_pos q1, if_pos q2, at_, vl_, if_pos c, if_pos c1, if_pos c2, nx i (by have := h.len; omega)]
          · rw [hm n, all_step hlt]
            exact ⟨fun ⟨x, y⟩ => ⟨by omega, fun _ _ => x, y⟩, fun ⟨x, y, z⟩ => ⟨y c c1, z⟩⟩
        · obtain ⟨m, hev, hm⟩ := rmost_loop h f t d (i + 1) a (by omega) (by omega)
          refine ⟨m, Ev.step (fun k => ?_) hev, fun n => ?_⟩
          · simp only [bailiwickref03_Most.l0, if_pos q1, if_pos q2, at_, vl_, if_pos c, if_pos c1, if_neg c2, nx i (by have := h.len; omega)]
          · rw [hm n, all_step hlt]
            exact ⟨fun ⟨x, y⟩ => ⟨x, fun _ _ => by omega, y⟩, fun ⟨x, y, z⟩ => ⟨x, z⟩⟩
      · obtain ⟨m, hev, hm⟩ := rmost_loop h f t d (i + 1) a (by omega) (by omega)
        refine ⟨m, Ev.step (fun k => ?_) hev, fun n => ?_⟩
        · simp only [bailiwickref03_Most.l0, if_pos q1, if_pos q2, at_, vl_, if_pos c, if_neg c1, nx i (by have := h.len; omega)]
        · rw [hm n, all_step hlt]
          exact ⟨fun ⟨x, y⟩ => ⟨x, fun _ h' => absurd h' c1, y⟩, fun ⟨x, y, z⟩ => ⟨x, z⟩⟩
    · obtain ⟨m, hev, hm⟩ := rmost_loop h f t d (i + 1) a (by omega) (by omega)
      refine ⟨m, Ev.step (fun k => ?_) hev, fun n => ?_⟩
      · simp only [bailiwickref03_Most.l0, if_pos q1, if_pos q2, at_, vl_, if_neg c, nx i (by have := h.len; omega)]
      · rw [hm n, all_step hlt]
        exact ⟨fun ⟨x, y⟩ => ⟨x, fun h' => absurd h' c, y⟩, fun ⟨x, y, z⟩ => ⟨x, z⟩⟩
theorem rmost_ev {l : List St} (h : Right l) {f t : Int} (h0 : 0 ≤ f) (h1 : f < t) : ∃ m, Ev (fun k => bailiwickref03_Most.f k l f t) m ∧ IsMost l f t m := by
  obtain ⟨m, hev, hm⟩ := rmost_loop h f t l.length 0 (val l f) (by omega) (by omega)
  refine ⟨m, Ev.bind (rat_ev h h0) hev, fun n => ?_⟩
  rw [hm n, span_iff2 h.toNorm h0 h1 (fun v => v ≤ n)]
theorem give_over {l : List St} (h : Right l) {f t n : Int} (hn : amt n) : ∀ (d i : Nat), l.length - i = d → i ≤ l.length → (∃ j, i ≤ j ∧ j < l.length ∧ At l j < t ∧ 1048576 < Vl l j + n) → Ev (fun k => step_Give.l0 k l f t n (i : Int)) (l, 9)
  | 0, i, hd, hi, ⟨j, h1, h2, _⟩ => by omega
  | d + 1, i, hd, hi, ⟨j, h1, h2, h3, h4⟩ => by
    have hlt : i < l.length := by omega
    have q1 : (i : Int) < (l.length : Int) := by omega
    have q2 : (0 : Int) ≤ (i : Int) := by omega
    have hle := h.le h1 h2
    have c : At l i < t := by omega
    have hv := h.amts i hlt
    have hn' := hn
    unfold amt at hv hn'
    have e : wrap64 (Vl l i + n) = Vl l i + n := w64 (by omega) (by omega)
    by_cases c1 : Vl l i + n > 1048576
    · refine Ev.step (f := fun k => step_Give.j2 k l f t n (i : Int) true) (fun k => ?_) (Ev.step (f := fun _ => some (l, 9)) (fun k => ?_) (Ev.now _))
      · simp only [step_Give.l0, if_pos q1, if_pos q2, at_, decide_eq_true c]
      · simp only [step_Give.j2, if_true, if_pos q1, if_pos q2, vl_, e, if_pos c1, clone_ev (l := l) (by have := h.len; omega), Option.bind_some]
    · have hne : i ≠ j := fun e => by subst e; omega
      refine Ev.step (f := fun k => step_Give.j2 k l f t n (i : Int) true) (fun k => ?_) (Ev.step (fun k => ?_) (give_over (f := f) h hn d (i + 1) (by omega) (by omega) ⟨j, by omega, h2, h3, h4⟩))
      · simp only [step_Give.l0, if_pos q1, if_pos q2, at_, decide_eq_true c]
      · simp only [step_Give.j2, if_true, if_pos q1, if_pos q2, vl_, e, if_neg c1, nx i (by have := h.len; omega)]
theorem give_cases (l : List St) (f t n : Int) (hl : l.length ≤ 1000) :
    (¬ TakeOk l f t n ∧ Ev (fun k => step_Give.f k l f t n) (l, 1)) ∨
    (TakeOk l f t n ∧ (¬ ∀ x, f ≤ x → x < t → val l x + n ≤ 1048576) ∧ Ev (fun k => step_Give.f k l f t n) (l, 9)) ∨
    (TakeOk l f t n ∧ (∀ x, f ≤ x → x < t → val l x + n ≤ 1048576) ∧ Ev (fun k => step_Give.f k l f t n) (chg l f t n, 0)) := by
  have no : ∀ b, b = true → Ev (fun k => step_Give.j0 k l f t n b) (l, 1) := by
    rintro _ rfl
    exact Ev.step (f := fun _ => some (l, 1)) (fun k => by simp only [step_Give.j0, if_true, clone_ev (l := l) (by omega), Option.bind_some]) (Ev.now _)
  by_cases c0 : May l f t
  · by_cases c1 : amt n
    · by_cases c2 : ∀ x, f ≤ x → x < t → val l x + n ≤ 1048576
      · exact .inr (.inr ⟨⟨c0, c1⟩, c2, give_ev ⟨c0, c1⟩ c2 (by have := chg_len c0.1.toNorm c0.2.1 c0.2.2.1 (n := n); omega)⟩)
      · refine .inr (.inl ⟨⟨c0, c1⟩, c2, ?_⟩)
        refine Ev.bind (may_yes c0) ?_
        simp only [if_true, samt, Option.bind_some, decide_eq_true c1, Bool.not_true]
        refine Ev.step (f := fun k => (step_place.f k l f).bind fun i => step_Give.l0 k l f t n i) (fun k => ?_) (Ev.bind (place_ev c0.1 c0.2.1) ?_)
        · simp only [step_Give.j0, Bool.false_eq_true, if_false]
        · refine give_over c0.1 c1 _ (pl l f) rfl (by have := (pl_spec c0.1.toNorm c0.2.1).1; omega) ?_
          rw [span_iff c0.1.toNorm c0.2.1 c0.2.2.1 (fun v => v + n ≤ 1048576)] at c2
          refine Classical.byContradiction fun hc => c2 fun j h1 h2 h3 => ?_
          rcases Int.lt_or_le 1048576 (Vl l j + n) with q | q
          · exact absurd ⟨j, h1, h2, h3, q⟩ hc
          · exact q
    · refine .inl ⟨fun h => c1 h.2, Ev.bind (may_yes c0) ?_⟩
      simp only [if_true, samt, Option.bind_some, decide_eq_false c1, Bool.not_false]
      exact no _ rfl
  · refine .inl ⟨fun h => c0 h.1, Ev.bind (may_no c0) ?_⟩
    simp only [Bool.false_eq_true, if_false]
    exact no _ rfl
end Go.Proofs.Ytimllhflecippaa.StepR
end

section
namespace Go.Proofs.Ytimllhflecippaa.StepA
open Go.RowKit Go.Proofs.YtimllhflecippaaW.PrintWords Go.Proofs.YtimllhflecippaaW.PrintMore Go.Proofs.Ytimllhflecippaa.F Go.Proofs.Ytimllhflecippaa.Pk Go.Proofs.Ytimllhflecippaa.StepP Go.Proofs.Ytimllhflecippaa.StepQ
theorem awake_ev : Ev (fun k => bailiwicklaw03_awake.f k) true := Ev.of bailiwicklaw03_awake.mono (k := 40) (by decide +kernel)
end Go.Proofs.Ytimllhflecippaa.StepA
end
