/- The law StepTwice holds for every input: its pure statement (YtimllhflecippaaPureStepTwice) and the walk of its code give the given row. No condition. -/
import Derived.Test.YtimllhflecippaaRows
import Derived.Test.YtimllhflecippaaF10
import Derived.Test.YtimllhflecippaaPureStepTwice
import Derived.Test.YtimllhflecippaaOpen
import Derived.WalkKit
import Derived.ProofKit
import Derived.OpenShut
import Derived.ShutString
import Derived.ChangeOld
import Derived.Below
import Derived.SizedLaws
namespace Go.Proofs.Ytimllhflecippaa.stepTwice
open Go.ChangeShapes Go.WideShapes Go.ChangeAt Go.RowKit
open Go.ChangeMaps (open_string shut_string)
open Go.Proofs.YtimllhflecippaaW.PrintWords Go.Proofs.Ytimllhflecippaa.F
set_option linter.unusedVariables false
theorem own : ownKnob Try.prog.godebug = none := by kernel_rfl
theorem laidOut : laidOutB Try.prog = true := by kernel_rfl
theorem opens0 : Op.Opens Try.prog 22 (Kd.slice 45 k45) (fun x_ => (x_.length * 16 ≤ 140737488351232 ∧ x_.length ≤ maxLen ∧ ∀ x0_ ∈ x_, (((Lit.int .i64 x0_.f0).wf = true) ∧ ((Lit.int .i64 x0_.f1).wf = true)))) := (Op.opens_slice 16 Try.underlying22 (by kernel_rfl) (by kernel_rfl) (Op.opens_struct (P := Try.prog) (t := 45) (G := fun y : (Int) × (Int) => ((Lit.int .i64 y.1).wf = true) ∧ ((Lit.int .i64 y.2).wf = true)) (fun y => (⟨y.1, y.2⟩ : S45)) (fun _ => rfl) (ht := Try.underlying45) (by kernel_rfl) (Op.opensF_cons (G := fun y : Int => (Lit.int .i64 y).wf = true) (G' := fun y : (Int) => ((Lit.int .i64 y).wf = true)) rfl (Op.opens_int Try.underlying2 (by kernel_rfl)) (Op.opensF_one (G := fun y : (Int) => ((Lit.int .i64 y).wf = true)) rfl (Op.opens_int Try.underlying3 (by kernel_rfl)))))).weaken (fun _ h_ => h_)
set_option maxHeartbeats 1600000 in
set_option maxRecDepth 100000 in
theorem lifted (os : Os) (started : os.Started) (H : Type) (enc : TypeId × Value → H) :
    ReturnsInHanded {} Try.checked os 5 .any (Rows.stepTwiceSpec.pre6 enc Try.prog Try.f5 Rows.stepTwiceRow.domain false) (Rows.stepTwiceSpec.post enc Try.prog Try.f5 false true false false) := by
  refine returnsInHanded_of_change_sized (C := Try.checked) own started (by kernel_rfl) Try.func5
    (ChangeSpec.witness6 (enc := enc) (C := Try.checked) false ⟨#[], #[(.slice none 0 0), (.int .i64 0), (.int .i64 0), (.int .i64 0), (.int .i64 0), (.int .i64 0)], []⟩ 8 (by kernel_rfl) (by kernel_rfl) (by kernel_rfl) (by kernel_rfl)) ?_
  intro W base args ds gs before hval0 hW hcnd hsz0 _
  have hsz : (DataW.weightsEach Try.prog (Try.f5.params.toList ++ Rows.stepTwiceSpec.plain.varTypes Try.prog) (ds ++ gs)).all (· ≤ reachBytes) = true := hsz0
  have hval : ∀ (j : Nat) t v, Try.f5.params[j]? = some t → args[j]? = some v → Value.okWide Try.prog W .any base t v := hval0
  have hW' := hW
  obtain ⟨p, q, hA0, hV, rfl, hfz, hnd⟩ := hW
  have hA : DataW.TrodAll enc Try.prog W 0 (fun _ => true) true Try.f5.params.toList args.toList ds p := hA0
  rw [Try.params5] at hA hval hsz
  obtain ⟨v0, vs0, d0, ds0, p0, q0, hargs, rfl, rfl, h0, r0⟩ := trodAll_cons hA
  obtain ⟨v1, vs1, d1, ds1, p1, q1, rfl, rfl, rfl, h1, r1⟩ := trodAll_cons r0
  obtain ⟨v2, vs2, d2, ds2, p2, q2, rfl, rfl, rfl, h2, r2⟩ := trodAll_cons r1
  obtain ⟨v3, vs3, d3, ds3, p3, q3, rfl, rfl, rfl, h3, r3⟩ := trodAll_cons r2
  obtain ⟨v4, vs4, d4, ds4, p4, q4, rfl, rfl, rfl, h4, r4⟩ := trodAll_cons r3
  obtain ⟨v5, vs5, d5, ds5, p5, q5, rfl, rfl, rfl, h5, r5⟩ := trodAll_cons r4
  obtain ⟨rfl, rfl, rfl⟩ := trodAll_nil r5
  obtain rfl : args = #[v0, v1, v2, v3, v4, v5] := by cases args; simp_all
  obtain ⟨rfl, rfl⟩ := trodVars_none hV
  have k0 := h0
  have lt0 : ∀ x ∈ p0, x.block < W.heap.size := by obtain ⟨m, hm⟩ := k0; exact DataW.trod_lt m _ _ _ hm
  obtain ⟨a0, len0, cap0, rfl⟩ := okWide_slice Try.underlying22 (hval 0 22 v0 rfl rfl)
  obtain ⟨l0, rfl, c0, C0, G0⟩ := Op.open_param_slice opens0 hsz (j := 0) (t := 22) rfl rfl h0
  obtain ⟨a1, rfl, rfl, rfl, w1⟩ := open_int Try.underlying2 (hval 1 2 v1 rfl rfl) h1
  obtain ⟨a2, rfl, rfl, rfl, w2⟩ := open_int Try.underlying2 (hval 2 2 v2 rfl rfl) h2
  obtain ⟨a3, rfl, rfl, rfl, w3⟩ := open_int Try.underlying2 (hval 3 2 v3 rfl rfl) h3
  obtain ⟨a4, rfl, rfl, rfl, w4⟩ := open_int Try.underlying3 (hval 4 3 v4 rfl rfl) h4
  obtain ⟨a5, rfl, rfl, rfl, w5⟩ := open_int Try.underlying3 (hval 5 3 v5 rfl rfl) h5
  obtain ⟨k_, hk_⟩ := Pure.StepTwice l0 a1 a2 a3 a4 a5 G0 w1 w2 w3 w4 w5
  clear hA0 hval0 hsz0 hsz
  refine (bailiwicklaw03_StepTwice.calls k_ _ _ l0 a1 a2 a3 a4 a5 true W C0 c0 hk_).mono fun e W' ⟨he, bel0⟩ => ?_
  have bel : Below W.heap.size W W' := bel0
  subst he
  exact ⟨_, rfl, _, _, _, [], _, [], hW', trodAll_mk1 (shut_bool Try.underlying4 _), (trodAll_cons_mk (Below.trod laidOut (by kernel_rfl) (of_decide_eq_true (by kernel_rfl)) k0 bel lt0) (trodAll_cons_mk (shut_int Try.underlying2 w1) (trodAll_cons_mk (shut_int Try.underlying2 w2) (trodAll_cons_mk (shut_int Try.underlying2 w3) (trodAll_cons_mk (shut_int Try.underlying3 w4) (trodAll_cons_mk (shut_int Try.underlying3 w5) trodAll_mk0)))))), rfl, bel.frame _, fun h => by cases h⟩
theorem over : Rows.stepTwiceRow.holds Try.pinned (OpenSpec.ofChange Rows.stepTwiceSpec) :=
  OpenClaim.holds_of_wide 5 Try.f5 rfl rfl rfl rfl rfl rfl rfl ⟨rfl, rfl, rfl, rfl, rfl⟩ rfl rfl rfl rfl rfl (by kernel_rfl) Try.func5 (by kernel_rfl)
    (of_decide_eq_true (by kernel_rfl)) (by unfold Func.isWrapper; first | (rw [if_pos (by decide +kernel)]; kernel_rfl) | (rw [if_neg (by decide +kernel)]; exact ⟨rfl, rfl⟩))
    (fun os started H enc _ => lifted os started H enc)
theorem proved : Rows.StepTwiceSaid := over
#print axioms proved
end Go.Proofs.Ytimllhflecippaa.stepTwice
namespace Go.Proofs.Ytimllhflecippaa
/-- The row, under a short name, for the claim. -/
theorem stepTwice_holds : Rows.StepTwiceSaid := stepTwice.proved
end Go.Proofs.Ytimllhflecippaa
