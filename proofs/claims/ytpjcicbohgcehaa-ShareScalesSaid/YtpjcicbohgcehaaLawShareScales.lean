/- The law ShareScales holds for every input: what its contract tells (YtpjcicbohgcehaaPureShareScales), and the opening of its arguments, give the given row. No condition. -/
import Derived.Test.YtpjcicbohgcehaaRows
import Derived.Test.YtpjcicbohgcehaaAb3
import Derived.Test.YtpjcicbohgcehaaAbRf
import Derived.Test.YtpjcicbohgcehaaPureShareScales
import Derived.WalkKit
import Derived.ProofKit
import Derived.OpenShut
import Derived.ShutString
import Derived.ChangeOld
import Derived.Below
import Derived.SizedLaws
namespace Go.Proofs.Ytpjcicbohgcehaa.shareScales
open Go.ChangeShapes Go.WideShapes Go.ChangeAt Go.RowKit Go.Proofs.Ytpjcicbohgcehaa.Ab
open Go.ChangeMaps (open_string shut_string)
set_option linter.unusedVariables false
theorem own : ownKnob Try.prog.godebug = none := by kernel_rfl
theorem laidOut : laidOutB Try.prog = true := by kernel_rfl
set_option maxRecDepth 100000 in
theorem opens3 : Opens Try.prog 22 (fun l : List (Ab.Use) => SV.lst (l.map Ab.useSV)) (fun xs : List (Ab.Use) => xs.length * 24 ≤ 140737488351232 ∧ xs.length ≤ maxLen ∧ ∀ x ∈ xs, Ab.UseOk x) := (opens_slice 24 Try.underlying22 (by kernel_rfl) (by kernel_rfl) (opens_struct (fun p : Int × Nat × Nat × Unit => (⟨p.1, p.2.1, p.2.2.1⟩ : Ab.Use)) (f := Ab.useSV) (fun _ => rfl) Ab.UseOk (fun p h => Ab.UseOk_mk h) Try.underlying33 (by kernel_rfl) (of_decide_eq_true (by kernel_rfl)) (opensF_cons rfl (fun _ => rfl) (opens_int Try.underlying3 (by kernel_rfl)) (by kernel_rfl) (opensF_cons rfl (fun _ => rfl) (opens_flt Try.underlying30 (by kernel_rfl)) (by kernel_rfl) (opensF_cons rfl (fun _ => rfl) (opens_flt Try.underlying30 (by kernel_rfl)) (by kernel_rfl) (opensF_nil (off := 3)))))))
set_option maxHeartbeats 1600000 in
set_option maxRecDepth 100000 in
theorem lifted (os : Os) (started : os.Started) (H : Type) (enc : TypeId × Value → H) :
    ReturnsInHanded {} Try.checked os 5 .any (Rows.shareScalesSpec.pre6 enc Try.prog Try.f5 Rows.shareScalesRow.domain false) (Rows.shareScalesSpec.post enc Try.prog Try.f5 false true false false) := by
  refine returnsInHanded_of_change_sized (C := Try.checked) own started (by kernel_rfl) Try.func5
    (ChangeSpec.witness6 (enc := enc) (C := Try.checked) false ⟨#[], #[.int .u32 0, .int .u32 0, .int .u32 0, .slice none 0 0, .int .i64 0], []⟩ 8 (by kernel_rfl) (by kernel_rfl) (by kernel_rfl) (by kernel_rfl)) ?_
  intro W base args ds gs before hval0 hW hcnd hsz0 _
  have hsz : (DataW.weightsEach Try.prog (Try.f5.params.toList ++ Rows.shareScalesSpec.plain.varTypes Try.prog) (ds ++ gs)).all (· ≤ reachBytes) = true := hsz0
  have hval : ∀ (j : Nat) t v, Try.f5.params[j]? = some t → args[j]? = some v → Value.okWide Try.prog W .any base t v := hval0
  have hW' := hW
  obtain ⟨p, q, hA0, hV, rfl, hfz, hnd⟩ := hW
  have hA : DataW.TrodAll enc Try.prog W 0 (fun _ => true) true Try.f5.params.toList args.toList ds p := hA0
  rw [Try.params5] at hA hval hsz
  obtain ⟨v0, vs0, d0, ds0, p0, q0, hargs, rfl, rfl, h0, r0⟩ := trodAll_cons hA
  obtain ⟨v1, vs1, d1, ds1, p1, q1, rfl, rfl, rfl, h1, r1⟩ := trodAll_cons r0
  obtain ⟨v2, vs2, d2, ds2, p2, q2, rfl, rfl, rfl, h2, r2⟩ := trodAll_cons r1
  obtain ⟨v3, vs3, d3, ds3, p3, q3, rfl, rfl, rfl, h3, r3⟩ := trodAll_cons r2
  obtain ⟨v4, vs4, d4, ds4, p4, q4, rfl, rfl, rfl, h4, r4⟩ := trodAll_cons r3
  obtain ⟨rfl, rfl, rfl⟩ := trodAll_nil r4
  obtain rfl : args = #[v0, v1, v2, v3, v4] := by cases args; simp_all
  obtain ⟨rfl, rfl⟩ := trodVars_none hV
  obtain ⟨y0, rfl, rfl, rfl, G0⟩ := open_int Try.underlying35 (hval 0 35 v0 rfl rfl) h0
  obtain ⟨y1, rfl, rfl, rfl, G1⟩ := open_int Try.underlying35 (hval 1 35 v1 rfl rfl) h1
  obtain ⟨y2, rfl, rfl, rfl, G2⟩ := open_int Try.underlying35 (hval 2 35 v2 rfl rfl) h2
  have k3 := h3
  have lt3 : ∀ x ∈ p3, x.block < W.heap.size := by obtain ⟨m, hm⟩ := k3; exact DataW.trod_lt m _ _ _ hm
  obtain ⟨a3, len3, cap3, rfl⟩ := okWide_slice Try.underlying22 (hval 3 22 v3 rfl rfl)
  obtain ⟨y3, R3, G3⟩ := open_param opens3 (.inl rfl) (fun y => ⟨(fun ⟨_, h⟩ => by cases h), (fun ⟨_, h⟩ => by cases h)⟩) (fun _ => rfl) hsz (j := 3) (t := 22) rfl rfl h3
  obtain ⟨y4, rfl, rfl, rfl, G4⟩ := open_int Try.underlying3 (hval 4 3 v4 rfl rfl) h4
  clear hA0 hval0 hsz0 hsz
  refine (law_calls (law_ShareScales y0 y1 y2 y3 y4 G0 G1 G2 G3 G4) (fun _ _ => Try.call5 _ _) (fun r hr => hr) (cargs := #[_, _, _, _, _]) (fun _ _ h => by cases h) (RepL.cons (by simp only [RepS]) (RepL.cons (by simp only [RepS]) (RepL.cons (by simp only [RepS]) (RepL.cons R3 (RepL.cons (by simp only [iv, RepS]) RepL.nil)))))).mono fun e W' ⟨he, bel⟩ => ?_
  subst he
  exact ⟨_, rfl, _, _, _, [], _, [], hW', trodAll_mk1 (shut_bool Try.underlying4 _), (trodAll_cons_mk (shut_int Try.underlying35 G0) (trodAll_cons_mk (shut_int Try.underlying35 G1) (trodAll_cons_mk (shut_int Try.underlying35 G2) (trodAll_cons_mk (Below.trod laidOut (by kernel_rfl) (of_decide_eq_true (by kernel_rfl)) k3 bel lt3) (trodAll_cons_mk (shut_int Try.underlying3 G4) trodAll_mk0))))), rfl, bel.frame _, fun h => by cases h⟩
theorem over : Rows.shareScalesRow.holds Try.pinned (OpenSpec.ofChange Rows.shareScalesSpec) :=
  OpenClaim.holds_of_wide 5 Try.f5 rfl rfl rfl rfl rfl rfl rfl ⟨rfl, rfl, rfl, rfl, rfl⟩ rfl rfl rfl rfl rfl (by kernel_rfl) Try.func5 (by kernel_rfl)
    (of_decide_eq_true (by kernel_rfl)) (by unfold Func.isWrapper; first | (rw [if_pos (by decide +kernel)]; kernel_rfl) | (rw [if_neg (by decide +kernel)]; exact ⟨rfl, rfl⟩))
    (fun os started H enc _ => lifted os started H enc)
theorem proved : Rows.ShareScalesSaid := over
#print axioms proved
end Go.Proofs.Ytpjcicbohgcehaa.shareScales
namespace Go.Proofs.Ytpjcicbohgcehaa
/-- The row, under a short name, for the claim. -/
theorem shareScales_holds : Rows.ShareScalesSaid := shareScales.proved
end Go.Proofs.Ytpjcicbohgcehaa
