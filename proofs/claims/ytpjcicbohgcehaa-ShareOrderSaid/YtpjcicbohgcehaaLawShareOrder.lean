/- The law ShareOrder holds for every input: what its contract tells (YtpjcicbohgcehaaPureShareOrder), and the opening of its arguments, give the given row. No condition. -/
import Derived.Test.YtpjcicbohgcehaaRows
import Derived.Test.YtpjcicbohgcehaaAb3
import Derived.Test.YtpjcicbohgcehaaAbRf
import Derived.Test.YtpjcicbohgcehaaPureShareOrder
import Derived.WalkKit
import Derived.ProofKit
import Derived.OpenShut
import Derived.ShutString
import Derived.ChangeOld
import Derived.Below
import Derived.SizedLaws
namespace Go.Proofs.Ytpjcicbohgcehaa.shareOrder
open Go.ChangeShapes Go.WideShapes Go.ChangeAt Go.RowKit Go.Proofs.Ytpjcicbohgcehaa.Ab
open Go.ChangeMaps (open_string shut_string)
set_option linter.unusedVariables false
theorem own : ownKnob Try.prog.godebug = none := by kernel_rfl
theorem laidOut : laidOutB Try.prog = true := by kernel_rfl
set_option maxRecDepth 100000 in
theorem opens0 : Opens Try.prog 22 (fun l : List (Ab.Use) => SV.lst (l.map Ab.useSV)) (fun xs : List (Ab.Use) => xs.length * 24 ≤ 140737488351232 ∧ xs.length ≤ maxLen ∧ ∀ x ∈ xs, Ab.UseOk x) := (opens_slice 24 Try.underlying22 (by kernel_rfl) (by kernel_rfl) (opens_struct (fun p : Int × Nat × Nat × Unit => (⟨p.1, p.2.1, p.2.2.1⟩ : Ab.Use)) (f := Ab.useSV) (fun _ => rfl) Ab.UseOk (fun p h => Ab.UseOk_mk h) Try.underlying33 (by kernel_rfl) (of_decide_eq_true (by kernel_rfl)) (opensF_cons rfl (fun _ => rfl) (opens_int Try.underlying3 (by kernel_rfl)) (by kernel_rfl) (opensF_cons rfl (fun _ => rfl) (opens_flt Try.underlying30 (by kernel_rfl)) (by kernel_rfl) (opensF_cons rfl (fun _ => rfl) (opens_flt Try.underlying30 (by kernel_rfl)) (by kernel_rfl) (opensF_nil (off := 3)))))))
set_option maxHeartbeats 1600000 in
set_option maxRecDepth 100000 in
theorem lifted (os : Os) (started : os.Started) (H : Type) (enc : TypeId × Value → H) :
    ReturnsInHanded {} Try.checked os 4 .any (Rows.shareOrderSpec.pre6 enc Try.prog Try.f4 Rows.shareOrderRow.domain false) (Rows.shareOrderSpec.post enc Try.prog Try.f4 false true false false) := by
  refine returnsInHanded_of_change_sized (C := Try.checked) own started (by kernel_rfl) Try.func4
    (ChangeSpec.witness6 (enc := enc) (C := Try.checked) false ⟨#[], #[.slice none 0 0], []⟩ 8 (by kernel_rfl) (by kernel_rfl) (by kernel_rfl) (by kernel_rfl)) ?_
  intro W base args ds gs before hval0 hW hcnd hsz0 _
  have hsz : (DataW.weightsEach Try.prog (Try.f4.params.toList ++ Rows.shareOrderSpec.plain.varTypes Try.prog) (ds ++ gs)).all (· ≤ reachBytes) = true := hsz0
  have hval : ∀ (j : Nat) t v, Try.f4.params[j]? = some t → args[j]? = some v → Value.okWide Try.prog W .any base t v := hval0
  have hW' := hW
  obtain ⟨p, q, hA0, hV, rfl, hfz, hnd⟩ := hW
  have hA : DataW.TrodAll enc Try.prog W 0 (fun _ => true) true Try.f4.params.toList args.toList ds p := hA0
  rw [Try.params4] at hA hval hsz
  obtain ⟨v0, vs0, d0, ds0, p0, q0, hargs, rfl, rfl, h0, r0⟩ := trodAll_cons hA
  obtain ⟨rfl, rfl, rfl⟩ := trodAll_nil r0
  obtain rfl : args = #[v0] := by cases args; simp_all
  obtain ⟨rfl, rfl⟩ := trodVars_none hV
  have k0 := h0
  have lt0 : ∀ x ∈ p0, x.block < W.heap.size := by obtain ⟨m, hm⟩ := k0; exact DataW.trod_lt m _ _ _ hm
  obtain ⟨a0, len0, cap0, rfl⟩ := okWide_slice Try.underlying22 (hval 0 22 v0 rfl rfl)
  obtain ⟨y0, R0, G0⟩ := open_param opens0 (.inl rfl) (fun y => ⟨(fun ⟨_, h⟩ => by cases h), (fun ⟨_, h⟩ => by cases h)⟩) (fun _ => rfl) hsz (j := 0) (t := 22) rfl rfl h0
  clear hA0 hval0 hsz0 hsz
  refine (law_calls (law_ShareOrder y0 G0) (fun _ _ => Try.call4 _ _) (fun r hr => hr) (cargs := #[_]) (fun _ _ h => by cases h) (RepL.cons R0 RepL.nil)).mono fun e W' ⟨he, bel⟩ => ?_
  subst he
  exact ⟨_, rfl, _, _, _, [], _, [], hW', trodAll_mk1 (shut_bool Try.underlying4 _), (trodAll_cons_mk (Below.trod laidOut (by kernel_rfl) (of_decide_eq_true (by kernel_rfl)) k0 bel lt0) trodAll_mk0), rfl, bel.frame _, fun h => by cases h⟩
theorem over : Rows.shareOrderRow.holds Try.pinned (OpenSpec.ofChange Rows.shareOrderSpec) :=
  OpenClaim.holds_of_wide 4 Try.f4 rfl rfl rfl rfl rfl rfl rfl ⟨rfl, rfl, rfl, rfl, rfl⟩ rfl rfl rfl rfl rfl (by kernel_rfl) Try.func4 (by kernel_rfl)
    (of_decide_eq_true (by kernel_rfl)) (by unfold Func.isWrapper; first | (rw [if_pos (by decide +kernel)]; kernel_rfl) | (rw [if_neg (by decide +kernel)]; exact ⟨rfl, rfl⟩))
    (fun os started H enc _ => lifted os started H enc)
theorem proved : Rows.ShareOrderSaid := over
#print axioms proved
end Go.Proofs.Ytpjcicbohgcehaa.shareOrder
namespace Go.Proofs.Ytpjcicbohgcehaa
/-- The row, under a short name, for the claim. -/
theorem shareOrder_holds : Rows.ShareOrderSaid := shareOrder.proved
end Go.Proofs.Ytpjcicbohgcehaa
