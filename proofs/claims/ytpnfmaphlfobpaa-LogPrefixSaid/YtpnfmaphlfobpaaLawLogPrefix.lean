/- The law LogPrefix holds for every input: its pure statement (YtpnfmaphlfobpaaPureLogPrefix) and the walk of its code give the given row. No condition. -/
import Derived.Test.YtpnfmaphlfobpaaRows
import Derived.Test.YtpnfmaphlfobpaaF4
import Derived.Test.YtpnfmaphlfobpaaPureLogPrefix
import Derived.Test.YtpnfmaphlfobpaaOpen
import Derived.WalkKit
import Derived.ProofKit
import Derived.OpenShut
import Derived.ShutString
import Derived.ChangeOld
import Derived.Below
import Derived.SizedLaws
namespace Go.Proofs.Ytpnfmaphlfobpaa.logPrefix
open Go.ChangeShapes Go.WideShapes Go.ChangeAt Go.RowKit
open Go.ChangeMaps (open_string shut_string)
open Go.Proofs.YtpnfmaphlfobpaaW.PrintWords Go.Proofs.Ytpnfmaphlfobpaa.F
set_option linter.unusedVariables false
theorem own : ownKnob Try.prog.godebug = none := by kernel_rfl
theorem laidOut : laidOutB Try.prog = true := by kernel_rfl
theorem opens0 : Op.Opens Try.prog 22 (Kd.slice 24 (Kd.slice 5 (Kd.int .u8))) (fun x_ => (x_.length * 24 ≤ 140737488351232 ∧ x_.length ≤ maxLen ∧ ∀ x0_ ∈ x_, (x0_.length * 1 ≤ 140737488351232 ∧ x0_.length ≤ maxLen ∧ ∀ x1_ ∈ x0_, (Lit.int .u8 x1_).wf = true))) := (Op.opens_slice 24 Try.underlying22 (by kernel_rfl) (by kernel_rfl) (Op.opens_slice 1 Try.underlying24 (by kernel_rfl) (by kernel_rfl) (Op.opens_int Try.underlying5 (by kernel_rfl)))).weaken (fun _ h_ => h_)
theorem opens2 : Op.Opens Try.prog 24 (Kd.slice 5 (Kd.int .u8)) (fun x_ => (x_.length * 1 ≤ 140737488351232 ∧ x_.length ≤ maxLen ∧ ∀ x0_ ∈ x_, (Lit.int .u8 x0_).wf = true)) := (Op.opens_slice 1 Try.underlying24 (by kernel_rfl) (by kernel_rfl) (Op.opens_int Try.underlying5 (by kernel_rfl))).weaken (fun _ h_ => h_)
set_option maxHeartbeats 1600000 in
set_option maxRecDepth 100000 in
theorem lifted (os : Os) (started : os.Started) (H : Type) (enc : TypeId × Value → H) :
    ReturnsInHanded {} Try.checked os 3 .any (Rows.logPrefixSpec.pre6 enc Try.prog Try.f3 Rows.logPrefixRow.domain false) (Rows.logPrefixSpec.post enc Try.prog Try.f3 false true false false) := by
  refine returnsInHanded_of_change_sized (C := Try.checked) own started (by kernel_rfl) Try.func3
    (ChangeSpec.witness6 (enc := enc) (C := Try.checked) false ⟨#[], #[(.slice none 0 0), (.int .u16 0), (.slice none 0 0)], []⟩ 8 (by kernel_rfl) (by kernel_rfl) (by kernel_rfl) (by kernel_rfl)) ?_
  intro W base args ds gs before hval0 hW hcnd hsz0 _
  have hsz : (DataW.weightsEach Try.prog (Try.f3.params.toList ++ Rows.logPrefixSpec.plain.varTypes Try.prog) (ds ++ gs)).all (· ≤ reachBytes) = true := hsz0
  have hval : ∀ (j : Nat) t v, Try.f3.params[j]? = some t → args[j]? = some v → Value.okWide Try.prog W .any base t v := hval0
  have hW' := hW
  obtain ⟨p, q, hA0, hV, rfl, hfz, hnd⟩ := hW
  have hA : DataW.TrodAll enc Try.prog W 0 (fun _ => true) true Try.f3.params.toList args.toList ds p := hA0
  rw [Try.params3] at hA hval hsz
  obtain ⟨v0, vs0, d0, ds0, p0, q0, hargs, rfl, rfl, h0, r0⟩ := trodAll_cons hA
  obtain ⟨v1, vs1, d1, ds1, p1, q1, rfl, rfl, rfl, h1, r1⟩ := trodAll_cons r0
  obtain ⟨v2, vs2, d2, ds2, p2, q2, rfl, rfl, rfl, h2, r2⟩ := trodAll_cons r1
  obtain ⟨rfl, rfl, rfl⟩ := trodAll_nil r2
  obtain rfl : args = #[v0, v1, v2] := by cases args; simp_all
  obtain ⟨rfl, rfl⟩ := trodVars_none hV
  have k0 := h0
  have lt0 : ∀ x ∈ p0, x.block < W.heap.size := by obtain ⟨m, hm⟩ := k0; exact DataW.trod_lt m _ _ _ hm
  obtain ⟨a0, len0, cap0, rfl⟩ := okWide_slice Try.underlying22 (hval 0 22 v0 rfl rfl)
  obtain ⟨l0, rfl, c0, C0, G0⟩ := Op.open_param_slice opens0 hsz (j := 0) (t := 22) rfl rfl h0
  obtain ⟨a1, rfl, rfl, rfl, w1⟩ := open_int Try.underlying23 (hval 1 23 v1 rfl rfl) h1
  have k2 := h2
  have lt2 : ∀ x ∈ p2, x.block < W.heap.size := by obtain ⟨m, hm⟩ := k2; exact DataW.trod_lt m _ _ _ hm
  obtain ⟨a2, len2, cap2, rfl⟩ := okWide_slice Try.underlying24 (hval 2 24 v2 rfl rfl)
  obtain ⟨l2, rfl, c2, C2, G2⟩ := Op.open_param_slice opens2 hsz (j := 2) (t := 24) rfl rfl h2
  obtain ⟨k_, hk_⟩ := Pure.LogPrefix l0 a1 l2 G0 w1 G2
  clear hA0 hval0 hsz0 hsz
  refine (bailiwicklaw20_LogPrefix.calls k_ _ _ l0 a1 _ _ l2 true W C0 c0 C2 c2 hk_).mono fun e W' ⟨he, bel0⟩ => ?_
  have bel : Below W.heap.size W W' := bel0
  subst he
  exact ⟨_, rfl, _, _, _, [], _, [], hW', trodAll_mk1 (shut_bool Try.underlying4 _), (trodAll_cons_mk (Below.trod laidOut (by kernel_rfl) (of_decide_eq_true (by kernel_rfl)) k0 bel lt0) (trodAll_cons_mk (shut_int Try.underlying23 w1) (trodAll_cons_mk (Below.trod laidOut (by kernel_rfl) (of_decide_eq_true (by kernel_rfl)) k2 bel lt2) trodAll_mk0))), rfl, bel.frame _, fun h => by cases h⟩
theorem over : Rows.logPrefixRow.holds Try.pinned (OpenSpec.ofChange Rows.logPrefixSpec) :=
  OpenClaim.holds_of_wide 3 Try.f3 rfl rfl rfl rfl rfl rfl rfl ⟨rfl, rfl, rfl, rfl, rfl⟩ rfl rfl rfl rfl rfl (by kernel_rfl) Try.func3 (by kernel_rfl)
    (of_decide_eq_true (by kernel_rfl)) (by unfold Func.isWrapper; first | (rw [if_pos (by decide +kernel)]; kernel_rfl) | (rw [if_neg (by decide +kernel)]; exact ⟨rfl, rfl⟩))
    (fun os started H enc _ => lifted os started H enc)
theorem proved : Rows.LogPrefixSaid := over
#print axioms proved
end Go.Proofs.Ytpnfmaphlfobpaa.logPrefix
namespace Go.Proofs.Ytpnfmaphlfobpaa
/-- The row, under a short name, for the claim. -/
theorem logPrefix_holds : Rows.LogPrefixSaid := logPrefix.proved
end Go.Proofs.Ytpnfmaphlfobpaa
