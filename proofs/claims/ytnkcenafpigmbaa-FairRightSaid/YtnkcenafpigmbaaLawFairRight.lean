/- The law FairRight holds for every input: what its contract tells (YtnkcenafpigmbaaPureFairRight), and the opening of its arguments, give the given row. No condition. -/
import Derived.Test.YtnkcenafpigmbaaRows
import Derived.Test.YtnkcenafpigmbaaAb3
import Derived.Test.YtnkcenafpigmbaaAbRf
import Derived.Test.YtnkcenafpigmbaaPureFairRight
import Derived.WalkKit
import Derived.ProofKit
import Derived.OpenShut
import Derived.ShutString
import Derived.ChangeOld
import Derived.Below
import Derived.SizedLaws
namespace Go.Proofs.Ytnkcenafpigmbaa.fairRight
open Go.ChangeShapes Go.WideShapes Go.ChangeAt Go.RowKit Go.Proofs.Ytnkcenafpigmbaa.Ab
open Go.ChangeMaps (open_string shut_string)
set_option linter.unusedVariables false
theorem own : ownKnob Try.prog.godebug = none := by kernel_rfl
theorem laidOut : laidOutB Try.prog = true := by kernel_rfl
set_option maxRecDepth 100000 in
theorem opens0 : Opens Try.prog 22 (fun l : List (Ab.Job) => SV.lst (l.map Ab.jobSV)) (fun xs : List (Ab.Job) => xs.length * 128 ≤ 140737488351232 ∧ xs.length ≤ maxLen ∧ ∀ x ∈ xs, Ab.JobOk x) := (opens_slice 128 Try.underlying22 (by kernel_rfl) (by kernel_rfl) (opens_struct (fun p : Int × Ab.Spec × (List (Int)) × Int × Int × Int × Int × Unit => (⟨p.1, p.2.1, p.2.2.1, p.2.2.2.1, p.2.2.2.2.1, p.2.2.2.2.2.1, p.2.2.2.2.2.2.1⟩ : Ab.Job)) (f := Ab.jobSV) (fun _ => rfl) Ab.JobOk (fun p h => Ab.JobOk_mk h) Try.underlying30 (by kernel_rfl) (of_decide_eq_true (by kernel_rfl)) (opensF_cons rfl (fun _ => rfl) (opens_int Try.underlying3 (by kernel_rfl)) (by kernel_rfl) (opensF_cons rfl (fun _ => rfl) (opens_struct (fun p : Int × Int × Int × ByteArray × Bool × Int × Int × Unit => (⟨p.1, p.2.1, p.2.2.1, p.2.2.2.1, p.2.2.2.2.1, p.2.2.2.2.2.1, p.2.2.2.2.2.2.1⟩ : Ab.Spec)) (f := Ab.specSV) (fun _ => rfl) Ab.SpecOk (fun p h => Ab.SpecOk_mk h) Try.underlying27 (by kernel_rfl) (of_decide_eq_true (by kernel_rfl)) (opensF_cons rfl (fun _ => rfl) (opens_int Try.underlying3 (by kernel_rfl)) (by kernel_rfl) (opensF_cons rfl (fun _ => rfl) (opens_int Try.underlying3 (by kernel_rfl)) (by kernel_rfl) (opensF_cons rfl (fun _ => rfl) (opens_int Try.underlying3 (by kernel_rfl)) (by kernel_rfl) (opensF_cons rfl (fun _ => rfl) (opens_string Try.underlying9 (by kernel_rfl)) (by kernel_rfl) (opensF_cons rfl (fun _ => rfl) (opens_bool Try.underlying4 (by kernel_rfl)) (by kernel_rfl) (opensF_cons rfl (fun _ => rfl) (opens_int Try.underlying2 (by kernel_rfl)) (by kernel_rfl) (opensF_cons rfl (fun _ => rfl) (opens_int Try.underlying3 (by kernel_rfl)) (by kernel_rfl) (opensF_nil (off := 7)))))))))) (by kernel_rfl) (opensF_cons rfl (fun _ => rfl) (opens_slice 8 Try.underlying28 (by kernel_rfl) (by kernel_rfl) (opens_int Try.underlying3 (by kernel_rfl))) (by kernel_rfl) (opensF_cons rfl (fun _ => rfl) (opens_int Try.underlying3 (by kernel_rfl)) (by kernel_rfl) (opensF_cons rfl (fun _ => rfl) (opens_int Try.underlying2 (by kernel_rfl)) (by kernel_rfl) (opensF_cons rfl (fun _ => rfl) (opens_int Try.underlying2 (by kernel_rfl)) (by kernel_rfl) (opensF_cons rfl (fun _ => rfl) (opens_int Try.underlying2 (by kernel_rfl)) (by kernel_rfl) (opensF_nil (off := 13)))))))))))
set_option maxRecDepth 100000 in
theorem opens1 : Opens Try.prog 49 (fun l : List (Ab.Owned) => SV.lst (l.map Ab.ownedSV)) (fun xs : List (Ab.Owned) => xs.length * 16 ≤ 140737488351232 ∧ xs.length ≤ maxLen ∧ ∀ x ∈ xs, Ab.OwnedOk x) := (opens_slice 16 Try.underlying49 (by kernel_rfl) (by kernel_rfl) (opens_struct (fun p : Int × Int × Unit => (⟨p.1, p.2.1⟩ : Ab.Owned)) (f := Ab.ownedSV) (fun _ => rfl) Ab.OwnedOk (fun p h => Ab.OwnedOk_mk h) Try.underlying56 (by kernel_rfl) (of_decide_eq_true (by kernel_rfl)) (opensF_cons rfl (fun _ => rfl) (opens_int Try.underlying3 (by kernel_rfl)) (by kernel_rfl) (opensF_cons rfl (fun _ => rfl) (opens_int Try.underlying3 (by kernel_rfl)) (by kernel_rfl) (opensF_nil (off := 2))))))
set_option maxRecDepth 100000 in
theorem opens2 : Opens Try.prog 50 (fun l : List (Ab.Use) => SV.lst (l.map Ab.useSV)) (fun xs : List (Ab.Use) => xs.length * 24 ≤ 140737488351232 ∧ xs.length ≤ maxLen ∧ ∀ x ∈ xs, Ab.UseOk x) := (opens_slice 24 Try.underlying50 (by kernel_rfl) (by kernel_rfl) (opens_struct (fun p : Int × Nat × Nat × Unit => (⟨p.1, p.2.1, p.2.2.1⟩ : Ab.Use)) (f := Ab.useSV) (fun _ => rfl) Ab.UseOk (fun p h => Ab.UseOk_mk h) Try.underlying64 (by kernel_rfl) (of_decide_eq_true (by kernel_rfl)) (opensF_cons rfl (fun _ => rfl) (opens_int Try.underlying3 (by kernel_rfl)) (by kernel_rfl) (opensF_cons rfl (fun _ => rfl) (opens_flt Try.underlying61 (by kernel_rfl)) (by kernel_rfl) (opensF_cons rfl (fun _ => rfl) (opens_flt Try.underlying61 (by kernel_rfl)) (by kernel_rfl) (opensF_nil (off := 3)))))))
set_option maxHeartbeats 1600000 in
set_option maxRecDepth 100000 in
theorem lifted (os : Os) (started : os.Started) (H : Type) (enc : TypeId × Value → H) :
    ReturnsInHanded {} Try.checked os 7 .any (Rows.fairRightSpec.pre6 enc Try.prog Try.f7 Rows.fairRightRow.domain false) (Rows.fairRightSpec.post enc Try.prog Try.f7 false true false false) := by
  refine returnsInHanded_of_change_sized (C := Try.checked) own started (by kernel_rfl) Try.func7
    (ChangeSpec.witness6 (enc := enc) (C := Try.checked) false ⟨#[], #[.slice none 0 0, .slice none 0 0, .slice none 0 0, .int .i64 0], []⟩ 8 (by kernel_rfl) (by kernel_rfl) (by kernel_rfl) (by kernel_rfl)) ?_
  intro W base args ds gs before hval0 hW hcnd hsz0 _
  have hsz : (DataW.weightsEach Try.prog (Try.f7.params.toList ++ Rows.fairRightSpec.plain.varTypes Try.prog) (ds ++ gs)).all (· ≤ reachBytes) = true := hsz0
  have hval : ∀ (j : Nat) t v, Try.f7.params[j]? = some t → args[j]? = some v → Value.okWide Try.prog W .any base t v := hval0
  have hW' := hW
  obtain ⟨p, q, hA0, hV, rfl, hfz, hnd⟩ := hW
  have hA : DataW.TrodAll enc Try.prog W 0 (fun _ => true) true Try.f7.params.toList args.toList ds p := hA0
  rw [Try.params7] at hA hval hsz
  obtain ⟨v0, vs0, d0, ds0, p0, q0, hargs, rfl, rfl, h0, r0⟩ := trodAll_cons hA
  obtain ⟨v1, vs1, d1, ds1, p1, q1, rfl, rfl, rfl, h1, r1⟩ := trodAll_cons r0
  obtain ⟨v2, vs2, d2, ds2, p2, q2, rfl, rfl, rfl, h2, r2⟩ := trodAll_cons r1
  obtain ⟨v3, vs3, d3, ds3, p3, q3, rfl, rfl, rfl, h3, r3⟩ := trodAll_cons r2
  obtain ⟨rfl, rfl, rfl⟩ := trodAll_nil r3
  obtain rfl : args = #[v0, v1, v2, v3] := by cases args; simp_all
  obtain ⟨rfl, rfl⟩ := trodVars_none hV
  have k0 := h0
  have lt0 : ∀ x ∈ p0, x.block < W.heap.size := by obtain ⟨m, hm⟩ := k0; exact DataW.trod_lt m _ _ _ hm
  obtain ⟨a0, len0, cap0, rfl⟩ := okWide_slice Try.underlying22 (hval 0 22 v0 rfl rfl)
  obtain ⟨y0, R0, G0⟩ := open_param opens0 (.inl rfl) (fun y => ⟨(fun ⟨_, h⟩ => by cases h), (fun ⟨_, h⟩ => by cases h)⟩) (fun _ => rfl) hsz (j := 0) (t := 22) rfl rfl h0
  have k1 := h1
  have lt1 : ∀ x ∈ p1, x.block < W.heap.size := by obtain ⟨m, hm⟩ := k1; exact DataW.trod_lt m _ _ _ hm
  obtain ⟨a1, len1, cap1, rfl⟩ := okWide_slice Try.underlying49 (hval 1 49 v1 rfl rfl)
  obtain ⟨y1, R1, G1⟩ := open_param opens1 (.inl rfl) (fun y => ⟨(fun ⟨_, h⟩ => by cases h), (fun ⟨_, h⟩ => by cases h)⟩) (fun _ => rfl) hsz (j := 1) (t := 49) rfl rfl h1
  have k2 := h2
  have lt2 : ∀ x ∈ p2, x.block < W.heap.size := by obtain ⟨m, hm⟩ := k2; exact DataW.trod_lt m _ _ _ hm
  obtain ⟨a2, len2, cap2, rfl⟩ := okWide_slice Try.underlying50 (hval 2 50 v2 rfl rfl)
  obtain ⟨y2, R2, G2⟩ := open_param opens2 (.inl rfl) (fun y => ⟨(fun ⟨_, h⟩ => by cases h), (fun ⟨_, h⟩ => by cases h)⟩) (fun _ => rfl) hsz (j := 2) (t := 50) rfl rfl h2
  obtain ⟨y3, rfl, rfl, rfl, G3⟩ := open_int Try.underlying3 (hval 3 3 v3 rfl rfl) h3
  clear hA0 hval0 hsz0 hsz
  refine (law_calls (law_FairRight y0 y1 y2 y3 G0 G1 G2 G3) (fun _ _ => Try.call7 _ _) (fun r hr => hr) (cargs := #[_, _, _, _]) (fun _ _ h => by cases h) (RepL.cons R0 (RepL.cons R1 (RepL.cons R2 (RepL.cons (by simp only [iv, RepS]) RepL.nil))))).mono fun e W' ⟨he, bel⟩ => ?_
  subst he
  exact ⟨_, rfl, _, _, _, [], _, [], hW', trodAll_mk1 (shut_bool Try.underlying4 _), (trodAll_cons_mk (Below.trod laidOut (by kernel_rfl) (of_decide_eq_true (by kernel_rfl)) k0 bel lt0) (trodAll_cons_mk (Below.trod laidOut (by kernel_rfl) (of_decide_eq_true (by kernel_rfl)) k1 bel lt1) (trodAll_cons_mk (Below.trod laidOut (by kernel_rfl) (of_decide_eq_true (by kernel_rfl)) k2 bel lt2) (trodAll_cons_mk (shut_int Try.underlying3 G3) trodAll_mk0)))), rfl, bel.frame _, fun h => by cases h⟩
theorem over : Rows.fairRightRow.holds Try.pinned (OpenSpec.ofChange Rows.fairRightSpec) :=
  OpenClaim.holds_of_wide 7 Try.f7 rfl rfl rfl rfl rfl rfl rfl ⟨rfl, rfl, rfl, rfl, rfl⟩ rfl rfl rfl rfl rfl (by kernel_rfl) Try.func7 (by kernel_rfl)
    (of_decide_eq_true (by kernel_rfl)) (by unfold Func.isWrapper; first | (rw [if_pos (by decide +kernel)]; kernel_rfl) | (rw [if_neg (by decide +kernel)]; exact ⟨rfl, rfl⟩))
    (fun os started H enc _ => lifted os started H enc)
theorem proved : Rows.FairRightSaid := over
#print axioms proved
end Go.Proofs.Ytnkcenafpigmbaa.fairRight
namespace Go.Proofs.Ytnkcenafpigmbaa
/-- The row, under a short name, for the claim. -/
theorem fairRight_holds : Rows.FairRightSaid := fairRight.proved
end Go.Proofs.Ytnkcenafpigmbaa
