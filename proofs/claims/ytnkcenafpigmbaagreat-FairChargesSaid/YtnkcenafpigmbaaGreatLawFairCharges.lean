/- The law FairCharges holds for every input: what its contract tells (YtnkcenafpigmbaaGreatPureFairCharges), and the opening of its arguments, give the given row. No condition. -/
import Derived.Test.YtnkcenafpigmbaaGreatRows
import Derived.Test.YtnkcenafpigmbaaGreatAb3
import Derived.Test.YtnkcenafpigmbaaGreatAbRf
import Derived.Test.YtnkcenafpigmbaaGreatPureFairCharges
import Derived.WalkKit
import Derived.ProofKit
import Derived.OpenShut
import Derived.ShutString
import Derived.ChangeOld
import Derived.Below
import Derived.SizedLaws
namespace Go.Proofs.YtnkcenafpigmbaaGreat.fairCharges
open Go.ChangeShapes Go.WideShapes Go.ChangeAt Go.RowKit Go.Proofs.YtnkcenafpigmbaaGreat.Ab
open Go.ChangeMaps (open_string shut_string)
set_option linter.unusedVariables false
theorem own : ownKnob Tryz.prog.godebug = none := by kernel_rfl
theorem laidOut : laidOutB Tryz.prog = true := by kernel_rfl
set_option maxRecDepth 100000 in
theorem opens0 : Opens Tryz.prog 22 (fun l : List (Ab.Use) => SV.lst (l.map Ab.useSV)) (fun xs : List (Ab.Use) => xs.length * 24 ≤ 140737488351232 ∧ xs.length ≤ maxLen ∧ ∀ x ∈ xs, Ab.UseOk x) := (opens_slice 24 Tryz.underlying22 (by kernel_rfl) (by kernel_rfl) (opens_struct (fun p : Int × Nat × Nat × Unit => (⟨p.1, p.2.1, p.2.2.1⟩ : Ab.Use)) (f := Ab.useSV) (fun _ => rfl) Ab.UseOk (fun p h => Ab.UseOk_mk h) Tryz.underlying42 (by kernel_rfl) (of_decide_eq_true (by kernel_rfl)) (opensF_cons rfl (fun _ => rfl) (opens_int Tryz.underlying3 (by kernel_rfl)) (by kernel_rfl) (opensF_cons rfl (fun _ => rfl) (opens_flt Tryz.underlying40 (by kernel_rfl)) (by kernel_rfl) (opensF_cons rfl (fun _ => rfl) (opens_flt Tryz.underlying40 (by kernel_rfl)) (by kernel_rfl) (opensF_nil (off := 3)))))))
set_option maxHeartbeats 1600000 in
set_option maxRecDepth 100000 in
theorem lifted (os : Os) (started : os.Started) (H : Type) (enc : TypeId × Value → H) :
    ReturnsInHanded {} Tryz.checked os 3 .any (Rows.fairChargesSpec.pre6 enc Tryz.prog Tryz.f3 Rows.fairChargesRow.domain false) (Rows.fairChargesSpec.post enc Tryz.prog Tryz.f3 false true false false) := by
  refine returnsInHanded_of_change_sized (C := Tryz.checked) own started (by kernel_rfl) Tryz.func3
    (ChangeSpec.witness6 (enc := enc) (C := Tryz.checked) false ⟨#[], #[.slice none 0 0, .int .i64 0, .int .i64 0, .int .i64 0, .int .i64 0], []⟩ 8 (by kernel_rfl) (by kernel_rfl) (by kernel_rfl) (by kernel_rfl)) ?_
  intro W base args ds gs before hval0 hW hcnd hsz0 _
  have hsz : (DataW.weightsEach Tryz.prog (Tryz.f3.params.toList ++ Rows.fairChargesSpec.plain.varTypes Tryz.prog) (ds ++ gs)).all (· ≤ reachBytes) = true := hsz0
  have hval : ∀ (j : Nat) t v, Tryz.f3.params[j]? = some t → args[j]? = some v → Value.okWide Tryz.prog W .any base t v := hval0
  have hW' := hW
  obtain ⟨p, q, hA0, hV, rfl, hfz, hnd⟩ := hW
  have hA : DataW.TrodAll enc Tryz.prog W 0 (fun _ => true) true Tryz.f3.params.toList args.toList ds p := hA0
  rw [Tryz.params3] at hA hval hsz
  obtain ⟨v0, vs0, d0, ds0, p0, q0, hargs, rfl, rfl, h0, r0⟩ := trodAll_cons hA
  obtain ⟨v1, vs1, d1, ds1, p1, q1, rfl, rfl, rfl, h1, r1⟩ := trodAll_cons r0
  obtain ⟨v2, vs2, d2, ds2, p2, q2, rfl, rfl, rfl, h2, r2⟩ := trodAll_cons r1
  obtain ⟨v3, vs3, d3, ds3, p3, q3, rfl, rfl, rfl, h3, r3⟩ := trodAll_cons r2
  obtain ⟨v4, vs4, d4, ds4, p4, q4, rfl, rfl, rfl, h4, r4⟩ := trodAll_cons r3
  obtain ⟨rfl, rfl, rfl⟩ := trodAll_nil r4
  obtain rfl : args = #[v0, v1, v2, v3, v4] := by cases args; simp_all
  obtain ⟨rfl, rfl⟩ := trodVars_none hV
  have k0 := h0
  have lt0 : ∀ x ∈ p0, x.block < W.heap.size := by obtain ⟨m, hm⟩ := k0; exact DataW.trod_lt m _ _ _ hm
  obtain ⟨a0, len0, cap0, rfl⟩ := okWide_slice Tryz.underlying22 (hval 0 22 v0 rfl rfl)
  obtain ⟨y0, R0, G0⟩ := open_param opens0 (.inl rfl) (fun y => ⟨(fun ⟨_, h⟩ => by cases h), (fun ⟨_, h⟩ => by cases h)⟩) (fun _ => rfl) hsz (j := 0) (t := 22) rfl rfl h0
  obtain ⟨y1, rfl, rfl, rfl, G1⟩ := open_int Tryz.underlying3 (hval 1 3 v1 rfl rfl) h1
  obtain ⟨y2, rfl, rfl, rfl, G2⟩ := open_int Tryz.underlying3 (hval 2 3 v2 rfl rfl) h2
  obtain ⟨y3, rfl, rfl, rfl, G3⟩ := open_int Tryz.underlying2 (hval 3 2 v3 rfl rfl) h3
  obtain ⟨y4, rfl, rfl, rfl, G4⟩ := open_int Tryz.underlying3 (hval 4 3 v4 rfl rfl) h4
  clear hA0 hval0 hsz0 hsz
  refine (law_calls (law_FairCharges y0 y1 y2 y3 y4 G0 G1 G2 G3 G4) (fun _ _ => Tryz.call3 _ _) (fun r hr => hr) (cargs := #[_, _, _, _, _]) (fun _ _ h => by cases h) (RepL.cons R0 (RepL.cons (by simp only [iv, RepS]) (RepL.cons (by simp only [iv, RepS]) (RepL.cons (by simp only [iv, RepS]) (RepL.cons (by simp only [iv, RepS]) RepL.nil)))))).mono fun e W' ⟨he, bel⟩ => ?_
  subst he
  exact ⟨_, rfl, _, _, _, [], _, [], hW', trodAll_mk1 (shut_bool Tryz.underlying4 _), (trodAll_cons_mk (Below.trod laidOut (by kernel_rfl) (of_decide_eq_true (by kernel_rfl)) k0 bel lt0) (trodAll_cons_mk (shut_int Tryz.underlying3 G1) (trodAll_cons_mk (shut_int Tryz.underlying3 G2) (trodAll_cons_mk (shut_int Tryz.underlying2 G3) (trodAll_cons_mk (shut_int Tryz.underlying3 G4) trodAll_mk0))))), rfl, bel.frame _, fun h => by cases h⟩
theorem over : Rows.fairChargesRow.holds Tryz.pinned (OpenSpec.ofChange Rows.fairChargesSpec) :=
  OpenClaim.holds_of_wide 3 Tryz.f3 rfl rfl rfl rfl rfl rfl rfl ⟨rfl, rfl, rfl, rfl, rfl⟩ rfl rfl rfl rfl rfl (by kernel_rfl) Tryz.func3 (by kernel_rfl)
    (of_decide_eq_true (by kernel_rfl)) (by unfold Func.isWrapper; first | (rw [if_pos (by decide +kernel)]; kernel_rfl) | (rw [if_neg (by decide +kernel)]; exact ⟨rfl, rfl⟩))
    (fun os started H enc _ => lifted os started H enc)
theorem proved : Rows.FairChargesSaid := over
#print axioms proved
end Go.Proofs.YtnkcenafpigmbaaGreat.fairCharges
namespace Go.Proofs.YtnkcenafpigmbaaGreat
/-- The row, under a short name, for the claim. -/
theorem fairCharges_holds : Rows.FairChargesSaid := fairCharges.proved
end Go.Proofs.YtnkcenafpigmbaaGreat
