/- The law HeldApart holds for every input: what its contract tells (YtfcojlagmmgagaaDoorPureHeldApart), and the opening of its arguments, give the given row. No condition. -/
import Derived.Test.YtfcojlagmmgagaaDoorRows
import Derived.Test.YtfcojlagmmgagaaDoorAb3
import Derived.Test.YtfcojlagmmgagaaDoorPuHeldApart
import Derived.Test.YtfcojlagmmgagaaDoorDr1
import Derived.Test.YtfcojlagmmgagaaDoorTie
import Derived.Test.YtfcojlagmmgagaaDoorCards
import Derived.SevenTiedAt
import Derived.WalkKit
import Derived.ProofKit
import Derived.OpenShut
import Derived.ShutString
import Derived.ChangeOld
import Derived.Below
import Derived.SizedLaws
namespace Go.Proofs.YtfcojlagmmgagaaDoor.heldApart
open Go.ChangeShapes Go.WideShapes Go.ChangeAt Go.RowKit Go.Proofs.YtfcojlagmmgagaaDoor.Ab
open Go.ChangeMaps (open_string shut_string)
set_option linter.unusedVariables false
theorem own : ownKnob Tryd.prog.godebug = none := by kernel_rfl
theorem laidOut : laidOutB Tryd.prog = true := by kernel_rfl
set_option maxRecDepth 100000 in
theorem opens0 : Opens Tryd.prog 45 (fun l : List (Ab.Held) => SV.lst (l.map Ab.heldSV)) (fun xs : List (Ab.Held) => xs.length * 48 ≤ 140737488351232 ∧ xs.length ≤ maxLen ∧ ∀ x ∈ xs, Ab.HeldOk x) := (opens_slice 48 Tryd.underlying45 (by kernel_rfl) (by kernel_rfl) (opens_struct (fun p : Int × (List (Int)) × Int × Int × Unit => (⟨p.1, p.2.1, p.2.2.1, p.2.2.2.1⟩ : Ab.Held)) (f := Ab.heldSV) (fun _ => rfl) Ab.HeldOk (fun p h => Ab.HeldOk_mk h) Tryd.underlying47 (by kernel_rfl) (of_decide_eq_true (by kernel_rfl)) (opensF_cons rfl (fun _ => rfl) (opens_int Tryd.underlying3 (by kernel_rfl)) (by kernel_rfl) (opensF_cons rfl (fun _ => rfl) (opens_slice 8 Tryd.underlying23 (by kernel_rfl) (by kernel_rfl) (opens_int Tryd.underlying3 (by kernel_rfl))) (by kernel_rfl) (opensF_cons rfl (fun _ => rfl) (opens_int Tryd.underlying2 (by kernel_rfl)) (by kernel_rfl) (opensF_cons rfl (fun _ => rfl) (opens_int Tryd.underlying2 (by kernel_rfl)) (by kernel_rfl) (opensF_nil (off := 4))))))))
set_option maxRecDepth 100000 in
theorem opens2 : Opens Tryd.prog 47 Ab.heldSV Ab.HeldOk := (opens_struct (fun p : Int × (List (Int)) × Int × Int × Unit => (⟨p.1, p.2.1, p.2.2.1, p.2.2.2.1⟩ : Ab.Held)) (f := Ab.heldSV) (fun _ => rfl) Ab.HeldOk (fun p h => Ab.HeldOk_mk h) Tryd.underlying47 (by kernel_rfl) (of_decide_eq_true (by kernel_rfl)) (opensF_cons rfl (fun _ => rfl) (opens_int Tryd.underlying3 (by kernel_rfl)) (by kernel_rfl) (opensF_cons rfl (fun _ => rfl) (opens_slice 8 Tryd.underlying23 (by kernel_rfl) (by kernel_rfl) (opens_int Tryd.underlying3 (by kernel_rfl))) (by kernel_rfl) (opensF_cons rfl (fun _ => rfl) (opens_int Tryd.underlying2 (by kernel_rfl)) (by kernel_rfl) (opensF_cons rfl (fun _ => rfl) (opens_int Tryd.underlying2 (by kernel_rfl)) (by kernel_rfl) (opensF_nil (off := 4)))))))
set_option maxHeartbeats 1600000 in
set_option maxRecDepth 100000 in
theorem lifted (os : Os) (started : os.Started) (H : Type) (enc : TypeId × Value → H) :
    ReturnsInHanded {} Tryd.checked os 8 .any (fun w args => (Rows.heldApartSpec.pre enc Tryd.prog Tryd.f8 Rows.heldApartRow.domain false w args ∧ laidMetH Tryd.prog laidL w) ∧ sizedMet enc Tryd.prog Tryd.f8 (OpenSpec.ofChange Rows.heldApartSpec) false w args) (Rows.heldApartSpec.post enc Tryd.prog Tryd.f8 false true false false) := by
  refine returnsInHanded_of_change_and (C := Tryd.checked) (X := fun w _ => laidMetH Tryd.prog laidL w) (fun _ _ _ hh h => h.of_heap hh) own started (by kernel_rfl) Tryd.func8
    (ChangeSpec.witness_at (enc := enc) (C := Tryd.checked) (os := os) (X := fun w _ => laidMetH Tryd.prog laidL w) false (laidWorld os) #[.slice none 0 0, .int .i64 0, .agg #[.int .i64 0, .slice none 0 0, .int .i64 0, .int .i64 0]] 8 rfl (by kernel_rfl) (by kernel_rfl) (by kernel_rfl) (by kernel_rfl) (by kernel_rfl) (laid_met os _)) ?_
  intro W base args ds gs before hval0 hW hcnd hsz0 hL _
  have hsz : (DataW.weightsEach Tryd.prog (Tryd.f8.params.toList ++ Rows.heldApartSpec.plain.varTypes Tryd.prog) (ds ++ gs)).all (· ≤ reachBytes) = true := hsz0
  have hval : ∀ (j : Nat) t v, Tryd.f8.params[j]? = some t → args[j]? = some v → Value.okWide Tryd.prog W .any base t v := hval0
  have hW' := hW
  obtain ⟨p, q, hA0, hV, rfl, hfz, hnd⟩ := hW
  have hA : DataW.TrodAll enc Tryd.prog W 0 (fun _ => true) true Tryd.f8.params.toList args.toList ds p := hA0
  rw [Tryd.params8] at hA hval hsz
  obtain ⟨v0, vs0, d0, ds0, p0, q0, hargs, rfl, rfl, h0, r0⟩ := trodAll_cons hA
  obtain ⟨v1, vs1, d1, ds1, p1, q1, rfl, rfl, rfl, h1, r1⟩ := trodAll_cons r0
  obtain ⟨v2, vs2, d2, ds2, p2, q2, rfl, rfl, rfl, h2, r2⟩ := trodAll_cons r1
  obtain ⟨rfl, rfl, rfl⟩ := trodAll_nil r2
  obtain rfl : args = #[v0, v1, v2] := by cases args; simp_all
  obtain ⟨rfl, rfl⟩ := trodVars_none hV
  have k0 := h0
  have lt0 : ∀ x ∈ p0, x.block < W.heap.size := by obtain ⟨m, hm⟩ := k0; exact DataW.trod_lt m _ _ _ hm
  obtain ⟨a0, len0, cap0, rfl⟩ := okWide_slice Tryd.underlying45 (hval 0 45 v0 rfl rfl)
  obtain ⟨y0, R0, G0⟩ := open_param opens0 (.inl rfl) (fun y => ⟨(fun ⟨_, h⟩ => by cases h), (fun ⟨_, h⟩ => by cases h)⟩) (fun _ => rfl) hsz (j := 0) (t := 45) rfl rfl h0
  obtain ⟨y1, rfl, rfl, rfl, G1⟩ := open_int Tryd.underlying2 (hval 1 2 v1 rfl rfl) h1
  have k2 := h2
  have lt2 : ∀ x ∈ p2, x.block < W.heap.size := by obtain ⟨m, hm⟩ := k2; exact DataW.trod_lt m _ _ _ hm
  obtain ⟨cs2, rfl, _⟩ := okWide_struct Tryd.underlying47 (hval 2 47 v2 rfl rfl)
  obtain ⟨y2, R2, G2⟩ := open_param opens2 (.inr ⟨_, rfl⟩) (fun y => ⟨fun _ => ⟨_, rfl⟩, fun _ => ⟨_, rfl⟩⟩) (fun _ => rfl) hsz (j := 2) (t := 47) rfl rfl h2
  clear hA0 hval0 hsz0 hsz
  refine (law_calls (law_HeldApart y0 y1 y2 G0 G1 G2) (fun _ _ => Tryd.call8 _ _) (fun r hr => hr) (cargs := #[_, _, _]) (gw_of_laid hL) (RepL.cons R0 (RepL.cons (by simp only [iv, RepS]) (RepL.cons R2 RepL.nil)))).mono fun e W' ⟨he, bel⟩ => ?_
  subst he
  exact ⟨_, rfl, _, _, _, [], _, [], hW', trodAll_mk1 (shut_bool Tryd.underlying4 _), (trodAll_cons_mk (Below.trod laidOut (by kernel_rfl) (of_decide_eq_true (by kernel_rfl)) k0 bel lt0) (trodAll_cons_mk (shut_int Tryd.underlying2 G1) (trodAll_cons_mk (Below.trod laidOut (by kernel_rfl) (of_decide_eq_true (by kernel_rfl)) k2 bel lt2) trodAll_mk0))), rfl, bel.frame _, fun h => by cases h⟩
theorem over : Rows.heldApartRow.holds Tryd.pinned (OpenSpec.ofChange Rows.heldApartSpec) :=
  OpenClaim.holds_of_wide 8 Tryd.f8 rfl rfl rfl rfl rfl rfl rfl ⟨rfl, rfl, rfl, rfl, rfl⟩ rfl rfl rfl rfl rfl (by kernel_rfl) Tryd.func8 (by kernel_rfl)
    (of_decide_eq_true (by kernel_rfl)) (by unfold Func.isWrapper; first | (rw [if_pos (by decide +kernel)]; kernel_rfl) | (rw [if_neg (by decide +kernel)]; exact ⟨rfl, rfl⟩))
    (fun os started H enc _ => lifted os started H enc)
theorem proved : Rows.HeldApartCardSaid :=
  Claim7.holds_tied_plain_at .later [] [.data] true (true, "4b7ab1b47c79db1ecb551e0ba88358551fe8f03ce9da5c7dc8a6ba76249dadf7") false
    over (fun _ h => by cases h) (by kernel_rfl) (fun _ h => by cases h) heldApart_row_tie rfl ⟨rfl, rfl⟩ (by kernel_rfl) rfl
    (fun f fn hf hfn => by
      obtain rfl : f = 8 := Option.some.inj ((show Tryd.prog.funcNamed Rows.heldApartRow.func = some 8 by kernel_rfl).symm.trans hf) |>.symm
      obtain rfl : fn = Tryd.f8 := (Option.some.inj (Tryd.func8.symm.trans hfn)).symm
      refine ⟨by kernel_rfl, fun j t ht => ?_⟩
      rw [Tryd.params8] at ht
      cases j with
      | zero => simp at ht; subst ht; exact (show Tryd.prog.wantsStandIn 45 = false by kernel_rfl)
      | succ j =>
        cases j with
        | zero => simp at ht; subst ht; exact (show Tryd.prog.wantsStandIn 2 = false by kernel_rfl)
        | succ j =>
          cases j with
          | zero => simp at ht; subst ht; exact (show Tryd.prog.wantsStandIn 47 = false by kernel_rfl)
          | succ j =>
            simp at ht)
    (by kernel_rfl)
#print axioms proved
end Go.Proofs.YtfcojlagmmgagaaDoor.heldApart
namespace Go.Proofs.YtfcojlagmmgagaaDoor
/-- The row, under a short name, for the claim. -/
theorem heldApart_holds : Rows.HeldApartCardSaid := heldApart.proved
end Go.Proofs.YtfcojlagmmgagaaDoor
