/- The law PickAlone holds for every input: what its contract tells (YtinhfnbmgmociaaDoorPurePickAlone), and the opening of its arguments, give the given row. No condition. -/
import Derived.Test.YtinhfnbmgmociaaDoorRows
import Derived.Test.YtinhfnbmgmociaaDoorAb3
import Derived.Test.YtinhfnbmgmociaaDoorPuPickAlone
import Derived.Test.YtinhfnbmgmociaaDoorDr1
import Derived.Test.YtinhfnbmgmociaaDoorTie
import Derived.Test.YtinhfnbmgmociaaDoorCards
import Derived.SevenTiedAt
import Derived.WalkKit
import Derived.ProofKit
import Derived.OpenShut
import Derived.ShutString
import Derived.ChangeOld
import Derived.Below
import Derived.SizedLaws
namespace Go.Proofs.YtinhfnbmgmociaaDoor.pickAlone
open Go.ChangeShapes Go.WideShapes Go.ChangeAt Go.RowKit Go.Proofs.YtinhfnbmgmociaaDoor.Ab
open Go.ChangeMaps (open_string shut_string)
set_option linter.unusedVariables false
theorem own : ownKnob Tryd.prog.godebug = none := by kernel_rfl
theorem laidOut : laidOutB Tryd.prog = true := by kernel_rfl
set_option maxRecDepth 100000 in
theorem opens0 : Opens Tryd.prog 22 (fun l : List (Thing) => SV.lst (l.map thingSV)) (fun xs : List (Thing) => xs.length * 32 ≤ 140737488351232 ∧ xs.length ≤ maxLen ∧ ∀ x ∈ xs, ThingOk x) := (opens_slice 32 Tryd.underlying22 (by kernel_rfl) (by kernel_rfl) (opens_struct (fun p : Int × Int × ByteArray × Unit => (⟨p.1, p.2.1, p.2.2.1⟩ : Thing)) (f := thingSV) (fun _ => rfl) ThingOk (fun p h => ThingOk_mk h) Tryd.underlying66 (by kernel_rfl) (of_decide_eq_true (by kernel_rfl)) (opensF_cons rfl (fun _ => rfl) (opens_int Tryd.underlying3 (by kernel_rfl)) (by kernel_rfl) (opensF_cons rfl (fun _ => rfl) (opens_int Tryd.underlying3 (by kernel_rfl)) (by kernel_rfl) (opensF_cons rfl (fun _ => rfl) (opens_string Tryd.underlying9 (by kernel_rfl)) (by kernel_rfl) (opensF_nil (off := 3)))))))
set_option maxRecDepth 100000 in
theorem opens1 : Opens Tryd.prog 23 (fun l : List (Int) => SV.lst (l.map iv)) (fun xs : List (Int) => xs.length * 8 ≤ 140737488351232 ∧ xs.length ≤ maxLen ∧ ∀ x ∈ xs, (fun x => (Lit.int .i64 x).wf = true) x) := (opens_slice 8 Tryd.underlying23 (by kernel_rfl) (by kernel_rfl) (opens_int Tryd.underlying3 (by kernel_rfl)))
set_option maxRecDepth 100000 in
theorem opens2 : Opens Tryd.prog 24 (fun l : List (Ab.Held) => SV.lst (l.map Ab.heldSV)) (fun xs : List (Ab.Held) => xs.length * 48 ≤ 140737488351232 ∧ xs.length ≤ maxLen ∧ ∀ x ∈ xs, Ab.HeldOk x) := (opens_slice 48 Tryd.underlying24 (by kernel_rfl) (by kernel_rfl) (opens_struct (fun p : Int × (List (Int)) × Int × Int × Unit => (⟨p.1, p.2.1, p.2.2.1, p.2.2.2.1⟩ : Ab.Held)) (f := Ab.heldSV) (fun _ => rfl) Ab.HeldOk (fun p h => Ab.HeldOk_mk h) Tryd.underlying46 (by kernel_rfl) (of_decide_eq_true (by kernel_rfl)) (opensF_cons rfl (fun _ => rfl) (opens_int Tryd.underlying3 (by kernel_rfl)) (by kernel_rfl) (opensF_cons rfl (fun _ => rfl) (opens_slice 8 Tryd.underlying23 (by kernel_rfl) (by kernel_rfl) (opens_int Tryd.underlying3 (by kernel_rfl))) (by kernel_rfl) (opensF_cons rfl (fun _ => rfl) (opens_int Tryd.underlying2 (by kernel_rfl)) (by kernel_rfl) (opensF_cons rfl (fun _ => rfl) (opens_int Tryd.underlying2 (by kernel_rfl)) (by kernel_rfl) (opensF_nil (off := 4))))))))
set_option maxRecDepth 100000 in
theorem opens3 : Opens Tryd.prog 41 Ab.wantSV Ab.WantOk := (opens_struct (fun p : Int × Ab.Spec × Unit => (⟨p.1, p.2.1⟩ : Ab.Want)) (f := Ab.wantSV) (fun _ => rfl) Ab.WantOk (fun p h => Ab.WantOk_mk h) Tryd.underlying41 (by kernel_rfl) (of_decide_eq_true (by kernel_rfl)) (opensF_cons rfl (fun _ => rfl) (opens_int Tryd.underlying3 (by kernel_rfl)) (by kernel_rfl) (opensF_cons rfl (fun _ => rfl) (opens_struct (fun p : Int × Int × Int × ByteArray × Bool × Int × Int × Unit => (⟨p.1, p.2.1, p.2.2.1, p.2.2.2.1, p.2.2.2.2.1, p.2.2.2.2.2.1, p.2.2.2.2.2.2.1⟩ : Ab.Spec)) (f := Ab.specSV) (fun _ => rfl) Ab.SpecOk (fun p h => Ab.SpecOk_mk h) Tryd.underlying26 (by kernel_rfl) (of_decide_eq_true (by kernel_rfl)) (opensF_cons rfl (fun _ => rfl) (opens_int Tryd.underlying3 (by kernel_rfl)) (by kernel_rfl) (opensF_cons rfl (fun _ => rfl) (opens_int Tryd.underlying3 (by kernel_rfl)) (by kernel_rfl) (opensF_cons rfl (fun _ => rfl) (opens_int Tryd.underlying3 (by kernel_rfl)) (by kernel_rfl) (opensF_cons rfl (fun _ => rfl) (opens_string Tryd.underlying9 (by kernel_rfl)) (by kernel_rfl) (opensF_cons rfl (fun _ => rfl) (opens_bool Tryd.underlying4 (by kernel_rfl)) (by kernel_rfl) (opensF_cons rfl (fun _ => rfl) (opens_int Tryd.underlying2 (by kernel_rfl)) (by kernel_rfl) (opensF_cons rfl (fun _ => rfl) (opens_int Tryd.underlying3 (by kernel_rfl)) (by kernel_rfl) (opensF_nil (off := 7)))))))))) (by kernel_rfl) (opensF_nil (off := 8)))))
set_option maxHeartbeats 1600000 in
set_option maxRecDepth 100000 in
theorem lifted (os : Os) (started : os.Started) (H : Type) (enc : TypeId × Value → H) :
    ReturnsInHanded {} Tryd.checked os 10 .any (fun w args => (Rows.pickAloneSpec.pre enc Tryd.prog Tryd.f10 Rows.pickAloneRow.domain false w args ∧ laidMetH Tryd.prog laidL w) ∧ sizedMet enc Tryd.prog Tryd.f10 (OpenSpec.ofChange Rows.pickAloneSpec) false w args) (Rows.pickAloneSpec.post enc Tryd.prog Tryd.f10 false true false false) := by
  refine returnsInHanded_of_change_and (C := Tryd.checked) (X := fun w _ => laidMetH Tryd.prog laidL w) (fun _ _ _ hh h => h.of_heap hh) own started (by kernel_rfl) Tryd.func10
    (ChangeSpec.witness_at (enc := enc) (C := Tryd.checked) (os := os) (X := fun w _ => laidMetH Tryd.prog laidL w) false (laidWorld os) #[.slice none 0 0, .slice none 0 0, .slice none 0 0, .agg #[.int .i64 0, .int .i64 0, .int .i64 0, .int .i64 0, .string ⟨#[]⟩, .bool false, .int .i64 0, .int .i64 0], .int .i64 0, .int .i64 0, .int .u8 0, .int .u8 0] 8 rfl (by kernel_rfl) (by kernel_rfl) (by kernel_rfl) (by kernel_rfl) (by kernel_rfl) (laid_met os _)) ?_
  intro W base args ds gs before hval0 hW hcnd hsz0 hL _
  have hsz : (DataW.weightsEach Tryd.prog (Tryd.f10.params.toList ++ Rows.pickAloneSpec.plain.varTypes Tryd.prog) (ds ++ gs)).all (· ≤ reachBytes) = true := hsz0
  have hval : ∀ (j : Nat) t v, Tryd.f10.params[j]? = some t → args[j]? = some v → Value.okWide Tryd.prog W .any base t v := hval0
  have hW' := hW
  obtain ⟨p, q, hA0, hV, rfl, hfz, hnd⟩ := hW
  have hA : DataW.TrodAll enc Tryd.prog W 0 (fun _ => true) true Tryd.f10.params.toList args.toList ds p := hA0
  rw [Tryd.params10] at hA hval hsz
  obtain ⟨v0, vs0, d0, ds0, p0, q0, hargs, rfl, rfl, h0, r0⟩ := trodAll_cons hA
  obtain ⟨v1, vs1, d1, ds1, p1, q1, rfl, rfl, rfl, h1, r1⟩ := trodAll_cons r0
  obtain ⟨v2, vs2, d2, ds2, p2, q2, rfl, rfl, rfl, h2, r2⟩ := trodAll_cons r1
  obtain ⟨v3, vs3, d3, ds3, p3, q3, rfl, rfl, rfl, h3, r3⟩ := trodAll_cons r2
  obtain ⟨v4, vs4, d4, ds4, p4, q4, rfl, rfl, rfl, h4, r4⟩ := trodAll_cons r3
  obtain ⟨v5, vs5, d5, ds5, p5, q5, rfl, rfl, rfl, h5, r5⟩ := trodAll_cons r4
  obtain ⟨v6, vs6, d6, ds6, p6, q6, rfl, rfl, rfl, h6, r6⟩ := trodAll_cons r5
  obtain ⟨v7, vs7, d7, ds7, p7, q7, rfl, rfl, rfl, h7, r7⟩ := trodAll_cons r6
  obtain ⟨rfl, rfl, rfl⟩ := trodAll_nil r7
  obtain rfl : args = #[v0, v1, v2, v3, v4, v5, v6, v7] := by cases args; simp_all
  obtain ⟨rfl, rfl⟩ := trodVars_none hV
  have k0 := h0
  have lt0 : ∀ x ∈ p0, x.block < W.heap.size := by obtain ⟨m, hm⟩ := k0; exact DataW.trod_lt m _ _ _ hm
  obtain ⟨a0, len0, cap0, rfl⟩ := okWide_slice Tryd.underlying22 (hval 0 22 v0 rfl rfl)
  obtain ⟨y0, R0, G0⟩ := open_param opens0 (.inl rfl) (fun y => ⟨(fun ⟨_, h⟩ => by cases h), (fun ⟨_, h⟩ => by cases h)⟩) (fun _ => rfl) hsz (j := 0) (t := 22) rfl rfl h0
  have k1 := h1
  have lt1 : ∀ x ∈ p1, x.block < W.heap.size := by obtain ⟨m, hm⟩ := k1; exact DataW.trod_lt m _ _ _ hm
  obtain ⟨a1, len1, cap1, rfl⟩ := okWide_slice Tryd.underlying23 (hval 1 23 v1 rfl rfl)
  obtain ⟨y1, R1, G1⟩ := open_param opens1 (.inl rfl) (fun y => ⟨(fun ⟨_, h⟩ => by cases h), (fun ⟨_, h⟩ => by cases h)⟩) (fun _ => rfl) hsz (j := 1) (t := 23) rfl rfl h1
  have k2 := h2
  have lt2 : ∀ x ∈ p2, x.block < W.heap.size := by obtain ⟨m, hm⟩ := k2; exact DataW.trod_lt m _ _ _ hm
  obtain ⟨a2, len2, cap2, rfl⟩ := okWide_slice Tryd.underlying24 (hval 2 24 v2 rfl rfl)
  obtain ⟨y2, R2, G2⟩ := open_param opens2 (.inl rfl) (fun y => ⟨(fun ⟨_, h⟩ => by cases h), (fun ⟨_, h⟩ => by cases h)⟩) (fun _ => rfl) hsz (j := 2) (t := 24) rfl rfl h2
  have k3 := h3
  have lt3 : ∀ x ∈ p3, x.block < W.heap.size := by obtain ⟨m, hm⟩ := k3; exact DataW.trod_lt m _ _ _ hm
  obtain ⟨cs3, rfl, _⟩ := okWide_struct Tryd.underlying41 (hval 3 41 v3 rfl rfl)
  obtain ⟨y3, R3, G3⟩ := open_param opens3 (.inr ⟨_, rfl⟩) (fun y => ⟨fun _ => ⟨_, rfl⟩, fun _ => ⟨_, rfl⟩⟩) (fun _ => rfl) hsz (j := 3) (t := 41) rfl rfl h3
  obtain ⟨y4, rfl, rfl, rfl, G4⟩ := open_int Tryd.underlying2 (hval 4 2 v4 rfl rfl) h4
  obtain ⟨y5, rfl, rfl, rfl, G5⟩ := open_int Tryd.underlying2 (hval 5 2 v5 rfl rfl) h5
  obtain ⟨y6, rfl, rfl, rfl, G6⟩ := open_int Tryd.underlying5 (hval 6 5 v6 rfl rfl) h6
  obtain ⟨y7, rfl, rfl, rfl, G7⟩ := open_int Tryd.underlying5 (hval 7 5 v7 rfl rfl) h7
  clear hA0 hval0 hsz0 hsz
  refine (law_calls (law_PickAlone y0 y1 y2 y3 y4 y5 y6 y7 G0 G1 G2 G3 G4 G5 G6 G7) (fun _ _ => Tryd.call10 _ _) (fun r hr => hr) (cargs := #[_, _, _, _, _, _, _, _]) (gw_of_laid hL) (RepL.cons R0 (RepL.cons R1 (RepL.cons R2 (RepL.cons R3 (RepL.cons (by simp only [iv, RepS]) (RepL.cons (by simp only [iv, RepS]) (RepL.cons (by simp only [RepS]) (RepL.cons (by simp only [RepS]) RepL.nil))))))))).mono fun e W' ⟨he, bel⟩ => ?_
  subst he
  exact ⟨_, rfl, _, _, _, [], _, [], hW', trodAll_mk1 (shut_bool Tryd.underlying4 _), (trodAll_cons_mk (Below.trod laidOut (by kernel_rfl) (of_decide_eq_true (by kernel_rfl)) k0 bel lt0) (trodAll_cons_mk (Below.trod laidOut (by kernel_rfl) (of_decide_eq_true (by kernel_rfl)) k1 bel lt1) (trodAll_cons_mk (Below.trod laidOut (by kernel_rfl) (of_decide_eq_true (by kernel_rfl)) k2 bel lt2) (trodAll_cons_mk (Below.trod laidOut (by kernel_rfl) (of_decide_eq_true (by kernel_rfl)) k3 bel lt3) (trodAll_cons_mk (shut_int Tryd.underlying2 G4) (trodAll_cons_mk (shut_int Tryd.underlying2 G5) (trodAll_cons_mk (shut_int Tryd.underlying5 G6) (trodAll_cons_mk (shut_int Tryd.underlying5 G7) trodAll_mk0)))))))), rfl, bel.frame _, fun h => by cases h⟩
theorem over : Rows.pickAloneRow.holds Tryd.pinned (OpenSpec.ofChange Rows.pickAloneSpec) :=
  OpenClaim.holds_of_wide 10 Tryd.f10 rfl rfl rfl rfl rfl rfl rfl ⟨rfl, rfl, rfl, rfl, rfl⟩ rfl rfl rfl rfl rfl (by kernel_rfl) Tryd.func10 (by kernel_rfl)
    (of_decide_eq_true (by kernel_rfl)) (by unfold Func.isWrapper; first | (rw [if_pos (by decide +kernel)]; kernel_rfl) | (rw [if_neg (by decide +kernel)]; exact ⟨rfl, rfl⟩))
    (fun os started H enc _ => lifted os started H enc)
theorem proved : Rows.PickAloneCardSaid :=
  Claim7.holds_tied_plain_at .later [] [.data] true (true, "4c4d9a5a4b3ac0a7eee2728eed5a0609e6a09514836eeebc9e56408147e181a6") false
    over (fun _ h => by cases h) (by kernel_rfl) (fun _ h => by cases h) pickAlone_row_tie rfl ⟨rfl, rfl⟩ (by kernel_rfl) rfl
    (fun f fn hf hfn => by
      obtain rfl : f = 10 := Option.some.inj ((show Tryd.prog.funcNamed Rows.pickAloneRow.func = some 10 by kernel_rfl).symm.trans hf) |>.symm
      obtain rfl : fn = Tryd.f10 := (Option.some.inj (Tryd.func10.symm.trans hfn)).symm
      refine ⟨by kernel_rfl, fun j t ht => ?_⟩
      rw [Tryd.params10] at ht
      cases j with
      | zero => simp at ht; subst ht; exact (show Tryd.prog.wantsStandIn 22 = false by kernel_rfl)
      | succ j =>
        cases j with
        | zero => simp at ht; subst ht; exact (show Tryd.prog.wantsStandIn 23 = false by kernel_rfl)
        | succ j =>
          cases j with
          | zero => simp at ht; subst ht; exact (show Tryd.prog.wantsStandIn 24 = false by kernel_rfl)
          | succ j =>
            cases j with
            | zero => simp at ht; subst ht; exact (show Tryd.prog.wantsStandIn 41 = false by kernel_rfl)
            | succ j =>
              cases j with
              | zero => simp at ht; subst ht; exact (show Tryd.prog.wantsStandIn 2 = false by kernel_rfl)
              | succ j =>
                cases j with
                | zero => simp at ht; subst ht; exact (show Tryd.prog.wantsStandIn 2 = false by kernel_rfl)
                | succ j =>
                  cases j with
                  | zero => simp at ht; subst ht; exact (show Tryd.prog.wantsStandIn 5 = false by kernel_rfl)
                  | succ j =>
                    cases j with
                    | zero => simp at ht; subst ht; exact (show Tryd.prog.wantsStandIn 5 = false by kernel_rfl)
                    | succ j =>
                      simp at ht)
    (by kernel_rfl)
#print axioms proved
end Go.Proofs.YtinhfnbmgmociaaDoor.pickAlone
namespace Go.Proofs.YtinhfnbmgmociaaDoor
/-- The row, under a short name, for the claim. -/
theorem pickAlone_holds : Rows.PickAloneCardSaid := pickAlone.proved
end Go.Proofs.YtinhfnbmgmociaaDoor
