/- The law SlotPlans holds for every input: what its contract tells (YtinhfnbmgmociaaGreatDoorPureSlotPlans), and the opening of its arguments, give the given row. No condition. -/
import Derived.Test.YtinhfnbmgmociaaGreatDoorRows
import Derived.Test.YtinhfnbmgmociaaGreatDoorAb3
import Derived.Test.YtinhfnbmgmociaaGreatDoorPuSlotPlans
import Derived.Test.YtinhfnbmgmociaaGreatDoorDr1
import Derived.Test.YtinhfnbmgmociaaGreatDoorTie
import Derived.Test.YtinhfnbmgmociaaGreatDoorCards
import Derived.SevenTiedAt
import Derived.WalkKit
import Derived.ProofKit
import Derived.OpenShut
import Derived.ShutString
import Derived.ChangeOld
import Derived.Below
import Derived.SizedLaws
namespace Go.Proofs.YtinhfnbmgmociaaGreatDoor.slotPlans
open Go.ChangeShapes Go.WideShapes Go.ChangeAt Go.RowKit Go.Proofs.YtinhfnbmgmociaaGreatDoor.Ab
open Go.ChangeMaps (open_string shut_string)
set_option linter.unusedVariables false
theorem own : ownKnob Tryz.prog.godebug = none := by kernel_rfl
theorem laidOut : laidOutB Tryz.prog = true := by kernel_rfl
set_option maxRecDepth 100000 in
theorem opens0 : Opens Tryz.prog 22 (fun l : List (Thing) => SV.lst (l.map thingSV)) (fun xs : List (Thing) => xs.length * 32 ≤ 140737488351232 ∧ xs.length ≤ maxLen ∧ ∀ x ∈ xs, ThingOk x) := (opens_slice 32 Tryz.underlying22 (by kernel_rfl) (by kernel_rfl) (opens_struct (fun p : Int × Int × ByteArray × Unit => (⟨p.1, p.2.1, p.2.2.1⟩ : Thing)) (f := thingSV) (fun _ => rfl) ThingOk (fun p h => ThingOk_mk h) Tryz.underlying46 (by kernel_rfl) (of_decide_eq_true (by kernel_rfl)) (opensF_cons rfl (fun _ => rfl) (opens_int Tryz.underlying3 (by kernel_rfl)) (by kernel_rfl) (opensF_cons rfl (fun _ => rfl) (opens_int Tryz.underlying3 (by kernel_rfl)) (by kernel_rfl) (opensF_cons rfl (fun _ => rfl) (opens_string Tryz.underlying9 (by kernel_rfl)) (by kernel_rfl) (opensF_nil (off := 3)))))))
set_option maxRecDepth 100000 in
theorem opens1 : Opens Tryz.prog 23 (fun l : List (Int) => SV.lst (l.map iv)) (fun xs : List (Int) => xs.length * 8 ≤ 140737488351232 ∧ xs.length ≤ maxLen ∧ ∀ x ∈ xs, (fun x => (Lit.int .i64 x).wf = true) x) := (opens_slice 8 Tryz.underlying23 (by kernel_rfl) (by kernel_rfl) (opens_int Tryz.underlying3 (by kernel_rfl)))
set_option maxRecDepth 100000 in
theorem opens2 : Opens Tryz.prog 24 (fun l : List (Ab.Held) => SV.lst (l.map Ab.heldSV)) (fun xs : List (Ab.Held) => xs.length * 48 ≤ 140737488351232 ∧ xs.length ≤ maxLen ∧ ∀ x ∈ xs, Ab.HeldOk x) := (opens_slice 48 Tryz.underlying24 (by kernel_rfl) (by kernel_rfl) (opens_struct (fun p : Int × (List (Int)) × Int × Int × Unit => (⟨p.1, p.2.1, p.2.2.1, p.2.2.2.1⟩ : Ab.Held)) (f := Ab.heldSV) (fun _ => rfl) Ab.HeldOk (fun p h => Ab.HeldOk_mk h) Tryz.underlying48 (by kernel_rfl) (of_decide_eq_true (by kernel_rfl)) (opensF_cons rfl (fun _ => rfl) (opens_int Tryz.underlying3 (by kernel_rfl)) (by kernel_rfl) (opensF_cons rfl (fun _ => rfl) (opens_slice 8 Tryz.underlying23 (by kernel_rfl) (by kernel_rfl) (opens_int Tryz.underlying3 (by kernel_rfl))) (by kernel_rfl) (opensF_cons rfl (fun _ => rfl) (opens_int Tryz.underlying2 (by kernel_rfl)) (by kernel_rfl) (opensF_cons rfl (fun _ => rfl) (opens_int Tryz.underlying2 (by kernel_rfl)) (by kernel_rfl) (opensF_nil (off := 4))))))))
set_option maxRecDepth 100000 in
theorem opens3 : Opens Tryz.prog 25 (fun l : List (Ab.Want) => SV.lst (l.map Ab.wantSV)) (fun xs : List (Ab.Want) => xs.length * 72 ≤ 140737488351232 ∧ xs.length ≤ maxLen ∧ ∀ x ∈ xs, Ab.WantOk x) := (opens_slice 72 Tryz.underlying25 (by kernel_rfl) (by kernel_rfl) (opens_struct (fun p : Int × Ab.Spec × Unit => (⟨p.1, p.2.1⟩ : Ab.Want)) (f := Ab.wantSV) (fun _ => rfl) Ab.WantOk (fun p h => Ab.WantOk_mk h) Tryz.underlying52 (by kernel_rfl) (of_decide_eq_true (by kernel_rfl)) (opensF_cons rfl (fun _ => rfl) (opens_int Tryz.underlying3 (by kernel_rfl)) (by kernel_rfl) (opensF_cons rfl (fun _ => rfl) (opens_struct (fun p : Int × Int × Int × ByteArray × Bool × Int × Int × Unit => (⟨p.1, p.2.1, p.2.2.1, p.2.2.2.1, p.2.2.2.2.1, p.2.2.2.2.2.1, p.2.2.2.2.2.2.1⟩ : Ab.Spec)) (f := Ab.specSV) (fun _ => rfl) Ab.SpecOk (fun p h => Ab.SpecOk_mk h) Tryz.underlying37 (by kernel_rfl) (of_decide_eq_true (by kernel_rfl)) (opensF_cons rfl (fun _ => rfl) (opens_int Tryz.underlying3 (by kernel_rfl)) (by kernel_rfl) (opensF_cons rfl (fun _ => rfl) (opens_int Tryz.underlying3 (by kernel_rfl)) (by kernel_rfl) (opensF_cons rfl (fun _ => rfl) (opens_int Tryz.underlying3 (by kernel_rfl)) (by kernel_rfl) (opensF_cons rfl (fun _ => rfl) (opens_string Tryz.underlying9 (by kernel_rfl)) (by kernel_rfl) (opensF_cons rfl (fun _ => rfl) (opens_bool Tryz.underlying4 (by kernel_rfl)) (by kernel_rfl) (opensF_cons rfl (fun _ => rfl) (opens_int Tryz.underlying2 (by kernel_rfl)) (by kernel_rfl) (opensF_cons rfl (fun _ => rfl) (opens_int Tryz.underlying3 (by kernel_rfl)) (by kernel_rfl) (opensF_nil (off := 7)))))))))) (by kernel_rfl) (opensF_nil (off := 8))))))
set_option maxHeartbeats 1600000 in
set_option maxRecDepth 100000 in
theorem lifted (os : Os) (started : os.Started) (H : Type) (enc : TypeId × Value → H) :
    ReturnsInHanded {} Tryz.checked os 3 .any (fun w args => (Rows.slotPlansSpec.pre enc Tryz.prog Tryz.f3 Rows.slotPlansRow.domain false w args ∧ laidMetH Tryz.prog laidL w) ∧ sizedMet enc Tryz.prog Tryz.f3 (OpenSpec.ofChange Rows.slotPlansSpec) false w args) (Rows.slotPlansSpec.post enc Tryz.prog Tryz.f3 false true false false) := by
  refine returnsInHanded_of_change_and (C := Tryz.checked) (X := fun w _ => laidMetH Tryz.prog laidL w) (fun _ _ _ hh h => h.of_heap hh) own started (by kernel_rfl) Tryz.func3
    (ChangeSpec.witness_at (enc := enc) (C := Tryz.checked) (os := os) (X := fun w _ => laidMetH Tryz.prog laidL w) false (laidWorld os) #[.slice none 0 0, .slice none 0 0, .slice none 0 0, .slice none 0 0, .int .i64 0, .int .i64 0] 8 rfl (by kernel_rfl) (by kernel_rfl) (by kernel_rfl) (by kernel_rfl) (by kernel_rfl) (laid_met os _)) ?_
  intro W base args ds gs before hval0 hW hcnd hsz0 hL _
  have hsz : (DataW.weightsEach Tryz.prog (Tryz.f3.params.toList ++ Rows.slotPlansSpec.plain.varTypes Tryz.prog) (ds ++ gs)).all (· ≤ reachBytes) = true := hsz0
  have hval : ∀ (j : Nat) t v, Tryz.f3.params[j]? = some t → args[j]? = some v → Value.okWide Tryz.prog W .any base t v := hval0
  have hW' := hW
  obtain ⟨p, q, hA0, hV, rfl, hfz, hnd⟩ := hW
  have hA : DataW.TrodAll enc Tryz.prog W 0 (fun _ => true) true Tryz.f3.params.toList args.toList ds p := hA0
  rw [Tryz.params3] at hA hval hsz
  obtain ⟨v0, vs0, d0, ds0, p0, q0, hargs, rfl, rfl, h0, r0⟩ := trodAll_cons hA
  obtain ⟨v1, vs1, d1, ds1, p1, q1, rfl, rfl, rfl, h1, r1⟩ := trodAll_cons r0
  obtain ⟨v2, vs2, d2, ds2, p2, q2, rfl, rfl, rfl, h2, r2⟩ := trodAll_cons r1
  obtain ⟨v3, vs3, d3, ds3, p3, q3, rfl, rfl, rfl, h3, r3⟩ := trodAll_cons r2
  obtain ⟨v4, vs4, d4, ds4, p4, q4, rfl, rfl, rfl, h4, r4⟩ := trodAll_cons r3
  obtain ⟨v5, vs5, d5, ds5, p5, q5, rfl, rfl, rfl, h5, r5⟩ := trodAll_cons r4
  obtain ⟨rfl, rfl, rfl⟩ := trodAll_nil r5
  obtain rfl : args = #[v0, v1, v2, v3, v4, v5] := by cases args; simp_all
  obtain ⟨rfl, rfl⟩ := trodVars_none hV
  have k0 := h0
  have lt0 : ∀ x ∈ p0, x.block < W.heap.size := by obtain ⟨m, hm⟩ := k0; exact DataW.trod_lt m _ _ _ hm
  obtain ⟨a0, len0, cap0, rfl⟩ := okWide_slice Tryz.underlying22 (hval 0 22 v0 rfl rfl)
  obtain ⟨y0, R0, G0⟩ := open_param opens0 (.inl rfl) (fun y => ⟨(fun ⟨_, h⟩ => by cases h), (fun ⟨_, h⟩ => by cases h)⟩) (fun _ => rfl) hsz (j := 0) (t := 22) rfl rfl h0
  have k1 := h1
  have lt1 : ∀ x ∈ p1, x.block < W.heap.size := by obtain ⟨m, hm⟩ := k1; exact DataW.trod_lt m _ _ _ hm
  obtain ⟨a1, len1, cap1, rfl⟩ := okWide_slice Tryz.underlying23 (hval 1 23 v1 rfl rfl)
  obtain ⟨y1, R1, G1⟩ := open_param opens1 (.inl rfl) (fun y => ⟨(fun ⟨_, h⟩ => by cases h), (fun ⟨_, h⟩ => by cases h)⟩) (fun _ => rfl) hsz (j := 1) (t := 23) rfl rfl h1
  have k2 := h2
  have lt2 : ∀ x ∈ p2, x.block < W.heap.size := by obtain ⟨m, hm⟩ := k2; exact DataW.trod_lt m _ _ _ hm
  obtain ⟨a2, len2, cap2, rfl⟩ := okWide_slice Tryz.underlying24 (hval 2 24 v2 rfl rfl)
  obtain ⟨y2, R2, G2⟩ := open_param opens2 (.inl rfl) (fun y => ⟨(fun ⟨_, h⟩ => by cases h), (fun ⟨_, h⟩ => by cases h)⟩) (fun _ => rfl) hsz (j := 2) (t := 24) rfl rfl h2
  have k3 := h3
  have lt3 : ∀ x ∈ p3, x.block < W.heap.size := by obtain ⟨m, hm⟩ := k3; exact DataW.trod_lt m _ _ _ hm
  obtain ⟨a3, len3, cap3, rfl⟩ := okWide_slice Tryz.underlying25 (hval 3 25 v3 rfl rfl)
  obtain ⟨y3, R3, G3⟩ := open_param opens3 (.inl rfl) (fun y => ⟨(fun ⟨_, h⟩ => by cases h), (fun ⟨_, h⟩ => by cases h)⟩) (fun _ => rfl) hsz (j := 3) (t := 25) rfl rfl h3
  obtain ⟨y4, rfl, rfl, rfl, G4⟩ := open_int Tryz.underlying2 (hval 4 2 v4 rfl rfl) h4
  obtain ⟨y5, rfl, rfl, rfl, G5⟩ := open_int Tryz.underlying2 (hval 5 2 v5 rfl rfl) h5
  clear hA0 hval0 hsz0 hsz
  refine (law_calls (law_SlotPlans y0 y1 y2 y3 y4 y5 G0 G1 G2 G3 G4 G5) (fun _ _ => Tryz.call3 _ _) (fun r hr => hr) (cargs := #[_, _, _, _, _, _]) (gw_of_laid hL) (RepL.cons R0 (RepL.cons R1 (RepL.cons R2 (RepL.cons R3 (RepL.cons (by simp only [iv, RepS]) (RepL.cons (by simp only [iv, RepS]) RepL.nil))))))).mono fun e W' ⟨he, bel⟩ => ?_
  subst he
  exact ⟨_, rfl, _, _, _, [], _, [], hW', trodAll_mk1 (shut_bool Tryz.underlying4 _), (trodAll_cons_mk (Below.trod laidOut (by kernel_rfl) (of_decide_eq_true (by kernel_rfl)) k0 bel lt0) (trodAll_cons_mk (Below.trod laidOut (by kernel_rfl) (of_decide_eq_true (by kernel_rfl)) k1 bel lt1) (trodAll_cons_mk (Below.trod laidOut (by kernel_rfl) (of_decide_eq_true (by kernel_rfl)) k2 bel lt2) (trodAll_cons_mk (Below.trod laidOut (by kernel_rfl) (of_decide_eq_true (by kernel_rfl)) k3 bel lt3) (trodAll_cons_mk (shut_int Tryz.underlying2 G4) (trodAll_cons_mk (shut_int Tryz.underlying2 G5) trodAll_mk0)))))), rfl, bel.frame _, fun h => by cases h⟩
theorem over : Rows.slotPlansRow.holds Tryz.pinned (OpenSpec.ofChange Rows.slotPlansSpec) :=
  OpenClaim.holds_of_wide 3 Tryz.f3 rfl rfl rfl rfl rfl rfl rfl ⟨rfl, rfl, rfl, rfl, rfl⟩ rfl rfl rfl rfl rfl (by kernel_rfl) Tryz.func3 (by kernel_rfl)
    (of_decide_eq_true (by kernel_rfl)) (by unfold Func.isWrapper; first | (rw [if_pos (by decide +kernel)]; kernel_rfl) | (rw [if_neg (by decide +kernel)]; exact ⟨rfl, rfl⟩))
    (fun os started H enc _ => lifted os started H enc)
theorem proved : Rows.SlotPlansCardSaid :=
  Claim7.holds_tied_plain_at .later [] [.data] true (true, "8321e8de462228f63cf229d792740834797c511a81fb4a15c8dc8607e6ffe8b1") false
    over (fun _ h => by cases h) (by kernel_rfl) (fun _ h => by cases h) slotPlans_row_tie rfl ⟨rfl, rfl⟩ (by kernel_rfl) rfl
    (fun f fn hf hfn => by
      obtain rfl : f = 3 := Option.some.inj ((show Tryz.prog.funcNamed Rows.slotPlansRow.func = some 3 by kernel_rfl).symm.trans hf) |>.symm
      obtain rfl : fn = Tryz.f3 := (Option.some.inj (Tryz.func3.symm.trans hfn)).symm
      refine ⟨by kernel_rfl, fun j t ht => ?_⟩
      rw [Tryz.params3] at ht
      cases j with
      | zero => simp at ht; subst ht; exact (show Tryz.prog.wantsStandIn 22 = false by kernel_rfl)
      | succ j =>
        cases j with
        | zero => simp at ht; subst ht; exact (show Tryz.prog.wantsStandIn 23 = false by kernel_rfl)
        | succ j =>
          cases j with
          | zero => simp at ht; subst ht; exact (show Tryz.prog.wantsStandIn 24 = false by kernel_rfl)
          | succ j =>
            cases j with
            | zero => simp at ht; subst ht; exact (show Tryz.prog.wantsStandIn 25 = false by kernel_rfl)
            | succ j =>
              cases j with
              | zero => simp at ht; subst ht; exact (show Tryz.prog.wantsStandIn 2 = false by kernel_rfl)
              | succ j =>
                cases j with
                | zero => simp at ht; subst ht; exact (show Tryz.prog.wantsStandIn 2 = false by kernel_rfl)
                | succ j =>
                  simp at ht)
    (by kernel_rfl)
#print axioms proved
end Go.Proofs.YtinhfnbmgmociaaGreatDoor.slotPlans
namespace Go.Proofs.YtinhfnbmgmociaaGreatDoor
/-- The row, under a short name, for the claim. -/
theorem slotPlans_holds : Rows.SlotPlansCardSaid := slotPlans.proved
end Go.Proofs.YtinhfnbmgmociaaGreatDoor
