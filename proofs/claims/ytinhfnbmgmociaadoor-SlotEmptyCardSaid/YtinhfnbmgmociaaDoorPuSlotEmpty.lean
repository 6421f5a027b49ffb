/- The law SlotEmpty. -/
import Derived.Test.YtinhfnbmgmociaaDoorSl2
namespace Go.Proofs.YtinhfnbmgmociaaDoor.Ab
open Go.RowKit
set_option linter.unusedVariables false
set_option linter.unusedSimpArgs false

set_option maxRecDepth 100000 in
set_option maxHeartbeats 8000000 in
theorem law_SlotEmpty (y0 : List Thing) (y1 : List Int) (y2 : List Held) (y3 : Spec) (y4 y5 : Int) (G0 : y0.length * 32 ≤ 140737488351232 ∧ y0.length ≤ maxLen ∧ ∀ x ∈ y0, ThingOk x) (G1 : y1.length * 8 ≤ 140737488351232 ∧ y1.length ≤ maxLen ∧ ∀ x ∈ y1, (Lit.int .i64 x).wf = true)
    (G2 : y2.length * 48 ≤ 140737488351232 ∧ y2.length ≤ maxLen ∧ ∀ x ∈ y2, HeldOk x) (G3 : SpecOk y3) (G4 : (Lit.int .i64 y4).wf = true) (G5 : (Lit.int .i64 y5).wf = true) :
    ACalls Tryd.prog 4 [things y0, ints y1, helds y2, specSV y3, iv y4, iv y5] (· = .one (.sv (bv true))) := by
  have hl := things_len G0
  have ht := things_ok G0.2.2
  have hs := G3.2.2.2.1
  refine ACalls.of_bodyS (fun _ _ => Tryd.call4 _ _) Tryd.func4 rfl Tryd.ntmps4 (by simp) ?_
  refine Tr.ex ?_
  simp [go_sem]
  refine OpW.fn true awake13_c rfl rfl (by simp [go_sem]) (by rintro _ r rfl; simp [go_sem]) ?_
  rintro r rfl
  simp [go_sem]
  refine OpW.fn true (small_c y0 y1 y2 [] (by omega) (by have := G1.1; omega) (by have := G2.1; omega) (by simp)) rfl rfl (by simp [go_sem]) (by rintro _ r rfl; simp [go_sem]) ?_
  rintro r rfl
  cases hsm : smallB y0 y1 y2 0 with
  | false => simp [go_sem]
  | true =>
    obtain ⟨s1, s2, s3, s4⟩ := small_len hsm
    have e1 := first_empty (g := y0) (use := y1) (s := y3) (f := y4) (v := y5)
    have e2 := first_then (g := y0) (use := y1) (l := y2) (s := y3) (f := y4) (v := y5)
    have e3 := first_from (g := y0) (use := y1) (l := y2) (s := y3) (f := y4) (v := y5)
    have f1 := first_c y0 y1 [] y3 y4 y5 (by omega) ht (by omega) (by simp) (fun h hh => by cases hh) hs
    have f2 := first_c y0 y1 y2 y3 y4 y5 (by omega) ht (by omega) (by omega) s4 hs
    generalize firstL y0 y1 [] y3 y4 y5 = a at *
    generalize firstL y0 y1 y2 y3 y4 y5 = b at *
    obtain ⟨a1, a2, a3⟩ := a
    obtain ⟨b1, b2, b3⟩ := b
    simp only at e1 e2 e3
    simp [go_sem]
    refine OpW.fn false f1 rfl rfl (by simp [go_sem]) (fun h => by cases h) ?_
    rintro r rfl
    simp [go_sem]
    refine OpW.fn false f2 rfl rfl (by simp [go_sem]) (fun h => by cases h) ?_
    rintro r rfl
    cases a3 with
    | true =>
      have h1 := e1 rfl
      subst h1
      cases b3 with
      | true =>
        have h3 := e3 rfl
        simp [go_sem, bne, h3]
      | false => simp [go_sem, bne]
    | false =>
      cases b3 with
      | true =>
        have h3 := e3 rfl
        have h0 : ¬ 0 ≤ y4 := fun h => by have := e2 h rfl; cases this
        simp [go_sem, bne, h0, h3]
      | false => by_cases h0 : 0 ≤ y4 <;> simp [go_sem, bne, h0]
end Go.Proofs.YtinhfnbmgmociaaDoor.Ab
