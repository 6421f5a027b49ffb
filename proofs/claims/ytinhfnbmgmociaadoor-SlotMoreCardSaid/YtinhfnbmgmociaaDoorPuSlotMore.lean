/- The law SlotMore. -/
import Derived.Test.YtinhfnbmgmociaaDoorSl2
namespace Go.Proofs.YtinhfnbmgmociaaDoor.Ab
open Go.RowKit
set_option linter.unusedVariables false
set_option linter.unusedSimpArgs false

set_option maxRecDepth 100000 in
set_option maxHeartbeats 8000000 in
theorem law_SlotMore (y0 : List Thing) (y1 y2 : List Int) (y3 : List Held) (y4 : Spec) (y5 y6 y7 : Int) (G0 : y0.length * 32 ≤ 140737488351232 ∧ y0.length ≤ maxLen ∧ ∀ x ∈ y0, ThingOk x) (G1 : y1.length * 8 ≤ 140737488351232 ∧ y1.length ≤ maxLen ∧ ∀ x ∈ y1, (Lit.int .i64 x).wf = true)
    (G2 : y2.length * 8 ≤ 140737488351232 ∧ y2.length ≤ maxLen ∧ ∀ x ∈ y2, (Lit.int .i64 x).wf = true) (G3 : y3.length * 48 ≤ 140737488351232 ∧ y3.length ≤ maxLen ∧ ∀ x ∈ y3, HeldOk x) (G4 : SpecOk y4) (G5 : (Lit.int .i64 y5).wf = true) (G6 : (Lit.int .i64 y6).wf = true) (G7 : (Lit.int .u32 y7).wf = true) :
    ACalls Tryd.prog 3 [things y0, ints y1, ints y2, helds y3, specSV y4, iv y5, iv y6, .val (.int .u32 y7)] (· = .one (.sv (bv true))) := by
  have hl := things_len G0
  have ht := things_ok G0.2.2
  have hs := G4.2.2.2.1
  have h32 : 0 ≤ y7 ∧ y7 < 4294967296 := by
    have h := G7
    simp [Lit.wf] at h
    have e1 : IntKind.u32.min = 0 := by kernel_rfl
    have e2 : IntKind.u32.max = 4294967295 := by kernel_rfl
    omega
  have h64 : -9223372036854775808 ≤ y6 ∧ y6 < 9223372036854775808 := by
    have h := G6
    simp [Lit.wf] at h
    have e1 : IntKind.i64.min = -9223372036854775808 := by kernel_rfl
    omega
  refine ACalls.of_bodyS (fun _ _ => Tryd.call3 _ _) Tryd.func3 rfl Tryd.ntmps3 (by simp) ?_
  refine Tr.ex ?_
  simp [go_sem]
  refine OpW.fn true awake13_c rfl rfl (by simp [go_sem]) (by rintro _ r rfl; simp [go_sem]) ?_
  rintro r rfl
  simp [go_sem]
  refine OpW.fn true (small_c y0 y1 y3 [] (by omega) (by have := G1.1; omega) (by have := G3.1; omega) (by simp)) rfl rfl (by simp [go_sem]) (by rintro _ r rfl; simp [go_sem]) ?_
  rintro r rfl
  cases hsm : smallB y0 y1 y3 0 with
  | false => simp [go_sem]
  | true =>
    obtain ⟨s1, s2, s3, s4⟩ := small_len hsm
    by_cases c1 : 60 < (y2.length : Int)
    · simp [go_sem, c1]
    simp [go_sem, c1]
    refine OpW.fn true (setRight_c y1 (by omega)) rfl rfl (by simp [go_sem]) (by rintro _ r rfl; simp [go_sem]) ?_
    rintro r rfl
    cases h1 : isSet y1 with
    | false => simp [go_sem]
    | true =>
      simp [go_sem]
      refine OpW.fn true (setRight_c y2 (by omega)) rfl rfl (by simp [go_sem]) (by rintro _ r rfl; simp [go_sem]) ?_
      rintro r rfl
      cases h2 : isSet y2 with
      | false => simp [go_sem]
      | true =>
        by_cases c2 : 4611686018427387904 < y6
        · simp [go_sem, c2]
        have hw : IntKind.i64.wrap (y6 + y7) = y6 + y7 := by rw [i64w] <;> omega
        have hw0 : IntKind.i64.wrap y7 = y7 := by rw [i64w] <;> omega
        have hjl := set_len (joinL_set y1 y2)
        have hm := first_more (g := y0) (use := y1) (more := y2) (l := y3) (s := y4) (f := y5) (v := y6) h1 h2 h32.1
        have f1 := first_c y0 y1 y3 y4 y5 y6 (by omega) ht (by omega) (by omega) s4 hs
        have f2 := first_c y0 (joinL y1 y2) y3 y4 y5 y6 (by omega) ht (by omega) (by omega) s4 hs
        have f3 := first_c y0 y1 y3 y4 y5 (y6 + y7) (by omega) ht (by omega) (by omega) s4 hs
        have fj := Join_c y1 y2 (by omega) (by omega)
        generalize joinL y1 y2 = j at *
        generalize firstL y0 y1 y3 y4 y5 y6 = a at *
        generalize firstL y0 j y3 y4 y5 y6 = b at *
        generalize firstL y0 y1 y3 y4 y5 (y6 + y7) = c at *
        obtain ⟨ta, qa, oka⟩ := a
        obtain ⟨tb, qb, okb⟩ := b
        obtain ⟨tc, qc, okc⟩ := c
        simp only at hm f1 f2 f3
        simp [go_sem, c2]
        refine OpW.fn false f1 rfl rfl (by simp [go_sem]) (fun h => by cases h) ?_
        rintro r rfl
        simp [go_sem]
        refine DrawW.rd rfl ?_
        simp [go_sem]
        refine OpD.call false fj rfl rfl (by simp [go_sem]) (fun h => by cases h) (by simp [go_sem]) (by simp [go_sem]) ?_
        simp [go_sem]
        refine OpD.call false f2 rfl rfl (by simp [go_sem]) (fun h => by cases h) (by simp [go_sem]) (by simp [go_sem]) ?_
        simp [go_sem]
        refine ⟨by kernel_rfl, ?_⟩
        simp [go_sem, hw0, hw]
        refine OpW.fn false f3 rfl rfl (by simp [go_sem]) (fun h => by cases h) ?_
        rintro r rfl
        cases oka with
        | false => simp [go_sem]
        | true =>
          obtain ⟨⟨k1, k2⟩, k3, k4⟩ := hm rfl
          subst k1
          subst k3
          subst k4
          simp [go_sem, k2]
end Go.Proofs.YtinhfnbmgmociaaDoor.Ab
