/- The law PickAlone. -/
import Derived.Test.YtinhfnbmgmociaaDoorPi1
namespace Go.Proofs.YtinhfnbmgmociaaDoor.Ab
open Go.RowKit
set_option linter.unusedVariables false
set_option linter.unusedSimpArgs false

set_option maxRecDepth 100000 in
set_option maxHeartbeats 16000000 in
theorem law_PickAlone (y0 : List Thing) (y1 : List Int) (y2 : List Held) (y3 : Want) (y4 y5 y6 y7 : Int) (G0 : y0.length * 32 ≤ 140737488351232 ∧ y0.length ≤ maxLen ∧ ∀ x ∈ y0, ThingOk x) (G1 : y1.length * 8 ≤ 140737488351232 ∧ y1.length ≤ maxLen ∧ ∀ x ∈ y1, (Lit.int .i64 x).wf = true)
    (G2 : y2.length * 48 ≤ 140737488351232 ∧ y2.length ≤ maxLen ∧ ∀ x ∈ y2, HeldOk x) (G3 : WantOk y3) (G4 : (Lit.int .i64 y4).wf = true) (G5 : (Lit.int .i64 y5).wf = true) (G6 : (Lit.int .u8 y6).wf = true) (G7 : (Lit.int .u8 y7).wf = true) :
    ACalls Tryd.prog 10 [things y0, ints y1, helds y2, wantSV y3, iv y4, iv y5, .val (.int .u8 y6), .val (.int .u8 y7)] (· = .one (.sv (bv true))) := by
  have hl := things_len G0
  have ht := things_ok G0.2.2
  have hs := G3.2.2.2.2.1
  have hws : Wants [y3] := fun w hw => by rw [List.mem_singleton.1 hw]; exact hs
  have h8 : 0 ≤ y6 ∧ y6 < 256 := by
    have h := G6
    simp [Lit.wf] at h
    have e1 : IntKind.u8.min = 0 := by kernel_rfl
    have e2 : IntKind.u8.max = 255 := by kernel_rfl
    omega
  have h9 : 0 ≤ y7 ∧ y7 < 256 := by
    have h := G7
    simp [Lit.wf] at h
    have e1 : IntKind.u8.min = 0 := by kernel_rfl
    have e2 : IntKind.u8.max = 255 := by kernel_rfl
    omega
  refine ACalls.of_bodyS (fun _ _ => Tryd.call10 _ _) Tryd.func10 rfl Tryd.ntmps10 (by simp) ?_
  refine Tr.ex ?_
  simp [go_sem]
  refine OpW.fn true awake14_c rfl rfl (by simp [go_sem]) (by rintro _ r rfl; simp [go_sem]) ?_
  rintro r rfl
  simp [go_sem]
  refine OpW.fn true (small14_c y0 y1 y2 [y3] (by omega) (by have := G1.1; omega) (by have := G2.1; omega) (by simp)) rfl rfl (by simp [go_sem]) (by rintro _ r rfl; simp [go_sem]) ?_
  rintro r rfl
  cases hsm : smallB y0 y1 y2 [y3].length with
  | false => simp [go_sem]
  | true =>
    obtain ⟨s1, s2, s3, s4⟩ := small_len hsm
    simp [go_sem]
    have m1 : IntKind.i64.wrap (y6 % 3) = y6 % 3 := by rw [i64w] <;> omega
    have m2 : IntKind.u8.wrap (y6 % 3) = y6 % 3 := by rw [u8w] <;> omega
    have m3 : y6.tmod 3 = y6 % 3 := by rw [Int.tmod_eq_emod_of_nonneg h8.1]
    have m4 : IntKind.i64.wrap (y6 % 3 + 1) = y6 % 3 + 1 := by rw [i64w] <;> omega
    have m5 : IntKind.i64.wrap (y7 % 9) = y7 % 9 := by rw [i64w] <;> omega
    have m6 : IntKind.u8.wrap (y7 % 9) = y7 % 9 := by rw [u8w] <;> omega
    have m7 : y7.tmod 9 = y7 % 9 := by rw [Int.tmod_eq_emod_of_nonneg h9.1]
    have hD : 0 ≤ y7 % 9 ∧ y7 % 9 ≤ 64 := by omega
    have hP : 1 ≤ y6 % 3 + 1 ∧ y6 % 3 + 1 ≤ 3 := by omega
    have fp := pick_c y0 y1 y2 [y3] y4 y5 (y6 % 3 + 1) (y7 % 9) (by omega) ht (by omega) (by omega) s4 (by simp) hws
    have fal := pick_alone (g := y0) (use := y1) (l := y2) (w := y3) (f := y4) (v := y5) hP hD.1 hD.2 (by omega)
    have ff := first_c y0 y1 y2 y3.spec y4 y5 (by omega) ht (by omega) (by omega) s4 hs
    have hql := first_len y0 y1 y2 y3.spec y4 y5
    have fg := heldGet_c y2 y3.id (by omega) s4
    have fe := sEnds_c y3.spec (firstL y0 y1 y2 y3.spec y4 y5).1 hs
    have hlen1 : Helds [wantH y0 y1 y2 y3 y4 y5] := fun h hh => by rw [List.mem_singleton.1 hh]; unfold wantH; simp only; omega
    have fsame := sameH_c [wantH y0 y1 y2 y3 y4 y5] [wantH y0 y1 y2 y3 y4 y5] (by simp) (by simp) hlen1 hlen1
    have hH : wantH y0 y1 y2 y3 y4 y5 = ⟨y3.id, (firstL y0 y1 y2 y3.spec y4 y5).2.1, (firstL y0 y1 y2 y3.spec y4 y5).1, endsAt y3.spec (firstL y0 y1 y2 y3.spec y4 y5).1⟩ := rfl
    rw [hH] at fsame fal
    generalize pickL y0 y1 y2 [y3] y4 y5 (y6 % 3 + 1) (y7 % 9) = r at *
    generalize firstL y0 y1 y2 y3.spec y4 y5 = a at *
    generalize getL y2 y3.id = gt at *
    obtain ⟨bg, kp, c⟩ := r
    obtain ⟨t, q, ok⟩ := a
    obtain ⟨gh, gb⟩ := gt
    simp only at fp fal ff fg fe fsame
    generalize endsAt y3.spec t = e at *
    generalize hK : keepB (y6 % 3 + 1) (y7 % 9) = K at *
    have hKd : K = (decide (y6 % 3 + 1 = 2) || (decide (y6 % 3 + 1 = 3) && decide (0 < y7 % 9))) := hK.symm
    simp [go_sem, m1, m2, m3, m4, m5, m6, m7]
    refine OpW.frz 50 (OpW.go ?_)
    simp [go_sem]
    refine OpW.fn false fp rfl rfl (by simp [go_sem]) (fun h => by cases h) ?_
    rintro r rfl
    simp [go_sem]
    refine OpW.fn false ff rfl rfl (by simp [go_sem]) (fun h => by cases h) ?_
    rintro r rfl
    simp [go_sem]
    refine OpW.fn false fg rfl rfl (by simp [go_sem]) (fun h => by cases h) ?_
    rintro r rfl
    simp [go_sem]
    by_cases P2 : y6 % 3 + 1 = 2
    · have P2' : (y6 % 3 + 1 == 2) = true := by simpa using P2
      have hK : K = true := by rw [hKd]; simp [P2]
      subst hK
      simp [go_sem, P2']
      refine OpW.fn true (heldRight_c y2 (by omega) s4) rfl rfl (by simp [go_sem]) (by rintro _ r rfl; simp [go_sem]) ?_
      rintro r rfl
      cases hT : isTab y2 with
      | false =>
        have ee := fal.1 hT
        obtain ⟨rfl, rfl, rfl⟩ : bg = [] ∧ kp = [] ∧ c = 1 := ⟨congrArg (·.1) ee, congrArg (·.2.1) ee, congrArg (·.2.2) ee⟩
        simp [go_sem]
      | true =>
        obtain ⟨fB, fC⟩ := fal.2 hT
        cases ok with
        | false =>
          have ee := fB (.inl rfl)
          obtain ⟨rfl, rfl, rfl⟩ : bg = [] ∧ kp = [] ∧ c = 0 := ⟨congrArg (·.1) ee, congrArg (·.2.1) ee, congrArg (·.2.2) ee⟩
          simp [go_sem]
        | true =>
          by_cases tf : t = y4
          · have tf' : (t == y4) = true := by simpa using tf
            obtain ⟨g1, g2⟩ := fC rfl (.inl tf)
            cases gb with
            | true =>
              have ee := g1 rfl
              obtain ⟨rfl, rfl, rfl⟩ : bg = [] ∧ kp = [] ∧ c = 7 := ⟨congrArg (·.1) ee, congrArg (·.2.1) ee, congrArg (·.2.2) ee⟩
              simp [go_sem, bne, tf', P2']
            | false =>
              have ee := (g2 rfl).1 tf
              obtain ⟨e1, rfl, rfl⟩ : bg = [⟨y3.id, q, t, e⟩] ∧ kp = [] ∧ c = 0 := ⟨congrArg (·.1) ee, congrArg (·.2.1) ee, congrArg (·.2.2) ee⟩
              subst e1
              simp [go_sem, bne, tf', P2']
              refine DrawW.rdN [28] (by simp [go_sem]) rfl ?_
              simp [go_sem]
              refine OpD.call false fe rfl rfl (by simp [go_sem]) (fun h => by cases h) (by simp [go_sem]) (by simp [go_sem]) ?_
              simp [go_sem]
              refine OpD.buildS rfl rfl (by simp [go_sem]) (by simp [go_sem]; rfl) (by simp [go_sem]; rfl) (by simp [go_sem]; rfl) (by simp [go_sem]) ?_
              simp [go_sem]
              refine OpD.alloc rfl rfl (by simp [go_sem]) (by simp [go_sem]) (by simp [go_sem]; rfl) (by simp [go_sem]; rfl) ?_
              simp [go_sem]
              refine ⟨by kernel_rfl, ?_⟩
              simp [go_sem, tf']
              refine OpW.fn true fsame rfl rfl (by simp [go_sem]) (by rintro _ r rfl; simp [go_sem]) ?_
              rintro r rfl
              simp [go_sem]
          · have tf' : (t == y4) = false := by simpa using tf
            obtain ⟨g1, g2⟩ := fC rfl (.inr rfl)
            cases gb with
            | true =>
              have ee := g1 rfl
              obtain ⟨rfl, rfl, rfl⟩ : bg = [] ∧ kp = [] ∧ c = 7 := ⟨congrArg (·.1) ee, congrArg (·.2.1) ee, congrArg (·.2.2) ee⟩
              simp [go_sem, bne, tf', P2']
            | false =>
              have ee := (g2 rfl).2 tf
              obtain ⟨rfl, e1, rfl⟩ : bg = [] ∧ kp = [⟨y3.id, q, t, e⟩] ∧ c = 0 := ⟨congrArg (·.1) ee, congrArg (·.2.1) ee, congrArg (·.2.2) ee⟩
              subst e1
              simp [go_sem, bne, tf', P2']
              refine DrawW.rdN [28] (by simp [go_sem]) rfl ?_
              simp [go_sem]
              refine OpD.call false fe rfl rfl (by simp [go_sem]) (fun h => by cases h) (by simp [go_sem]) (by simp [go_sem]) ?_
              simp [go_sem]
              refine OpD.buildS rfl rfl (by simp [go_sem]) (by simp [go_sem]; rfl) (by simp [go_sem]; rfl) (by simp [go_sem]; rfl) (by simp [go_sem]) ?_
              simp [go_sem]
              refine OpD.alloc rfl rfl (by simp [go_sem]) (by simp [go_sem]) (by simp [go_sem]; rfl) (by simp [go_sem]; rfl) ?_
              simp [go_sem]
              refine ⟨by kernel_rfl, ?_⟩
              simp [go_sem, tf']
              refine OpW.fn true fsame rfl rfl (by simp [go_sem]) (by rintro _ r rfl; simp [go_sem]) ?_
              rintro r rfl
              simp [go_sem]
    · have P2' : (y6 % 3 + 1 == 2) = false := by simpa using P2
      by_cases P3 : y6 % 3 + 1 = 3
      · have P3' : (y6 % 3 + 1 == 3) = true := by simpa using P3
        by_cases D0 : 0 < y7 % 9
        · have hK : K = true := by rw [hKd]; simp [P3, D0]
          subst hK
          simp [go_sem, P2', P3', D0]
          refine OpW.fn true (heldRight_c y2 (by omega) s4) rfl rfl (by simp [go_sem]) (by rintro _ r rfl; simp [go_sem]) ?_
          rintro r rfl
          cases hT : isTab y2 with
          | false =>
            have ee := fal.1 hT
            obtain ⟨rfl, rfl, rfl⟩ : bg = [] ∧ kp = [] ∧ c = 1 := ⟨congrArg (·.1) ee, congrArg (·.2.1) ee, congrArg (·.2.2) ee⟩
            simp [go_sem]
          | true =>
            obtain ⟨fB, fC⟩ := fal.2 hT
            cases ok with
            | false =>
              have ee := fB (.inl rfl)
              obtain ⟨rfl, rfl, rfl⟩ : bg = [] ∧ kp = [] ∧ c = 0 := ⟨congrArg (·.1) ee, congrArg (·.2.1) ee, congrArg (·.2.2) ee⟩
              simp [go_sem]
            | true =>
              by_cases tf : t = y4
              · have tf' : (t == y4) = true := by simpa using tf
                obtain ⟨g1, g2⟩ := fC rfl (.inl tf)
                cases gb with
                | true =>
                  have ee := g1 rfl
                  obtain ⟨rfl, rfl, rfl⟩ : bg = [] ∧ kp = [] ∧ c = 7 := ⟨congrArg (·.1) ee, congrArg (·.2.1) ee, congrArg (·.2.2) ee⟩
                  simp [go_sem, bne, tf', P2', P3', D0]
                | false =>
                  have ee := (g2 rfl).1 tf
                  obtain ⟨e1, rfl, rfl⟩ : bg = [⟨y3.id, q, t, e⟩] ∧ kp = [] ∧ c = 0 := ⟨congrArg (·.1) ee, congrArg (·.2.1) ee, congrArg (·.2.2) ee⟩
                  subst e1
                  simp [go_sem, bne, tf', P2', P3', D0]
                  refine DrawW.rdN [28] (by simp [go_sem]) rfl ?_
                  simp [go_sem]
                  refine OpD.call false fe rfl rfl (by simp [go_sem]) (fun h => by cases h) (by simp [go_sem]) (by simp [go_sem]) ?_
                  simp [go_sem]
                  refine OpD.buildS rfl rfl (by simp [go_sem]) (by simp [go_sem]; rfl) (by simp [go_sem]; rfl) (by simp [go_sem]; rfl) (by simp [go_sem]) ?_
                  simp [go_sem]
                  refine OpD.alloc rfl rfl (by simp [go_sem]) (by simp [go_sem]) (by simp [go_sem]; rfl) (by simp [go_sem]; rfl) ?_
                  simp [go_sem]
                  refine ⟨by kernel_rfl, ?_⟩
                  simp [go_sem, tf']
                  refine OpW.fn true fsame rfl rfl (by simp [go_sem]) (by rintro _ r rfl; simp [go_sem]) ?_
                  rintro r rfl
                  simp [go_sem]
              · have tf' : (t == y4) = false := by simpa using tf
                obtain ⟨g1, g2⟩ := fC rfl (.inr rfl)
                cases gb with
                | true =>
                  have ee := g1 rfl
                  obtain ⟨rfl, rfl, rfl⟩ : bg = [] ∧ kp = [] ∧ c = 7 := ⟨congrArg (·.1) ee, congrArg (·.2.1) ee, congrArg (·.2.2) ee⟩
                  simp [go_sem, bne, tf', P2', P3', D0]
                | false =>
                  have ee := (g2 rfl).2 tf
                  obtain ⟨rfl, e1, rfl⟩ : bg = [] ∧ kp = [⟨y3.id, q, t, e⟩] ∧ c = 0 := ⟨congrArg (·.1) ee, congrArg (·.2.1) ee, congrArg (·.2.2) ee⟩
                  subst e1
                  simp [go_sem, bne, tf', P2', P3', D0]
                  refine DrawW.rdN [28] (by simp [go_sem]) rfl ?_
                  simp [go_sem]
                  refine OpD.call false fe rfl rfl (by simp [go_sem]) (fun h => by cases h) (by simp [go_sem]) (by simp [go_sem]) ?_
                  simp [go_sem]
                  refine OpD.buildS rfl rfl (by simp [go_sem]) (by simp [go_sem]; rfl) (by simp [go_sem]; rfl) (by simp [go_sem]; rfl) (by simp [go_sem]) ?_
                  simp [go_sem]
                  refine OpD.alloc rfl rfl (by simp [go_sem]) (by simp [go_sem]) (by simp [go_sem]; rfl) (by simp [go_sem]; rfl) ?_
                  simp [go_sem]
                  refine ⟨by kernel_rfl, ?_⟩
                  simp [go_sem, tf']
                  refine OpW.fn true fsame rfl rfl (by simp [go_sem]) (by rintro _ r rfl; simp [go_sem]) ?_
                  rintro r rfl
                  simp [go_sem]
        · have hK : K = false := by rw [hKd]; simp [P2, D0]
          subst hK
          simp [go_sem, P2', P3', D0]
          refine OpW.fn true (heldRight_c y2 (by omega) s4) rfl rfl (by simp [go_sem]) (by rintro _ r rfl; simp [go_sem]) ?_
          rintro r rfl
          cases hT : isTab y2 with
          | false =>
            have ee := fal.1 hT
            obtain ⟨rfl, rfl, rfl⟩ : bg = [] ∧ kp = [] ∧ c = 1 := ⟨congrArg (·.1) ee, congrArg (·.2.1) ee, congrArg (·.2.2) ee⟩
            simp [go_sem]
          | true =>
            obtain ⟨fB, fC⟩ := fal.2 hT
            cases ok with
            | false =>
              have ee := fB (.inl rfl)
              obtain ⟨rfl, rfl, rfl⟩ : bg = [] ∧ kp = [] ∧ c = 0 := ⟨congrArg (·.1) ee, congrArg (·.2.1) ee, congrArg (·.2.2) ee⟩
              simp [go_sem]
            | true =>
              by_cases tf : t = y4
              · have tf' : (t == y4) = true := by simpa using tf
                obtain ⟨g1, g2⟩ := fC rfl (.inl tf)
                cases gb with
                | true =>
                  have ee := g1 rfl
                  obtain ⟨rfl, rfl, rfl⟩ : bg = [] ∧ kp = [] ∧ c = 7 := ⟨congrArg (·.1) ee, congrArg (·.2.1) ee, congrArg (·.2.2) ee⟩
                  simp [go_sem, bne, tf', P2', P3', D0]
                | false =>
                  have ee := (g2 rfl).1 tf
                  obtain ⟨e1, rfl, rfl⟩ : bg = [⟨y3.id, q, t, e⟩] ∧ kp = [] ∧ c = 0 := ⟨congrArg (·.1) ee, congrArg (·.2.1) ee, congrArg (·.2.2) ee⟩
                  subst e1
                  simp [go_sem, bne, tf', P2', P3', D0]
                  refine DrawW.rdN [28] (by simp [go_sem]) rfl ?_
                  simp [go_sem]
                  refine OpD.call false fe rfl rfl (by simp [go_sem]) (fun h => by cases h) (by simp [go_sem]) (by simp [go_sem]) ?_
                  simp [go_sem]
                  refine OpD.buildS rfl rfl (by simp [go_sem]) (by simp [go_sem]; rfl) (by simp [go_sem]; rfl) (by simp [go_sem]; rfl) (by simp [go_sem]) ?_
                  simp [go_sem]
                  refine OpD.alloc rfl rfl (by simp [go_sem]) (by simp [go_sem]) (by simp [go_sem]; rfl) (by simp [go_sem]; rfl) ?_
                  simp [go_sem]
                  refine ⟨by kernel_rfl, ?_⟩
                  simp [go_sem, tf']
                  refine OpW.fn true fsame rfl rfl (by simp [go_sem]) (by rintro _ r rfl; simp [go_sem]) ?_
                  rintro r rfl
                  simp [go_sem]
              · have tf' : (t == y4) = false := by simpa using tf
                have ee := fB (.inr ⟨tf, rfl⟩)
                obtain ⟨rfl, rfl, rfl⟩ : bg = [] ∧ kp = [] ∧ c = 0 := ⟨congrArg (·.1) ee, congrArg (·.2.1) ee, congrArg (·.2.2) ee⟩
                simp [go_sem, bne, tf', P2', P3', D0]
      · have P3' : (y6 % 3 + 1 == 3) = false := by simpa using P3
        have hK : K = false := by rw [hKd]; simp [P2, P3]
        subst hK
        simp [go_sem, P2', P3']
        refine OpW.fn true (heldRight_c y2 (by omega) s4) rfl rfl (by simp [go_sem]) (by rintro _ r rfl; simp [go_sem]) ?_
        rintro r rfl
        cases hT : isTab y2 with
        | false =>
          have ee := fal.1 hT
          obtain ⟨rfl, rfl, rfl⟩ : bg = [] ∧ kp = [] ∧ c = 1 := ⟨congrArg (·.1) ee, congrArg (·.2.1) ee, congrArg (·.2.2) ee⟩
          simp [go_sem]
        | true =>
          obtain ⟨fB, fC⟩ := fal.2 hT
          cases ok with
          | false =>
            have ee := fB (.inl rfl)
            obtain ⟨rfl, rfl, rfl⟩ : bg = [] ∧ kp = [] ∧ c = 0 := ⟨congrArg (·.1) ee, congrArg (·.2.1) ee, congrArg (·.2.2) ee⟩
            simp [go_sem]
          | true =>
            by_cases tf : t = y4
            · have tf' : (t == y4) = true := by simpa using tf
              obtain ⟨g1, g2⟩ := fC rfl (.inl tf)
              cases gb with
              | true =>
                have ee := g1 rfl
                obtain ⟨rfl, rfl, rfl⟩ : bg = [] ∧ kp = [] ∧ c = 7 := ⟨congrArg (·.1) ee, congrArg (·.2.1) ee, congrArg (·.2.2) ee⟩
                simp [go_sem, bne, tf', P2', P3']
              | false =>
                have ee := (g2 rfl).1 tf
                obtain ⟨e1, rfl, rfl⟩ : bg = [⟨y3.id, q, t, e⟩] ∧ kp = [] ∧ c = 0 := ⟨congrArg (·.1) ee, congrArg (·.2.1) ee, congrArg (·.2.2) ee⟩
                subst e1
                simp [go_sem, bne, tf', P2', P3']
                refine DrawW.rdN [28] (by simp [go_sem]) rfl ?_
                simp [go_sem]
                refine OpD.call false fe rfl rfl (by simp [go_sem]) (fun h => by cases h) (by simp [go_sem]) (by simp [go_sem]) ?_
                simp [go_sem]
                refine OpD.buildS rfl rfl (by simp [go_sem]) (by simp [go_sem]; rfl) (by simp [go_sem]; rfl) (by simp [go_sem]; rfl) (by simp [go_sem]) ?_
                simp [go_sem]
                refine OpD.alloc rfl rfl (by simp [go_sem]) (by simp [go_sem]) (by simp [go_sem]; rfl) (by simp [go_sem]; rfl) ?_
                simp [go_sem]
                refine ⟨by kernel_rfl, ?_⟩
                simp [go_sem, tf']
                refine OpW.fn true fsame rfl rfl (by simp [go_sem]) (by rintro _ r rfl; simp [go_sem]) ?_
                rintro r rfl
                simp [go_sem]
            · have tf' : (t == y4) = false := by simpa using tf
              have ee := fB (.inr ⟨tf, rfl⟩)
              obtain ⟨rfl, rfl, rfl⟩ : bg = [] ∧ kp = [] ∧ c = 0 := ⟨congrArg (·.1) ee, congrArg (·.2.1) ee, congrArg (·.2.2) ee⟩
              simp [go_sem, bne, tf', P2', P3']
end Go.Proofs.YtinhfnbmgmociaaDoor.Ab
