/- job.times. -/
import Derived.Test.YtnkcenafpigmbaaQu1
namespace Go.Proofs.Ytnkcenafpigmbaa.Ab
open Go.RowKit
set_option linter.unusedVariables false
set_option linter.unusedSimpArgs false

set_option maxHeartbeats 16000000 in
set_option maxRecDepth 100000 in
theorem times_c (j : Job) : ACalls Try.prog 76 [jobSV j] (· = .one (.sv (bv (isTimes j)))) := by
  refine ACalls.of_bodyS (fun _ _ => Try.call76 _ _) Try.func76 rfl Try.ntmps76 (by simp) ?_
  refine Tr.ex ?_
  have hB : beganB j = (isWhen j.began && decide (j.added ≤ j.began)) := rfl
  have hE : endedB j = (isWhen j.ended && decide (max j.added j.began ≤ j.ended)) := rfl
  have hst : (j.state = 0 ∨ j.state = 1 ∨ j.state = 2 ∨ j.state = 3 ∨ j.state = 4 ∨ j.state = 5 ∨ j.state = 6) ∨ (¬ j.state = 0 ∧ ¬ j.state = 1 ∧ ¬ j.state = 2 ∧ ¬ j.state = 3 ∧ ¬ j.state = 4 ∧ ¬ j.state = 5 ∧ ¬ j.state = 6 ∧ (j.state == 0) = false ∧ (j.state == 1) = false ∧ (j.state == 2) = false ∧ (j.state == 3) = false ∧ (j.state == 4) = false ∧ (j.state == 5) = false ∧ (j.state == 6) = false) := by simp; omega
  unfold isTimes
  simp [go_sem]
  refine OpW.fn true (wRight_c j.began) rfl rfl (by simp [go_sem]) (by rintro _ r rfl; simp [go_sem]) ?_
  rintro r rfl
  cases w1 : isWhen j.began with
  | false =>
    have hB2 : beganB j = false := by rw [hB, w1]; rfl
    simp [go_sem]
    refine OpW.fn true (wRight_c j.ended) rfl rfl (by simp [go_sem]) (by rintro _ r rfl; simp [go_sem]) ?_
    rintro r rfl
    cases w2 : isWhen j.ended with
    | false =>
      have hE2 : endedB j = false := by rw [hE, w2]; rfl
      simp only [hE2, hB2]
      rcases hst with (h | h | h | h | h | h | h) | ⟨h0, h1, h2, h3, h4, h5, h6, q0, q1, q2, q3, q4, q5, q6⟩
      · by_cases b0 : j.began = 0
        · have b1 : (j.began == 0) = true := by simpa using b0
          by_cases e0 : j.ended = 0
          · have e1 : (j.ended == 0) = true := by simpa using e0
            simp [go_sem, bne, h, b0, b1, e0, e1] <;> split <;> omega
          · have e1 : (j.ended == 0) = false := by simpa using e0
            simp [go_sem, bne, h, b0, b1, e0, e1] <;> split <;> omega
        · have b1 : (j.began == 0) = false := by simpa using b0
          simp [go_sem, bne, h, b0, b1] <;> split <;> omega
      · by_cases b0 : j.began = 0
        · have b1 : (j.began == 0) = true := by simpa using b0
          by_cases e0 : j.ended = 0
          · have e1 : (j.ended == 0) = true := by simpa using e0
            simp [go_sem, bne, h, b0, b1, e0, e1] <;> split <;> omega
          · have e1 : (j.ended == 0) = false := by simpa using e0
            simp [go_sem, bne, h, b0, b1, e0, e1] <;> split <;> omega
        · have b1 : (j.began == 0) = false := by simpa using b0
          simp [go_sem, bne, h, b0, b1] <;> split <;> omega
      · by_cases e0 : j.ended = 0
        · have e1 : (j.ended == 0) = true := by simpa using e0
          simp [go_sem, bne, h, e0, e1] <;> split <;> omega
        · have e1 : (j.ended == 0) = false := by simpa using e0
          simp [go_sem, bne, h, e0, e1] <;> split <;> omega
      · simp [go_sem, bne, h] <;> split <;> omega
      · simp [go_sem, bne, h] <;> split <;> omega
      · by_cases b0 : j.began = 0
        · have b1 : (j.began == 0) = true := by simpa using b0
          simp [go_sem, bne, h, b0, b1] <;> split <;> omega
        · have b1 : (j.began == 0) = false := by simpa using b0
          simp [go_sem, bne, h, b0, b1] <;> split <;> omega
      · by_cases b0 : j.began = 0
        · have b1 : (j.began == 0) = true := by simpa using b0
          simp [go_sem, bne, h, b0, b1] <;> split <;> omega
        · have b1 : (j.began == 0) = false := by simpa using b0
          simp [go_sem, bne, h, b0, b1] <;> split <;> omega
      · simp [go_sem, bne, h0, h1, h2, h3, h4, h5, h6, q0, q1, q2, q3, q4, q5, q6]
    | true =>
      by_cases a2 : max j.added j.began ≤ j.ended
      · have hE2 : endedB j = true := by rw [hE, w2]; simp [a2]
        simp only [hE2, hB2]
        have a2a : j.added ≤ j.ended := by omega
        have a2b : j.began ≤ j.ended := by omega
        rcases hst with (h | h | h | h | h | h | h) | ⟨h0, h1, h2, h3, h4, h5, h6, q0, q1, q2, q3, q4, q5, q6⟩
        · by_cases b0 : j.began = 0
          · have b1 : (j.began == 0) = true := by simpa using b0
            by_cases e0 : j.ended = 0
            · have e1 : (j.ended == 0) = true := by simpa using e0
              simp [go_sem, bne, a2, a2a, a2b, h, b0, b1, e0, e1] <;> split <;> omega
            · have e1 : (j.ended == 0) = false := by simpa using e0
              simp [go_sem, bne, a2, a2a, a2b, h, b0, b1, e0, e1] <;> split <;> omega
          · have b1 : (j.began == 0) = false := by simpa using b0
            simp [go_sem, bne, a2, a2a, a2b, h, b0, b1] <;> split <;> omega
        · by_cases b0 : j.began = 0
          · have b1 : (j.began == 0) = true := by simpa using b0
            by_cases e0 : j.ended = 0
            · have e1 : (j.ended == 0) = true := by simpa using e0
              simp [go_sem, bne, a2, a2a, a2b, h, b0, b1, e0, e1] <;> split <;> omega
            · have e1 : (j.ended == 0) = false := by simpa using e0
              simp [go_sem, bne, a2, a2a, a2b, h, b0, b1, e0, e1] <;> split <;> omega
          · have b1 : (j.began == 0) = false := by simpa using b0
            simp [go_sem, bne, a2, a2a, a2b, h, b0, b1] <;> split <;> omega
        · by_cases e0 : j.ended = 0
          · have e1 : (j.ended == 0) = true := by simpa using e0
            simp [go_sem, bne, a2, a2a, a2b, h, e0, e1] <;> split <;> omega
          · have e1 : (j.ended == 0) = false := by simpa using e0
            simp [go_sem, bne, a2, a2a, a2b, h, e0, e1] <;> split <;> omega
        · simp [go_sem, bne, a2, a2a, a2b, h] <;> split <;> omega
        · simp [go_sem, bne, a2, a2a, a2b, h] <;> split <;> omega
        · by_cases b0 : j.began = 0
          · have b1 : (j.began == 0) = true := by simpa using b0
            simp [go_sem, bne, a2, a2a, a2b, h, b0, b1] <;> split <;> omega
          · have b1 : (j.began == 0) = false := by simpa using b0
            simp [go_sem, bne, a2, a2a, a2b, h, b0, b1] <;> split <;> omega
        · by_cases b0 : j.began = 0
          · have b1 : (j.began == 0) = true := by simpa using b0
            simp [go_sem, bne, a2, a2a, a2b, h, b0, b1] <;> split <;> omega
          · have b1 : (j.began == 0) = false := by simpa using b0
            simp [go_sem, bne, a2, a2a, a2b, h, b0, b1] <;> split <;> omega
        · simp [go_sem, bne, a2, a2a, a2b, h0, h1, h2, h3, h4, h5, h6, q0, q1, q2, q3, q4, q5, q6]
      · have hE2 : endedB j = false := by rw [hE, w2]; simp [a2]
        simp only [hE2, hB2]
        rcases hst with (h | h | h | h | h | h | h) | ⟨h0, h1, h2, h3, h4, h5, h6, q0, q1, q2, q3, q4, q5, q6⟩
        · by_cases b0 : j.began = 0
          · have b1 : (j.began == 0) = true := by simpa using b0
            by_cases e0 : j.ended = 0
            · have e1 : (j.ended == 0) = true := by simpa using e0
              simp [go_sem, bne, a2, h, b0, b1, e0, e1] <;> split <;> omega
            · have e1 : (j.ended == 0) = false := by simpa using e0
              simp [go_sem, bne, a2, h, b0, b1, e0, e1] <;> split <;> omega
          · have b1 : (j.began == 0) = false := by simpa using b0
            simp [go_sem, bne, a2, h, b0, b1] <;> split <;> omega
        · by_cases b0 : j.began = 0
          · have b1 : (j.began == 0) = true := by simpa using b0
            by_cases e0 : j.ended = 0
            · have e1 : (j.ended == 0) = true := by simpa using e0
              simp [go_sem, bne, a2, h, b0, b1, e0, e1] <;> split <;> omega
            · have e1 : (j.ended == 0) = false := by simpa using e0
              simp [go_sem, bne, a2, h, b0, b1, e0, e1] <;> split <;> omega
          · have b1 : (j.began == 0) = false := by simpa using b0
            simp [go_sem, bne, a2, h, b0, b1] <;> split <;> omega
        · by_cases e0 : j.ended = 0
          · have e1 : (j.ended == 0) = true := by simpa using e0
            simp [go_sem, bne, a2, h, e0, e1] <;> split <;> omega
          · have e1 : (j.ended == 0) = false := by simpa using e0
            simp [go_sem, bne, a2, h, e0, e1] <;> split <;> omega
        · simp [go_sem, bne, a2, h] <;> split <;> omega
        · simp [go_sem, bne, a2, h] <;> split <;> omega
        · by_cases b0 : j.began = 0
          · have b1 : (j.began == 0) = true := by simpa using b0
            simp [go_sem, bne, a2, h, b0, b1] <;> split <;> omega
          · have b1 : (j.began == 0) = false := by simpa using b0
            simp [go_sem, bne, a2, h, b0, b1] <;> split <;> omega
        · by_cases b0 : j.began = 0
          · have b1 : (j.began == 0) = true := by simpa using b0
            simp [go_sem, bne, a2, h, b0, b1] <;> split <;> omega
          · have b1 : (j.began == 0) = false := by simpa using b0
            simp [go_sem, bne, a2, h, b0, b1] <;> split <;> omega
        · simp [go_sem, bne, a2, h0, h1, h2, h3, h4, h5, h6, q0, q1, q2, q3, q4, q5, q6]
  | true =>
    by_cases a1 : j.added ≤ j.began
    · have hB2 : beganB j = true := by rw [hB, w1]; simp [a1]
      simp [go_sem, a1]
      refine OpW.fn true (wRight_c j.ended) rfl rfl (by simp [go_sem]) (by rintro _ r rfl; simp [go_sem]) ?_
      rintro r rfl
      cases w2 : isWhen j.ended with
      | false =>
        have hE2 : endedB j = false := by rw [hE, w2]; rfl
        simp only [hE2, hB2]
        rcases hst with (h | h | h | h | h | h | h) | ⟨h0, h1, h2, h3, h4, h5, h6, q0, q1, q2, q3, q4, q5, q6⟩
        · by_cases b0 : j.began = 0
          · have b1 : (j.began == 0) = true := by simpa using b0
            by_cases e0 : j.ended = 0
            · have e1 : (j.ended == 0) = true := by simpa using e0
              simp [go_sem, a1, h, b0, b1, e0, e1] <;> split <;> omega
            · have e1 : (j.ended == 0) = false := by simpa using e0
              simp [go_sem, a1, h, b0, b1, e0, e1] <;> split <;> omega
          · have b1 : (j.began == 0) = false := by simpa using b0
            simp [go_sem, a1, h, b0, b1] <;> split <;> omega
        · by_cases b0 : j.began = 0
          · have b1 : (j.began == 0) = true := by simpa using b0
            by_cases e0 : j.ended = 0
            · have e1 : (j.ended == 0) = true := by simpa using e0
              simp [go_sem, a1, h, b0, b1, e0, e1] <;> split <;> omega
            · have e1 : (j.ended == 0) = false := by simpa using e0
              simp [go_sem, a1, h, b0, b1, e0, e1] <;> split <;> omega
          · have b1 : (j.began == 0) = false := by simpa using b0
            simp [go_sem, a1, h, b0, b1] <;> split <;> omega
        · by_cases e0 : j.ended = 0
          · have e1 : (j.ended == 0) = true := by simpa using e0
            simp [go_sem, a1, h, e0, e1] <;> split <;> omega
          · have e1 : (j.ended == 0) = false := by simpa using e0
            simp [go_sem, a1, h, e0, e1] <;> split <;> omega
        · simp [go_sem, a1, h] <;> split <;> omega
        · simp [go_sem, a1, h] <;> split <;> omega
        · by_cases b0 : j.began = 0
          · have b1 : (j.began == 0) = true := by simpa using b0
            simp [go_sem, a1, h, b0, b1] <;> split <;> omega
          · have b1 : (j.began == 0) = false := by simpa using b0
            simp [go_sem, a1, h, b0, b1] <;> split <;> omega
        · by_cases b0 : j.began = 0
          · have b1 : (j.began == 0) = true := by simpa using b0
            simp [go_sem, a1, h, b0, b1] <;> split <;> omega
          · have b1 : (j.began == 0) = false := by simpa using b0
            simp [go_sem, a1, h, b0, b1] <;> split <;> omega
        · simp [go_sem, a1, h0, h1, h2, h3, h4, h5, h6, q0, q1, q2, q3, q4, q5, q6]
      | true =>
        by_cases a2 : max j.added j.began ≤ j.ended
        · have hE2 : endedB j = true := by rw [hE, w2]; simp [a2]
          simp only [hE2, hB2]
          have a2a : j.added ≤ j.ended := by omega
          have a2b : j.began ≤ j.ended := by omega
          rcases hst with (h | h | h | h | h | h | h) | ⟨h0, h1, h2, h3, h4, h5, h6, q0, q1, q2, q3, q4, q5, q6⟩
          · by_cases b0 : j.began = 0
            · have b1 : (j.began == 0) = true := by simpa using b0
              by_cases e0 : j.ended = 0
              · have e1 : (j.ended == 0) = true := by simpa using e0
                simp [go_sem, a1, a2, a2a, a2b, h, b0, b1, e0, e1] <;> split <;> omega
              · have e1 : (j.ended == 0) = false := by simpa using e0
                simp [go_sem, a1, a2, a2a, a2b, h, b0, b1, e0, e1] <;> split <;> omega
            · have b1 : (j.began == 0) = false := by simpa using b0
              simp [go_sem, a1, a2, a2a, a2b, h, b0, b1] <;> split <;> omega
          · by_cases b0 : j.began = 0
            · have b1 : (j.began == 0) = true := by simpa using b0
              by_cases e0 : j.ended = 0
              · have e1 : (j.ended == 0) = true := by simpa using e0
                simp [go_sem, a1, a2, a2a, a2b, h, b0, b1, e0, e1] <;> split <;> omega
              · have e1 : (j.ended == 0) = false := by simpa using e0
                simp [go_sem, a1, a2, a2a, a2b, h, b0, b1, e0, e1] <;> split <;> omega
            · have b1 : (j.began == 0) = false := by simpa using b0
              simp [go_sem, a1, a2, a2a, a2b, h, b0, b1] <;> split <;> omega
          · by_cases e0 : j.ended = 0
            · have e1 : (j.ended == 0) = true := by simpa using e0
              simp [go_sem, a1, a2, a2a, a2b, h, e0, e1] <;> split <;> omega
            · have e1 : (j.ended == 0) = false := by simpa using e0
              simp [go_sem, a1, a2, a2a, a2b, h, e0, e1] <;> split <;> omega
          · simp [go_sem, a1, a2, a2a, a2b, h] <;> split <;> omega
          · simp [go_sem, a1, a2, a2a, a2b, h] <;> split <;> omega
          · by_cases b0 : j.began = 0
            · have b1 : (j.began == 0) = true := by simpa using b0
              simp [go_sem, a1, a2, a2a, a2b, h, b0, b1] <;> split <;> omega
            · have b1 : (j.began == 0) = false := by simpa using b0
              simp [go_sem, a1, a2, a2a, a2b, h, b0, b1] <;> split <;> omega
          · by_cases b0 : j.began = 0
            · have b1 : (j.began == 0) = true := by simpa using b0
              simp [go_sem, a1, a2, a2a, a2b, h, b0, b1] <;> split <;> omega
            · have b1 : (j.began == 0) = false := by simpa using b0
              simp [go_sem, a1, a2, a2a, a2b, h, b0, b1] <;> split <;> omega
          · simp [go_sem, a1, a2, a2a, a2b, h0, h1, h2, h3, h4, h5, h6, q0, q1, q2, q3, q4, q5, q6]
        · have hE2 : endedB j = false := by rw [hE, w2]; simp [a2]
          simp only [hE2, hB2]
          rcases hst with (h | h | h | h | h | h | h) | ⟨h0, h1, h2, h3, h4, h5, h6, q0, q1, q2, q3, q4, q5, q6⟩
          · by_cases b0 : j.began = 0
            · have b1 : (j.began == 0) = true := by simpa using b0
              by_cases e0 : j.ended = 0
              · have e1 : (j.ended == 0) = true := by simpa using e0
                simp [go_sem, a1, a2, h, b0, b1, e0, e1] <;> split <;> omega
              · have e1 : (j.ended == 0) = false := by simpa using e0
                simp [go_sem, a1, a2, h, b0, b1, e0, e1] <;> split <;> omega
            · have b1 : (j.began == 0) = false := by simpa using b0
              simp [go_sem, a1, a2, h, b0, b1] <;> split <;> omega
          · by_cases b0 : j.began = 0
            · have b1 : (j.began == 0) = true := by simpa using b0
              by_cases e0 : j.ended = 0
              · have e1 : (j.ended == 0) = true := by simpa using e0
                simp [go_sem, a1, a2, h, b0, b1, e0, e1] <;> split <;> omega
              · have e1 : (j.ended == 0) = false := by simpa using e0
                simp [go_sem, a1, a2, h, b0, b1, e0, e1] <;> split <;> omega
            · have b1 : (j.began == 0) = false := by simpa using b0
              simp [go_sem, a1, a2, h, b0, b1] <;> split <;> omega
          · by_cases e0 : j.ended = 0
            · have e1 : (j.ended == 0) = true := by simpa using e0
              simp [go_sem, a1, a2, h, e0, e1] <;> split <;> omega
            · have e1 : (j.ended == 0) = false := by simpa using e0
              simp [go_sem, a1, a2, h, e0, e1] <;> split <;> omega
          · simp [go_sem, a1, a2, h] <;> split <;> omega
          · simp [go_sem, a1, a2, h] <;> split <;> omega
          · by_cases b0 : j.began = 0
            · have b1 : (j.began == 0) = true := by simpa using b0
              simp [go_sem, a1, a2, h, b0, b1] <;> split <;> omega
            · have b1 : (j.began == 0) = false := by simpa using b0
              simp [go_sem, a1, a2, h, b0, b1] <;> split <;> omega
          · by_cases b0 : j.began = 0
            · have b1 : (j.began == 0) = true := by simpa using b0
              simp [go_sem, a1, a2, h, b0, b1] <;> split <;> omega
            · have b1 : (j.began == 0) = false := by simpa using b0
              simp [go_sem, a1, a2, h, b0, b1] <;> split <;> omega
          · simp [go_sem, a1, a2, h0, h1, h2, h3, h4, h5, h6, q0, q1, q2, q3, q4, q5, q6]
    · have hB2 : beganB j = false := by rw [hB, w1]; simp [a1]
      simp [go_sem, a1]
      refine OpW.fn true (wRight_c j.ended) rfl rfl (by simp [go_sem]) (by rintro _ r rfl; simp [go_sem]) ?_
      rintro r rfl
      cases w2 : isWhen j.ended with
      | false =>
        have hE2 : endedB j = false := by rw [hE, w2]; rfl
        simp only [hE2, hB2]
        rcases hst with (h | h | h | h | h | h | h) | ⟨h0, h1, h2, h3, h4, h5, h6, q0, q1, q2, q3, q4, q5, q6⟩
        · by_cases b0 : j.began = 0
          · have b1 : (j.began == 0) = true := by simpa using b0
            by_cases e0 : j.ended = 0
            · have e1 : (j.ended == 0) = true := by simpa using e0
              simp [go_sem, a1, h, b0, b1, e0, e1] <;> split <;> omega
            · have e1 : (j.ended == 0) = false := by simpa using e0
              simp [go_sem, a1, h, b0, b1, e0, e1] <;> split <;> omega
          · have b1 : (j.began == 0) = false := by simpa using b0
            simp [go_sem, a1, h, b0, b1] <;> split <;> omega
        · by_cases b0 : j.began = 0
          · have b1 : (j.began == 0) = true := by simpa using b0
            by_cases e0 : j.ended = 0
            · have e1 : (j.ended == 0) = true := by simpa using e0
              simp [go_sem, a1, h, b0, b1, e0, e1] <;> split <;> omega
            · have e1 : (j.ended == 0) = false := by simpa using e0
              simp [go_sem, a1, h, b0, b1, e0, e1] <;> split <;> omega
          · have b1 : (j.began == 0) = false := by simpa using b0
            simp [go_sem, a1, h, b0, b1] <;> split <;> omega
        · by_cases e0 : j.ended = 0
          · have e1 : (j.ended == 0) = true := by simpa using e0
            simp [go_sem, a1, h, e0, e1] <;> split <;> omega
          · have e1 : (j.ended == 0) = false := by simpa using e0
            simp [go_sem, a1, h, e0, e1] <;> split <;> omega
        · simp [go_sem, a1, h] <;> split <;> omega
        · simp [go_sem, a1, h] <;> split <;> omega
        · by_cases b0 : j.began = 0
          · have b1 : (j.began == 0) = true := by simpa using b0
            simp [go_sem, a1, h, b0, b1] <;> split <;> omega
          · have b1 : (j.began == 0) = false := by simpa using b0
            simp [go_sem, a1, h, b0, b1] <;> split <;> omega
        · by_cases b0 : j.began = 0
          · have b1 : (j.began == 0) = true := by simpa using b0
            simp [go_sem, a1, h, b0, b1] <;> split <;> omega
          · have b1 : (j.began == 0) = false := by simpa using b0
            simp [go_sem, a1, h, b0, b1] <;> split <;> omega
        · simp [go_sem, a1, h0, h1, h2, h3, h4, h5, h6, q0, q1, q2, q3, q4, q5, q6]
      | true =>
        by_cases a2 : max j.added j.began ≤ j.ended
        · have hE2 : endedB j = true := by rw [hE, w2]; simp [a2]
          simp only [hE2, hB2]
          have a2a : j.added ≤ j.ended := by omega
          have a2b : j.began ≤ j.ended := by omega
          rcases hst with (h | h | h | h | h | h | h) | ⟨h0, h1, h2, h3, h4, h5, h6, q0, q1, q2, q3, q4, q5, q6⟩
          · by_cases b0 : j.began = 0
            · have b1 : (j.began == 0) = true := by simpa using b0
              by_cases e0 : j.ended = 0
              · have e1 : (j.ended == 0) = true := by simpa using e0
                simp [go_sem, a1, a2, a2a, a2b, h, b0, b1, e0, e1] <;> split <;> omega
              · have e1 : (j.ended == 0) = false := by simpa using e0
                simp [go_sem, a1, a2, a2a, a2b, h, b0, b1, e0, e1] <;> split <;> omega
            · have b1 : (j.began == 0) = false := by simpa using b0
              simp [go_sem, a1, a2, a2a, a2b, h, b0, b1] <;> split <;> omega
          · by_cases b0 : j.began = 0
            · have b1 : (j.began == 0) = true := by simpa using b0
              by_cases e0 : j.ended = 0
              · have e1 : (j.ended == 0) = true := by simpa using e0
                simp [go_sem, a1, a2, a2a, a2b, h, b0, b1, e0, e1] <;> split <;> omega
              · have e1 : (j.ended == 0) = false := by simpa using e0
                simp [go_sem, a1, a2, a2a, a2b, h, b0, b1, e0, e1] <;> split <;> omega
            · have b1 : (j.began == 0) = false := by simpa using b0
              simp [go_sem, a1, a2, a2a, a2b, h, b0, b1] <;> split <;> omega
          · by_cases e0 : j.ended = 0
            · have e1 : (j.ended == 0) = true := by simpa using e0
              simp [go_sem, a1, a2, a2a, a2b, h, e0, e1] <;> split <;> omega
            · have e1 : (j.ended == 0) = false := by simpa using e0
              simp [go_sem, a1, a2, a2a, a2b, h, e0, e1] <;> split <;> omega
          · simp [go_sem, a1, a2, a2a, a2b, h] <;> split <;> omega
          · simp [go_sem, a1, a2, a2a, a2b, h] <;> split <;> omega
          · by_cases b0 : j.began = 0
            · have b1 : (j.began == 0) = true := by simpa using b0
              simp [go_sem, a1, a2, a2a, a2b, h, b0, b1] <;> split <;> omega
            · have b1 : (j.began == 0) = false := by simpa using b0
              simp [go_sem, a1, a2, a2a, a2b, h, b0, b1] <;> split <;> omega
          · by_cases b0 : j.began = 0
            · have b1 : (j.began == 0) = true := by simpa using b0
              simp [go_sem, a1, a2, a2a, a2b, h, b0, b1] <;> split <;> omega
            · have b1 : (j.began == 0) = false := by simpa using b0
              simp [go_sem, a1, a2, a2a, a2b, h, b0, b1] <;> split <;> omega
          · simp [go_sem, a1, a2, a2a, a2b, h0, h1, h2, h3, h4, h5, h6, q0, q1, q2, q3, q4, q5, q6]
        · have hE2 : endedB j = false := by rw [hE, w2]; simp [a2]
          simp only [hE2, hB2]
          rcases hst with (h | h | h | h | h | h | h) | ⟨h0, h1, h2, h3, h4, h5, h6, q0, q1, q2, q3, q4, q5, q6⟩
          · by_cases b0 : j.began = 0
            · have b1 : (j.began == 0) = true := by simpa using b0
              by_cases e0 : j.ended = 0
              · have e1 : (j.ended == 0) = true := by simpa using e0
                simp [go_sem, a1, a2, h, b0, b1, e0, e1] <;> split <;> omega
              · have e1 : (j.ended == 0) = false := by simpa using e0
                simp [go_sem, a1, a2, h, b0, b1, e0, e1] <;> split <;> omega
            · have b1 : (j.began == 0) = false := by simpa using b0
              simp [go_sem, a1, a2, h, b0, b1] <;> split <;> omega
          · by_cases b0 : j.began = 0
            · have b1 : (j.began == 0) = true := by simpa using b0
              by_cases e0 : j.ended = 0
              · have e1 : (j.ended == 0) = true := by simpa using e0
                simp [go_sem, a1, a2, h, b0, b1, e0, e1] <;> split <;> omega
              · have e1 : (j.ended == 0) = false := by simpa using e0
                simp [go_sem, a1, a2, h, b0, b1, e0, e1] <;> split <;> omega
            · have b1 : (j.began == 0) = false := by simpa using b0
              simp [go_sem, a1, a2, h, b0, b1] <;> split <;> omega
          · by_cases e0 : j.ended = 0
            · have e1 : (j.ended == 0) = true := by simpa using e0
              simp [go_sem, a1, a2, h, e0, e1] <;> split <;> omega
            · have e1 : (j.ended == 0) = false := by simpa using e0
              simp [go_sem, a1, a2, h, e0, e1] <;> split <;> omega
          · simp [go_sem, a1, a2, h] <;> split <;> omega
          · simp [go_sem, a1, a2, h] <;> split <;> omega
          · by_cases b0 : j.began = 0
            · have b1 : (j.began == 0) = true := by simpa using b0
              simp [go_sem, a1, a2, h, b0, b1] <;> split <;> omega
            · have b1 : (j.began == 0) = false := by simpa using b0
              simp [go_sem, a1, a2, h, b0, b1] <;> split <;> omega
          · by_cases b0 : j.began = 0
            · have b1 : (j.began == 0) = true := by simpa using b0
              simp [go_sem, a1, a2, h, b0, b1] <;> split <;> omega
            · have b1 : (j.began == 0) = false := by simpa using b0
              simp [go_sem, a1, a2, h, b0, b1] <;> split <;> omega
          · simp [go_sem, a1, a2, h0, h1, h2, h3, h4, h5, h6, q0, q1, q2, q3, q4, q5, q6]
end Go.Proofs.Ytnkcenafpigmbaa.Ab
