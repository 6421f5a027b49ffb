/- The law HeldLater. -/
import Derived.Test.YtfcojlagmmgagaaDoorHd2
namespace Go.Proofs.YtfcojlagmmgagaaDoor.Ab
open Go.RowKit
set_option linter.unusedVariables false
set_option linter.unusedSimpArgs false

set_option maxRecDepth 100000 in
set_option maxHeartbeats 8000000 in
theorem law_HeldLater (y0 : List Held) (y1 y2 y3 : Int) (G0 : y0.length * 48 ≤ 140737488351232 ∧ y0.length ≤ maxLen ∧ ∀ x ∈ y0, HeldOk x) (G1 : (Lit.int .i64 y1).wf = true) (G2 : (Lit.int .i64 y2).wf = true) (G3 : (Lit.int .i64 y3).wf = true) :
    ACalls Tryd.prog 11 [helds y0, iv y1, iv y2, iv y3] (· = .one (.sv (bv true))) := by
  refine ACalls.of_bodyS (fun _ _ => Tryd.call11 _ _) Tryd.func11 rfl Tryd.ntmps11 (by simp) ?_
  refine Tr.ex ?_
  simp [go_sem]
  refine OpW.fn true awake10_c rfl rfl (by simp [go_sem]) (by rintro _ r rfl; simp [go_sem]) ?_
  rintro r rfl
  simp [go_sem]
  refine OpW.fn true (Short_c y0 (by have := G0.1; omega)) rfl rfl (by simp [go_sem]) (by rintro _ r rfl; simp [go_sem]) ?_
  rintro r rfl
  cases hs : shortB y0 with
  | false => simp [go_sem]
  | true =>
    obtain ⟨hl, hh⟩ := short_len hs
    by_cases c1 : y2 < y1
    · simp [go_sem, c1]
    by_cases c2 : y3 < y2
    · simp [go_sem, c1, c2]
    have hr := rest_good hl hh y1
    have hrr := rest_good hr.1 hr.2 y2
    have hr2 := rest_good hl hh y2
    have e1 := rest_rest (l := y0) (show y1 ≤ y2 by omega)
    have e2 := busy_part (l := y0) (a := y1) (show y2 ≤ y3 by omega)
    have e3 := fun h1 h2 => busy_join (l := y0) (a := y1) (b := y2) (c := y3) h1 h2
    have b1 := busyL_len y0 y1 y2
    have b2 := busyL_len y0 y1 y3
    have b3 := busyL_len y0 y2 y3
    simp [go_sem, c1, c2]
    refine OpW.fn false (heldOver_c y0 y1 (by omega) hh) rfl rfl (by simp [go_sem]) (fun h => by cases h) ?_
    rintro r rfl
    simp [go_sem]
    refine OpW.fn false (heldOver_c (restL y0 y1) y2 (by omega) hr.2) rfl rfl (by simp [go_sem]) (fun h => by cases h) ?_
    rintro r rfl
    rw [e1]
    simp [go_sem]
    refine OpW.fn false (heldOver_c y0 y2 (by omega) hh) rfl rfl (by simp [go_sem]) (fun h => by cases h) ?_
    rintro r rfl
    simp [go_sem]
    refine OpW.fn true (sameH_c (restL y0 y2) (restL y0 y2) (by omega) (by omega) hr2.2 hr2.2) rfl rfl (by simp [go_sem]) (by rintro _ r rfl; simp [go_sem]) ?_
    rintro r rfl
    simp [go_sem]
    refine OpW.fn false (Busy_c y0 y1 y2 (by omega) hh) rfl rfl (by simp [go_sem]) (fun h => by cases h) ?_
    rintro r rfl
    simp [go_sem]
    refine OpW.fn false (Busy_c y0 y1 y3 (by omega) hh) rfl rfl (by simp [go_sem]) (fun h => by cases h) ?_
    rintro r rfl
    simp [go_sem]
    refine OpW.fn true (Part_c (busyL y0 y1 y2) (busyL y0 y1 y3) (by omega) (by omega)) rfl rfl (by simp [go_sem]) (by rintro _ r rfl; simp [go_sem]) ?_
    rintro r rfl
    rw [e2]
    by_cases q1 : y1 = y2
    · simp [go_sem, q1]
    · have q1' : (y1 == y2) = false := by simpa using q1
      by_cases q2 : y2 = y3
      · have q2' : (y2 == y3) = true := by simpa using q2
        simp [go_sem, q1', q2']
      · have q2' : (y2 == y3) = false := by simpa using q2
        have e4 := e3 (by omega) (by omega)
        simp [go_sem, q1', q2']
        refine OpW.fn false (Busy_c y0 y1 y2 (by omega) hh) rfl rfl (by simp [go_sem]) (fun h => by cases h) ?_
        rintro r rfl
        simp [go_sem]
        refine OpW.fn false (Busy_c y0 y2 y3 (by omega) hh) rfl rfl (by simp [go_sem]) (fun h => by cases h) ?_
        rintro r rfl
        simp [go_sem]
        refine OpW.fn false (Join_c (busyL y0 y1 y2) (busyL y0 y2 y3) (by omega) (by omega)) rfl rfl (by simp [go_sem]) (fun h => by cases h) ?_
        rintro r rfl
        rw [e4]
        simp [go_sem]
        refine OpW.fn false (Busy_c y0 y1 y3 (by omega) hh) rfl rfl (by simp [go_sem]) (fun h => by cases h) ?_
        rintro r rfl
        simp [go_sem]
        refine OpW.fn true (Same_c (busyL y0 y1 y3) (busyL y0 y1 y3) (by omega) (by omega)) rfl rfl (by simp [go_sem]) (by rintro _ r rfl; simp [go_sem]) ?_
        rintro r rfl
        simp [go_sem]
end Go.Proofs.YtfcojlagmmgagaaDoor.Ab
