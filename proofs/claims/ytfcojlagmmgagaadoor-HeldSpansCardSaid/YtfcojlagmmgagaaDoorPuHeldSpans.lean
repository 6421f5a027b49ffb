/- The law HeldSpans. -/
import Derived.Test.YtfcojlagmmgagaaDoorHd2
namespace Go.Proofs.YtfcojlagmmgagaaDoor.Ab
open Go.RowKit
set_option linter.unusedVariables false
set_option linter.unusedSimpArgs false

set_option maxRecDepth 100000 in
set_option maxHeartbeats 8000000 in
theorem law_HeldSpans (y0 : List Held) (y1 y2 : Int) (G0 : y0.length * 48 ≤ 140737488351232 ∧ y0.length ≤ maxLen ∧ ∀ x ∈ y0, HeldOk x) (G1 : (Lit.int .i64 y1).wf = true) (G2 : (Lit.int .i64 y2).wf = true) :
    ACalls Tryd.prog 10 [helds y0, iv y1, iv y2] (· = .one (.sv (bv true))) := by
  refine ACalls.of_bodyS (fun _ _ => Tryd.call10 _ _) Tryd.func10 rfl Tryd.ntmps10 (by simp) ?_
  refine Tr.ex ?_
  simp [go_sem]
  refine OpW.fn true awake10_c rfl rfl (by simp [go_sem]) (by rintro _ r rfl; simp [go_sem]) ?_
  rintro r rfl
  simp [go_sem]
  refine OpW.fn true (Short_c y0 (by have := G0.1; omega)) rfl rfl (by simp [go_sem]) (by rintro _ r rfl; simp [go_sem]) ?_
  rintro r rfl
  cases hs : shortB y0 with
  | false => simp [go_sem]
  | true =>
    obtain ⟨hl, hh⟩ := short_len hs
    have hr := rest_good hl hh y1
    have hg := gone_good hl hh y1
    have hb := busyL_len y0 y1 y2
    have he := endsL_len (l := y0) (f := y1)
    simp [go_sem]
    refine OpW.fn false (heldOver_c y0 y1 (by omega) hh) rfl rfl (by simp [go_sem]) (fun h => by cases h) ?_
    rintro r rfl
    simp [go_sem]
    refine OpW.fn false (r10Over_c y0 y1 (by omega) hh) rfl rfl (by simp [go_sem]) (fun h => by cases h) ?_
    rintro r rfl
    simp [go_sem]
    refine OpW.fn false (Busy_c y0 y1 y2 (by omega) hh) rfl rfl (by simp [go_sem]) (fun h => by cases h) ?_
    rintro r rfl
    simp [go_sem]
    refine OpW.fn false (rBusy_c y0 y1 y2 (by omega) hh) rfl rfl (by simp [go_sem]) (fun h => by cases h) ?_
    rintro r rfl
    simp [go_sem]
    refine OpW.fn true (Same_c (busyL y0 y1 y2) (busyL y0 y1 y2) (by omega) (by omega)) rfl rfl (by simp [go_sem]) (by rintro _ r rfl; simp [go_sem]) ?_
    rintro r rfl
    simp [go_sem]
    refine OpW.fn true (sameH_c (restL y0 y1) (restL y0 y1) (by omega) (by omega) hr.2 hr.2) rfl rfl (by simp [go_sem]) (by rintro _ r rfl; simp [go_sem]) ?_
    rintro r rfl
    simp [go_sem]
    refine OpW.fn true (sameH_c (goneL y0 y1) (goneL y0 y1) (by omega) (by omega) hg.2 hg.2) rfl rfl (by simp [go_sem]) (by rintro _ r rfl; simp [go_sem]) ?_
    rintro r rfl
    simp [go_sem]
    refine OpW.fn false (Ends_c y0 y1 (by omega) hh) rfl rfl (by simp [go_sem]) (fun h => by cases h) ?_
    rintro r rfl
    simp [go_sem]
    refine OpW.fn false (r10Ends_c y0 y1 (by omega) hh) rfl rfl (by simp [go_sem]) (fun h => by cases h) ?_
    rintro r rfl
    simp [go_sem]
    refine OpW.fn true (Times_c (endsL y0 y1) (endsL y0 y1) (by omega) (by omega)) rfl rfl (by simp [go_sem]) (by rintro _ r rfl; simp [go_sem]) ?_
    rintro r rfl
    simp [go_sem]
end Go.Proofs.YtfcojlagmmgagaaDoor.Ab
