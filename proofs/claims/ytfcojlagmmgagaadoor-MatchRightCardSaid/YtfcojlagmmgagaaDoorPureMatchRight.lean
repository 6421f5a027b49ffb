/- The law MatchRight. -/
import Derived.Test.YtfcojlagmmgagaaDoorMaK
import Derived.Test.YtfcojlagmmgagaaDoorGrE
namespace Go.Proofs.YtfcojlagmmgagaaDoor.Ab
open Go.RowKit
set_option linter.unusedVariables false
set_option linter.unusedSimpArgs false

theorem find_len (g : List Thing) (free : List Int) (s : Spec) : (findL g free s).1.length ≤ 256 := set_len (findL_set g free s)
set_option maxRecDepth 100000 in
set_option maxHeartbeats 4000000 in
theorem law_MatchRight (y0 : List Thing) (y1 : List Int) (y2 : Spec) (y3 : Int) (G0 : y0.length * 32 ≤ 140737488351232 ∧ y0.length ≤ maxLen ∧ ∀ x ∈ y0, ThingOk x) (G1 : y1.length * 8 ≤ 140737488351232 ∧ y1.length ≤ maxLen ∧ ∀ x ∈ y1, (Lit.int .i64 x).wf = true)
    (G2 : SpecOk y2) (G3 : (Lit.int .i64 y3).wf = true) : ACalls Tryd.prog 3 [things y0, ints y1, specSV y2, iv y3] (· = .one (.sv (bv true))) := by
  have hl := things_len G0
  have ht := things_ok G0.2.2
  have hs := G2.2.2.2.1
  refine ACalls.of_bodyS (fun _ _ => Tryd.call3 _ _) Tryd.func3 rfl Tryd.ntmps3 (by simp) ?_
  refine Tr.ex ?_
  simp [go_sem]
  refine OpW.fn true awake9_c rfl rfl (by simp [go_sem]) (by rintro _ r rfl; simp [go_sem]) ?_
  rintro r rfl
  by_cases hs0 : 60 < (y0.length : Int)
  · simp [go_sem, hs0]
  by_cases hs1 : 300 < (y1.length : Int)
  · simp [go_sem, hs0, hs1]
  have hfl := find_len y0 y1 y2
  simp [go_sem, hs0, hs1]
  refine OpW.fn false (Find_c y0 y1 y2 hl ht (by omega) hs) rfl rfl (by simp [go_sem]) (fun h => by cases h) ?_
  rintro r rfl
  simp [go_sem]
  refine OpW.fn false (rFind_c y0 y1 y2 hl ht (by omega) hs) rfl rfl (by simp [go_sem]) (fun h => by cases h) ?_
  rintro r rfl
  simp [go_sem]
  refine DrawW.rd rfl ?_
  simp [go_sem]
  refine OpD.call false (Same_c (findL y0 y1 y2).1 (findL y0 y1 y2).1 (by omega) (by omega)) rfl rfl (by simp [go_sem]) (fun h => by cases h) (by simp [go_sem]) (by simp [go_sem]) ?_
  simp [go_sem]
  refine OpD.call false (Suits_c y0 y1 y2 y3 hl ht (by omega) hs) rfl rfl (by simp [go_sem]) (fun h => by cases h) (by simp [go_sem]) (by simp [go_sem]) ?_
  simp [go_sem]
  refine OpD.call false (rSuits_c y0 y1 y2 y3 hl ht (by omega) hs) rfl rfl (by simp [go_sem]) (fun h => by cases h) (by simp [go_sem]) (by simp [go_sem]) ?_
  simp [go_sem]
  refine OpD.call false (Many_c y0 y1 y2 hl ht (by omega) hs) rfl rfl (by simp [go_sem]) (fun h => by cases h) (by simp [go_sem]) (by simp [go_sem]) ?_
  simp [go_sem]
  refine OpD.call false (rMany_c y0 y1 y2 hl ht (by omega) hs) rfl rfl (by simp [go_sem]) (fun h => by cases h) (by simp [go_sem]) (by simp [go_sem]) ?_
  simp [go_sem]
  refine OpD.call false (Could_c y0 y2 hl ht hs) rfl rfl (by simp [go_sem]) (fun h => by cases h) (by simp [go_sem]) (by simp [go_sem]) ?_
  simp [go_sem]
  refine OpD.call false (rCould_c y0 y2 hl ht hs) rfl rfl (by simp [go_sem]) (fun h => by cases h) (by simp [go_sem]) (by simp [go_sem]) ?_
  simp [go_sem]
  show _ = true
  kernel_rfl
end Go.Proofs.YtfcojlagmmgagaaDoor.Ab
