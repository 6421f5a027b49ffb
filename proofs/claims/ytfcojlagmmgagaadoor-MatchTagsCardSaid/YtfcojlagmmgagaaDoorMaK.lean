/- match: what is always so at first. -/
import Derived.Test.YtfcojlagmmgagaaDoorMaJ
namespace Go.Proofs.YtfcojlagmmgagaaDoor.Ab
open Go.RowKit
set_option linter.unusedVariables false
set_option linter.unusedSimpArgs false

attribute [go_sem] aw9s aw9u
set_option maxRecDepth 100000 in
set_option maxHeartbeats 4000000 in
theorem awake9_c : ACalls Tryd.prog 14 [] (· = .one (.sv (bv true))) := by
  refine ACalls.of_bodyS (fun _ _ => Tryd.call14 _ _) Tryd.func14 rfl Tryd.ntmps14 (by simp) ?_
  refine Tr.ex ?_
  simp [go_sem]
  refine OpW.frz 10 ?_
  simp [go_sem]
  refine OpW.ent (st' := ⟨50, [(0, .sv (bv false)), (1, .sv (things aw9)), (12, .sv (things aw9)), (13, .sv (things aw9))], []⟩) (Ent.chk (by simp [go_sem, aw9])) ?_
  refine OpW.fn false (Under_c aw9 0 (by decide) aw9_t) rfl rfl (by simp [go_sem]) (fun h => by cases h) ?_
  rintro r rfl
  rw [aw9_1]
  simp [go_sem]
  have f1 := Find_c aw9 [0, 1, 2, 3, 4, 5] aw9s (by decide) aw9_t (by decide) (by decide)
  rw [aw9_2] at f1
  refine OpW.fn false f1 rfl rfl (by simp [go_sem]) (fun h => by cases h) ?_
  rintro r rfl
  simp [go_sem]
  have f2 := Could_c aw9 aw9u (by decide) aw9_t (by decide)
  rw [aw9_3] at f2
  refine OpW.fn true f2 rfl rfl (by simp [go_sem]) (by rintro _ r rfl; simp [go_sem]) ?_
  rintro r rfl
  simp [go_sem]
  refine OpW.fn false (Under_c aw9 0 (by decide) aw9_t) rfl rfl (by simp [go_sem]) (fun h => by cases h) ?_
  rintro r rfl
  rw [aw9_1]
  simp [go_sem]
  have f3 := Many_c aw9 [0, 1, 2, 3, 4, 5] aw9u (by decide) aw9_t (by decide) (by decide)
  rw [aw9_4] at f3
  refine OpW.fn true f3 rfl rfl (by simp [go_sem]) (by rintro _ r rfl; simp [go_sem]) ?_
  rintro r rfl
  simp [go_sem]
end Go.Proofs.YtfcojlagmmgagaaDoor.Ab
