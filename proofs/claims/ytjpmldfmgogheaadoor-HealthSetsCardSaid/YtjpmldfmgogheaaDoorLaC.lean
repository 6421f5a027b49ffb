/- Laws of chapter 6: what is always so at first. -/
import Derived.Test.YtjpmldfmgogheaaDoorGrY
namespace Go.Proofs.YtjpmldfmgogheaaDoor.Ab
open Go.RowKit
set_option linter.unusedVariables false
set_option linter.unusedSimpArgs false

def aw6 : List Thing := [⟨0, -1, ⟨#[]⟩⟩, ⟨2, 0, ⟨#[]⟩⟩, ⟨3, 1, ⟨#[]⟩⟩]
theorem aw6_t : Things aw6 := by
  intro t ht
  simp only [aw6, List.mem_cons, List.not_mem_nil, or_false] at ht
  rcases ht with rfl | rfl | rfl <;> decide
theorem aw6_1 : isGraph aw6 = true := by kernel_rfl
theorem aw6_2 : setH aw6 [0, 0, 0] 1 1 = ([0, 1, 0], 0) := by kernel_rfl
theorem aw6_3 : belowL aw6 [0, 1, 0] 0 = [0] := by kernel_rfl
theorem aw6_4 : belowL aw6 [0, 1, 0] 1 = [0, 1, 2] := by kernel_rfl
theorem aw6_5 : WorstV aw6 [0, 1, 0] 2 = 1 := by kernel_rfl
theorem awake6_c : ACalls Tryd.prog 28 [] (· = .one (.sv (bv true))) := by
  refine ACalls.of_bodyS (fun _ _ => Tryd.call28 _ _) Tryd.func28 rfl Tryd.ntmps28 (by simp) ?_
  refine Tr.ex ?_
  simp [go_sem]
  refine OpW.frz 7 ?_
  simp [go_sem]
  refine OpW.ent (st' := ⟨37, [(1, .sv (things aw6)), (9, .sv (things aw6)), (10, .sv (things aw6))], []⟩) (Ent.chk (by simp [go_sem, aw6])) ?_
  refine OpW.fn false (New_c aw6 (by decide) aw6_t) rfl rfl (by simp [go_sem]) (fun h => by cases h) ?_
  rintro r rfl
  rw [aw6_1, if_pos rfl, show List.replicate aw6.length (0 : Int) = [0, 0, 0] from rfl]
  simp [go_sem]
  refine OpW.fn false (hSet_c aw6 [0, 0, 0] 1 1 (by decide) aw6_t (by decide)) rfl rfl (by simp [go_sem]) (fun h => by cases h) ?_
  rintro r rfl
  rw [aw6_2]
  simp [go_sem]
  refine OpW.fn false (Usable_c aw6 [0, 1, 0] (by decide) aw6_t (by decide)) rfl rfl (by simp [go_sem]) (fun h => by cases h) ?_
  rintro r rfl
  rw [aw6_3]
  simp [go_sem]
  refine OpW.fn false (Works_c aw6 [0, 1, 0] (by decide) aw6_t (by decide)) rfl rfl (by simp [go_sem]) (fun h => by cases h) ?_
  rintro r rfl
  rw [aw6_4]
  simp [go_sem]
  refine OpW.fn true (Worst_c aw6 [0, 1, 0] 2 (by decide) aw6_t (by decide)) rfl rfl (by simp [go_sem]) (by rintro _ r rfl; simp [go_sem]) ?_
  rintro r rfl
  rw [aw6_5]
  simp [go_sem]
end Go.Proofs.YtjpmldfmgogheaaDoor.Ab
