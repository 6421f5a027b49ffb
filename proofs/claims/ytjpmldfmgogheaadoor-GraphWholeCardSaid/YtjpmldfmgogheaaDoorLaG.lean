/- Laws of chapter 5: what is always so at first. -/
import Derived.Test.YtjpmldfmgogheaaDoorGrP
import Derived.Test.YtjpmldfmgogheaaDoorAbT
namespace Go.Proofs.YtjpmldfmgogheaaDoor.Ab
open Go.RowKit
set_option linter.unusedVariables false
set_option linter.unusedSimpArgs false

theorem things_len {y : List Thing} (h : y.length * 32 ≤ 140737488351232 ∧ y.length ≤ maxLen ∧ ∀ x ∈ y, ThingOk x) : y.length ≤ 140737488355328 := by have := h.1; omega
theorem things_ok {y : List Thing} (h : ∀ x ∈ y, ThingOk x) : Things y := fun t ht => by have := (h t ht).2.2; omega
def aw5 : List Thing := [⟨0, -1, ⟨#[]⟩⟩, ⟨2, 0, ⟨#[]⟩⟩, ⟨3, 1, ⟨#[]⟩⟩, ⟨3, 1, ⟨#[]⟩⟩]
theorem aw5_t : Things aw5 := by
  intro t ht
  simp only [aw5, List.mem_cons, List.not_mem_nil, or_false] at ht
  rcases ht with rfl | rfl | rfl | rfl <;> decide
theorem aw5_1 : isGraph aw5 = true := by kernel_rfl
theorem aw5_2 : underL aw5 1 = [1, 2, 3] := by kernel_rfl
theorem aw5_3 : aboveL aw5 3 = [0, 1, 3] := by kernel_rfl
theorem aw5_4 : nodeOf aw5 3 = 1 := by kernel_rfl
theorem aw5_5 : kindsL aw5 [2, 3] = [0, 0, 0, 2, 0] := by kernel_rfl
theorem awake5_c : ACalls Tryd.prog 7 [] (· = .one (.sv (bv true))) := by
  refine ACalls.of_bodyS (fun _ _ => Tryd.call7 _ _) Tryd.func7 rfl Tryd.ntmps7 (by simp) ?_
  refine Tr.ex ?_
  simp [go_sem]
  refine OpW.frz 6 ?_
  simp [go_sem]
  refine OpW.ent (st' := ⟨33, [(1, .sv (things aw5)), (7, .sv (things aw5))], []⟩) (Ent.chk (by simp [go_sem, aw5])) ?_
  refine OpW.fn true (gRight_c aw5 (by decide) aw5_t) rfl rfl (by simp [go_sem]) (by rintro _ r rfl; simp [go_sem]) ?_
  rintro r rfl
  rw [aw5_1]
  simp [go_sem]
  refine OpW.fn false (Under_c aw5 1 (by decide) aw5_t) rfl rfl (by simp [go_sem]) (fun h => by cases h) ?_
  rintro r rfl
  rw [aw5_2]
  simp [go_sem]
  refine OpW.fn false (Above_c aw5 3 (by decide) aw5_t) rfl rfl (by simp [go_sem]) (fun h => by cases h) ?_
  rintro r rfl
  rw [aw5_3]
  simp [go_sem]
  refine OpW.fn true (Node_c aw5 3 (by decide) aw5_t) rfl rfl (by simp [go_sem]) (by rintro _ r rfl; simp [go_sem]) ?_
  rintro r rfl
  rw [aw5_4]
  simp [go_sem]
  have hk := Kinds_c aw5 [2, 3] (by decide) aw5_t (by decide)
  rw [aw5_5] at hk
  refine OpW.fn true hk rfl rfl (by simp [go_sem]) (by rintro _ r rfl; simp [go_sem]) ?_
  rintro r rfl
  simp [go_sem]
end Go.Proofs.YtjpmldfmgogheaaDoor.Ab
