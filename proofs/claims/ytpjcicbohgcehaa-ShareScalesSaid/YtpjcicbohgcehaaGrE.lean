/- The reference of chapter 1: Same. -/
import Derived.Test.YtpjcicbohgcehaaAb3
import Derived.Test.YtpjcicbohgcehaaTy1
namespace Go.Proofs.Ytpjcicbohgcehaa.Ab
open Go.RowKit
set_option linter.unusedVariables false
set_option linter.unusedSimpArgs false

theorem Same_c (a b : List Int) (ha : a.length ≤ 140737488355328) (hb : b.length ≤ 140737488355328) : ACalls Try.prog 9 [ints a, ints b] (· = .one (.sv (bv (decide (a = b))))) := by
  refine ACalls.of_body (fun _ _ => Try.call9 _ _) Try.func9 rfl Try.ntmps9 (by simp) ?_
  refine Tr.ex ?_
  simp [go_sem]
  refine cnd.part (fun h => ?_) (fun h => ?_)
  · simp [go_sem]
    rintro rfl
    simp at h
  · simp [go_sem]
    have hl : a.length = b.length := by simp at h; omega
    refine LoopW.of (fun i : Nat => ⟨26, [(0, .sv (ints a)), (1, .sv (ints b)), (5, .sv (iv i))], []⟩) (fun i => i ≤ a.length ∧ ∀ j, j < i → a.getD j 0 = b.getD j 0) (fun i => a.length - i) 0 ⟨by omega, fun j h => by omega⟩ (Ent.chk (by simp [go_sem])) ?_
    rintro i ⟨hi, heq⟩
    simp [go_sem]
    refine cnd.part (fun h => ?_) (fun h => ?_)
    · have hlt : i < a.length := by simpa using h
      have hlt' : i < b.length := by omega
      simp [go_sem]
      refine DrawW.rd rfl ?_
      simp [go_sem, getD_map, hlt, hlt']
      refine ⟨by kernel_rfl, ?_⟩
      refine cnd.part (fun h => ?_) (fun h => ?_)
      · simp [go_sem]
        rintro rfl
        simp at h
      · simp [go_sem]
        have hab : a[i] = b[i] := by simpa using h
        refine ⟨i + 1, ⟨by omega, fun j hj => ?_⟩, by omega, Ent.chk (by simp [go_sem]; rw [i64w] <;> omega)⟩
        by_cases hji : j = i
        · subst hji; simp [hlt, hlt', hab]
        · have := heq j (by omega); simpa using this
    · have hia : i = a.length := by simp at h; omega
      simp [go_sem]
      refine List.ext_getElem hl fun j h1 h2 => ?_
      have := heq j (by omega)
      simpa [h1, h2] using this
end Go.Proofs.Ytpjcicbohgcehaa.Ab
