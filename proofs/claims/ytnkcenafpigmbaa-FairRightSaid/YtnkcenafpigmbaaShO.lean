/- cmp.Or. -/
import Derived.Test.YtnkcenafpigmbaaShG
namespace Go.Proofs.Ytnkcenafpigmbaa.Ab
open Go.RowKit Go.Proofs.Ytnkcenafpigmbaa.Fl
set_option linter.unusedVariables false
set_option linter.unusedSimpArgs false

def or2 (a b : Int) : Int := if a = 0 then b else a
theorem Or_c (a b : Int) : ACalls Try.prog 62 [.lst [iv a, iv b]] (· = .one (.sv (iv (or2 a b)))) := by
  refine ACalls.of_bodyS (fun _ _ => Try.call62 _ _) Try.func62 rfl Try.ntmps62 (by simp) ?_
  refine Tr.ex ?_
  unfold or2
  simp [go_sem]
  refine LoopW.of (fun i : Nat => ⟨18, [(0, .sv (.lst [iv a, iv b])), (2, .sv (iv 0)), (3, .sv (iv 0)), (6, .sv (.lst [iv a, iv b])), (7, .sv (iv 2)), (8, .sv (iv i))], []⟩)
    (fun i => i ≤ 2 ∧ (1 ≤ i → a = 0) ∧ (2 ≤ i → b = 0)) (fun i => 2 - i) 0 ⟨by omega, by omega, by omega⟩ (Ent.chk (by simp [go_sem])) ?_
  rintro i ⟨h1, h2, h3⟩
  have hc : i = 0 ∨ i = 1 ∨ i = 2 := by omega
  rcases hc with rfl | rfl | rfl
  · by_cases c : a = 0
    · have c' : (a != 0) = false := by simp [c]
      simp [go_sem, c']
      exact ⟨1, ⟨by omega, fun _ => c, by omega⟩, by omega, Ent.chk (by simp [go_sem])⟩
    · have c' : (a != 0) = true := by simp [c]
      simp [go_sem, c', c]
  · have c0 := h2 (by omega)
    by_cases c : b = 0
    · have c' : (b != 0) = false := by simp [c]
      simp [go_sem, c']
      exact ⟨2, ⟨by omega, fun _ => c0, fun _ => c⟩, by omega, Ent.chk (by simp [go_sem])⟩
    · have c' : (b != 0) = true := by simp [c]
      simp [go_sem, c0, c']
  · have c0 := h2 (by omega)
    have c1 := h3 (by omega)
    simp [go_sem, c0, c1]
end Go.Proofs.Ytnkcenafpigmbaa.Ab
