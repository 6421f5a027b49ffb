/- share: how two are compared. -/
import Derived.Test.YtnkcenafpigmbaaShF
namespace Go.Proofs.Ytnkcenafpigmbaa.Ab
open Go.RowKit Go.Proofs.Ytnkcenafpigmbaa.Fl
set_option linter.unusedVariables false
set_option linter.unusedSimpArgs false

def c3N (a b : Nat) : Int := if a < b then -1 else if b < a then 1 else 0
def c3I (a b : Int) : Int := if a < b then -1 else if b < a then 1 else 0
theorem fLt_fin {x y : Nat} (hx : x ≤ INF) (hy : y ≤ INF) : fLt .f64 x y = decide (x < y) := by
  refine fL ?_
  rw [order_le hx hy]
  rcases Nat.lt_trichotomy x y with q | q | q
  · rw [Nat.compare_eq_lt.2 q, decide_eq_true q]; rfl
  · rw [Nat.compare_eq_eq.2 q, decide_eq_false (by omega)]; rfl
  · rw [Nat.compare_eq_gt.2 q, decide_eq_false (by omega)]; rfl
theorem fGt_fin {x y : Nat} (hx : x ≤ INF) (hy : y ≤ INF) : fGt .f64 x y = decide (y < x) := by
  refine fG ?_
  rw [order_le hx hy]
  rcases Nat.lt_trichotomy x y with q | q | q
  · rw [Nat.compare_eq_lt.2 q, decide_eq_false (by omega)]; rfl
  · rw [Nat.compare_eq_eq.2 q, decide_eq_false (by omega)]; rfl
  · rw [Nat.compare_eq_gt.2 q, decide_eq_true q]; rfl
theorem fEq_fin {x y : Nat} (hx : x ≤ INF) (hy : y ≤ INF) : fEq .f64 x y = decide (x = y) := by
  refine fE ?_
  rw [order_le hx hy]
  rcases Nat.lt_trichotomy x y with q | q | q
  · rw [Nat.compare_eq_lt.2 q, decide_eq_false (by omega)]; rfl
  · rw [Nat.compare_eq_eq.2 q, decide_eq_true q]; rfl
  · rw [Nat.compare_eq_gt.2 q, decide_eq_false (by omega)]; rfl
theorem isNaNi_c (x : Int) : ACalls Try.prog 74 [iv x] (· = .one (.sv (bv false))) := by
  refine ACalls.of_bodyS (fun _ _ => Try.call74 _ _) Try.func74 rfl Try.ntmps74 (by simp) ?_
  refine Tr.ex ?_
  simp [go_sem]
theorem CmpI_c (x y : Int) : ACalls Try.prog 43 [iv x, iv y] (· = .one (.sv (iv (c3I x y)))) := by
  refine ACalls.of_bodyS (fun _ _ => Try.call43 _ _) Try.func43 rfl Try.ntmps43 (by simp) ?_
  refine Tr.ex ?_
  simp [go_sem]
  refine OpW.fn true (isNaNi_c x) rfl rfl (by simp [go_sem]) (by rintro _ r rfl; simp [go_sem]) ?_
  rintro r rfl
  simp [go_sem]
  refine OpW.fn true (isNaNi_c y) rfl rfl (by simp [go_sem]) (by rintro _ r rfl; simp [go_sem]) ?_
  rintro r rfl
  unfold c3I
  by_cases c1 : x < y
  · simp [go_sem, c1]
  · by_cases c2 : y < x
    · simp [go_sem, c1, c2]
    · simp [go_sem, c1, c2]
end Go.Proofs.Ytnkcenafpigmbaa.Ab
