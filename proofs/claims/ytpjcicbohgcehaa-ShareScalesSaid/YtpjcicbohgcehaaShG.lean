/- share: how two are compared. -/
import Derived.Test.YtpjcicbohgcehaaShF
namespace Go.Proofs.Ytpjcicbohgcehaa.Ab
open Go.RowKit Go.Proofs.Ytpjcicbohgcehaa.Fl
set_option linter.unusedVariables false
set_option linter.unusedSimpArgs false

def c3N (a b : Nat) : Int := if a < b then -1 else if b < a then 1 else 0
def c3I (a b : Int) : Int := if a < b then -1 else if b < a then 1 else 0
theorem fLt_fin {x y : Nat} (hx : x ≤ INF) (hy : y ≤ INF) : fLt .f64 x y = decide (x < y) := by
  refine fL ?_
  rw [order_le hx hy]
  rcases Nat.lt_trichotomy x y with q | q | q
  · rw [Nat.compare_eq_lt.2 q, decide_eq_true q]; rfl
  · rw [Nat.compare_eq_eq.2 q, decide_eq_false (by omega)]; rfl
  · rw [Nat.compare_eq_gt.2 q, decide_eq_false (by omega)]; rfl
theorem fGt_fin {x y : Nat} (hx : x ≤ INF) (hy : y ≤ INF) : fGt .f64 x y = decide (y < x) := by
  refine fG ?_
  rw [order_le hx hy]
  rcases Nat.lt_trichotomy x y with q | q | q
  · rw [Nat.compare_eq_lt.2 q, decide_eq_false (by omega)]; rfl
  · rw [Nat.compare_eq_eq.2 q, decide_eq_false (by omega)]; rfl
  · rw [Nat.compare_eq_gt.2 q, decide_eq_true q]; rfl
theorem fEq_fin {x y : Nat} (hx : x ≤ INF) (hy : y ≤ INF) : fEq .f64 x y = decide (x = y) := by
  refine fE ?_
  rw [order_le hx hy]
  rcases Nat.lt_trichotomy x y with q | q | q
  · rw [Nat.compare_eq_lt.2 q, decide_eq_false (by omega)]; rfl
  · rw [Nat.compare_eq_eq.2 q, decide_eq_true q]; rfl
  · rw [Nat.compare_eq_gt.2 q, decide_eq_false (by omega)]; rfl
theorem isNaNf_c (x : Nat) (hx : x ≤ INF) : ACalls Try.prog 40 [fv x] (· = .one (.sv (bv false))) := by
  refine ACalls.of_bodyS (fun _ _ => Try.call40 _ _) Try.func40 rfl Try.ntmps40 (by simp) ?_
  refine Tr.ex ?_
  have h := fEq_fin hx hx
  rw [decide_eq_true rfl] at h
  simp [go_sem, h]
theorem isNaNi_c (x : Int) : ACalls Try.prog 41 [iv x] (· = .one (.sv (bv false))) := by
  refine ACalls.of_bodyS (fun _ _ => Try.call41 _ _) Try.func41 rfl Try.ntmps41 (by simp) ?_
  refine Tr.ex ?_
  simp [go_sem]
theorem CmpF_c (x y : Nat) (hx : x ≤ INF) (hy : y ≤ INF) : ACalls Try.prog 28 [fv x, fv y] (· = .one (.sv (iv (c3N x y)))) := by
  refine ACalls.of_bodyS (fun _ _ => Try.call28 _ _) Try.func28 rfl Try.ntmps28 (by simp) ?_
  refine Tr.ex ?_
  have h1 := fLt_fin hx hy
  have h2 := fGt_fin hx hy
  simp [go_sem]
  refine OpW.fn true (isNaNf_c x hx) rfl rfl (by simp [go_sem]) (by rintro _ r rfl; simp [go_sem]) ?_
  rintro r rfl
  simp [go_sem]
  refine OpW.fn true (isNaNf_c y hy) rfl rfl (by simp [go_sem]) (by rintro _ r rfl; simp [go_sem]) ?_
  rintro r rfl
  unfold c3N
  by_cases c1 : x < y
  · rw [decide_eq_true c1] at h1
    simp [go_sem, h1, c1]
  · rw [decide_eq_false c1] at h1
    by_cases c2 : y < x
    · rw [decide_eq_true c2] at h2
      simp [go_sem, h1, h2, c1, c2]
    · rw [decide_eq_false c2] at h2
      simp [go_sem, h1, h2, c1, c2]
theorem CmpI_c (x y : Int) : ACalls Try.prog 29 [iv x, iv y] (· = .one (.sv (iv (c3I x y)))) := by
  refine ACalls.of_bodyS (fun _ _ => Try.call29 _ _) Try.func29 rfl Try.ntmps29 (by simp) ?_
  refine Tr.ex ?_
  simp [go_sem]
  refine OpW.fn true (isNaNi_c x) rfl rfl (by simp [go_sem]) (by rintro _ r rfl; simp [go_sem]) ?_
  rintro r rfl
  simp [go_sem]
  refine OpW.fn true (isNaNi_c y) rfl rfl (by simp [go_sem]) (by rintro _ r rfl; simp [go_sem]) ?_
  rintro r rfl
  unfold c3I
  by_cases c1 : x < y
  · simp [go_sem, c1]
  · by_cases c2 : y < x
    · simp [go_sem, c1, c2]
    · simp [go_sem, c1, c2]
end Go.Proofs.Ytpjcicbohgcehaa.Ab
