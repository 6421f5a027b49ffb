/- share: Share; Fade: Frexp, Ldexp. -/
import Derived.Test.YtnkcenafpigmbaaShA
namespace Go.Proofs.Ytnkcenafpigmbaa.Ab
open Go.RowKit Go.Proofs.Ytnkcenafpigmbaa.Fl
set_option linter.unusedVariables false
set_option linter.unusedSimpArgs false

structure Use where
  who : Int
  had : Nat
  weight : Nat
  deriving Inhabited
def useSV (u : Use) : SV := .agg [iv u.who, fv u.had, fv u.weight]
def uses (l : List Use) : SV := .lst (l.map useSV)
attribute [go_sem] useSV uses
def UseW (u : Use) : Prop := u.had < 18446744073709551616 ∧ u.weight < 18446744073709551616
def shr (u : Use) : Nat := if cl u.had = 0 then 0 else (Ieee.double.div (cl u.had) (cl u.weight)).getD 0
theorem shr_div {u : Use} (h : cl u.had ≠ 0) : floatBits .quo .f64 (cl u.had) (cl u.weight) = some (shr u) := by
  obtain ⟨r, hr⟩ := div_some (cl_lt u.had) (cl_lt u.weight) h
  unfold shr
  rw [if_neg h]
  show Ieee.double.div (cl u.had) (cl u.weight) = _
  rw [hr]; rfl
theorem fEq_zero {x : Nat} (h : x < INF) : fEq .f64 x 0 = decide (x = 0) := by
  refine fE ?_
  rw [order_fin h (show 0 < INF by decide)]
  rw [Bool.eq_iff_iff]
  simp
theorem Share_c (u : Use) (hu : UseW u) : ACalls Try.prog 35 [useSV u] (· = .one (.sv (fv (shr u)))) := by
  refine ACalls.of_bodyS (fun _ _ => Try.call35 _ _) Try.func35 rfl Try.ntmps35 (by simp) ?_
  refine Tr.ex ?_
  have e := fEq_zero (cl_lt u.had)
  simp [go_sem]
  refine DrawW.rd rfl ?_
  simp [go_sem]
  refine OpD.call true (Clean_c u.had hu.1) rfl rfl (by simp [go_sem]) (by intro _; simp [go_sem]) (by simp [go_sem]) (by simp [go_sem]) ?_
  simp [go_sem]
  refine OpD.call true (Clean_c u.weight hu.2) rfl rfl (by simp [go_sem]) (by intro _; simp [go_sem]) (by simp [go_sem]) (by simp [go_sem]) ?_
  simp [go_sem]
  refine ⟨by kernel_rfl, ?_⟩
  by_cases h : cl u.had = 0
  · have hs : shr u = 0 := by unfold shr; rw [if_pos h]
    rw [decide_eq_true h] at e
    simp [go_sem, e, hs]
  · rw [decide_eq_false h] at e
    simp [go_sem, e, shr_div h]
theorem rShare_c (u : Use) (hu : UseW u) : ACalls Try.prog 85 [useSV u] (· = .one (.sv (fv (shr u)))) := by
  refine ACalls.of_bodyS (fun _ _ => Try.call85 _ _) Try.func85 rfl Try.ntmps85 (by simp) ?_
  refine Tr.ex ?_
  have e := fEq_zero (cl_lt u.had)
  simp [go_sem]
  refine OpW.fn true (rClean_c u.had hu.1) rfl rfl (by simp [go_sem]) (by rintro _ r rfl; simp [go_sem]) ?_
  rintro r rfl
  by_cases h : cl u.had = 0
  · have hs : shr u = 0 := by unfold shr; rw [if_pos h]
    rw [decide_eq_true h] at e
    simp [go_sem, e, hs]
  · rw [decide_eq_false h] at e
    simp [go_sem, e]
    refine DrawW.rd rfl ?_
    simp [go_sem]
    refine OpD.call true (rClean_c u.had hu.1) rfl rfl (by simp [go_sem]) (by intro _; simp [go_sem]) (by simp [go_sem]) (by simp [go_sem]) ?_
    simp [go_sem]
    refine OpD.call true (rClean_c u.weight hu.2) rfl rfl (by simp [go_sem]) (by intro _; simp [go_sem]) (by simp [go_sem]) (by simp [go_sem]) ?_
    simp [go_sem, shr_div h]
    show _ = true
    kernel_rfl
/-! ### Fade -/
def fadeF (x : Nat) (n : Nat) : Nat := n.repeat hv (cl x)
theorem fadeF_zero (x : Nat) : fadeF x 0 = cl x := rfl
theorem fadeF_succ (x n : Nat) : fadeF x (n + 1) = hv (fadeF x n) := rfl
theorem fadeF_lt (x : Nat) : ∀ n, fadeF x n < INF
  | 0 => cl_lt x
  | n + 1 => by rw [fadeF_succ]; exact hv_lt (fadeF_lt x n)
def halvesN (h : Int) : Nat := (max 0 (min h 4096)).toNat
theorem hv_bits_mul {x : Nat} (h : x < INF) : floatBits .mul .f64 x 4602678819172646912 = some (hv x) := half_mul h
theorem hv_bits_div {x : Nat} (h : x < INF) : floatBits .quo .f64 x 4611686018427387904 = some (hv x) := half_div h
end Go.Proofs.Ytnkcenafpigmbaa.Ab
