/- share: Share; Fade: Frexp, Ldexp. -/
import Derived.Test.YtnkcenafpigmbaaGreatShA
namespace Go.Proofs.YtnkcenafpigmbaaGreat.Ab
open Go.RowKit Go.Proofs.YtnkcenafpigmbaaGreat.Fl
set_option linter.unusedVariables false
set_option linter.unusedSimpArgs false

structure Use where
  who : Int
  had : Nat
  weight : Nat
  deriving Inhabited
def useSV (u : Use) : SV := .agg [iv u.who, fv u.had, fv u.weight]
def uses (l : List Use) : SV := .lst (l.map useSV)
attribute [go_sem] useSV uses
def UseW (u : Use) : Prop := u.had < 18446744073709551616 ∧ u.weight < 18446744073709551616
def shr (u : Use) : Nat := if cl u.had = 0 then 0 else (Ieee.double.div (cl u.had) (cl u.weight)).getD 0
theorem shr_div {u : Use} (h : cl u.had ≠ 0) : floatBits .quo .f64 (cl u.had) (cl u.weight) = some (shr u) := by
  obtain ⟨r, hr⟩ := div_some (cl_lt u.had) (cl_lt u.weight) h
  unfold shr
  rw [if_neg h]
  show Ieee.double.div (cl u.had) (cl u.weight) = _
  rw [hr]; rfl
theorem fEq_zero {x : Nat} (h : x < INF) : fEq .f64 x 0 = decide (x = 0) := by
  refine fE ?_
  rw [order_fin h (show 0 < INF by decide)]
  rw [Bool.eq_iff_iff]
  simp
theorem Share_c (u : Use) (hu : UseW u) : ACalls Tryz.prog 56 [useSV u] (· = .one (.sv (fv (shr u)))) := by
  refine ACalls.of_bodyS (fun _ _ => Tryz.call56 _ _) Tryz.func56 rfl Tryz.ntmps56 (by simp) ?_
  refine Tr.ex ?_
  have e := fEq_zero (cl_lt u.had)
  simp [go_sem]
  refine DrawW.rd rfl ?_
  simp [go_sem]
  refine OpD.call true (Clean_c u.had hu.1) rfl rfl (by simp [go_sem]) (by intro _; simp [go_sem]) (by simp [go_sem]) (by simp [go_sem]) ?_
  simp [go_sem]
  refine OpD.call true (Clean_c u.weight hu.2) rfl rfl (by simp [go_sem]) (by intro _; simp [go_sem]) (by simp [go_sem]) (by simp [go_sem]) ?_
  simp [go_sem]
  refine ⟨by kernel_rfl, ?_⟩
  by_cases h : cl u.had = 0
  · have hs : shr u = 0 := by unfold shr; rw [if_pos h]
    rw [decide_eq_true h] at e
    simp [go_sem, e, hs]
  · rw [decide_eq_false h] at e
    simp [go_sem, e, shr_div h]
/-! ### Fade -/
def fadeF (x : Nat) (n : Nat) : Nat := n.repeat hv (cl x)
theorem fadeF_zero (x : Nat) : fadeF x 0 = cl x := rfl
theorem fadeF_succ (x n : Nat) : fadeF x (n + 1) = hv (fadeF x n) := rfl
theorem fadeF_lt (x : Nat) : ∀ n, fadeF x n < INF
  | 0 => cl_lt x
  | n + 1 => by rw [fadeF_succ]; exact hv_lt (fadeF_lt x n)
def halvesN (h : Int) : Nat := (max 0 (min h 4096)).toNat
theorem hv_bits_mul {x : Nat} (h : x < INF) : floatBits .mul .f64 x 4602678819172646912 = some (hv x) := half_mul h
theorem hv_bits_div {x : Nat} (h : x < INF) : floatBits .quo .f64 x 4611686018427387904 = some (hv x) := half_div h
theorem rFade_c (x : Nat) (h : Int) (hx : x < 18446744073709551616) : ACalls Tryz.prog 21 [fv x, iv h] (· = .one (.sv (fv (fadeF x (halvesN h))))) := by
  refine ACalls.of_bodyS (fun _ _ => Tryz.call21 _ _) Tryz.func21 rfl Tryz.ntmps21 (by simp) ?_
  refine Tr.ex ?_
  simp [go_sem]
  refine OpW.fn true (rClean_c x hx) rfl rfl (by simp [go_sem]) (by rintro _ r rfl; simp [go_sem]) ?_
  rintro r rfl
  simp [go_sem]
  refine LoopW.of (fun i : Nat => ⟨20, [(0, .sv (fv (fadeF x i))), (1, .sv (iv h)), (4, .sv (fv 0)), (5, .sv (iv i))], []⟩)
    (fun i => i ≤ halvesN h) (fun i => halvesN h - i) 0 (by omega) (Ent.chk (by simp [go_sem, fadeF_zero])) ?_
  intro i hi
  have hfl := fadeF_lt x i
  have hb := hv_bits_mul hfl
  have hsu := fadeF_succ x i
  have hw : IntKind.i64.wrap ((i : Int) + 1) = (i : Int) + 1 := by unfold halvesN at hi; rw [i64w] <;> omega
  by_cases c1 : (i : Int) < h
  · by_cases c2 : i < 4096
    · have c2' : (i : Int) < 4096 := by omega
      generalize hS : fadeF x i = s at *
      generalize hS' : fadeF x (i + 1) = s' at *
      simp [go_sem, c1, c2, c2', hb]
      exact ⟨i + 1, by unfold halvesN at hi ⊢; omega, by unfold halvesN; omega, Ent.chk (by simp [go_sem, hw, hS, hS', hsu])⟩
    · have c2' : ¬ (i : Int) < 4096 := by omega
      have e : i = halvesN h := by unfold halvesN at hi ⊢; omega
      rw [← e]
      simp [go_sem, c1, c2, c2']
  · have e : i = halvesN h := by unfold halvesN at hi ⊢; omega
    rw [← e]
    simp [go_sem, c1]
end Go.Proofs.YtnkcenafpigmbaaGreat.Ab
