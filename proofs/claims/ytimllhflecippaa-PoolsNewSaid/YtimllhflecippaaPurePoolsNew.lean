import Derived.Test.YtimllhflecippaaF33
import Derived.Test.YtimllhflecippaaPoolP
namespace Go.Proofs.Ytimllhflecippaa.Pure
open Go.RowKit Go.Proofs.YtimllhflecippaaW.PrintWords Go.Proofs.YtimllhflecippaaW.PrintMore Go.Proofs.Ytimllhflecippaa.F Go.Proofs.Ytimllhflecippaa.Pk Go.Proofs.Ytimllhflecippaa.StepP Go.Proofs.Ytimllhflecippaa.StepQ Go.Proofs.Ytimllhflecippaa.PoolP
set_option linter.unusedSimpArgs false
set_option linter.unusedVariables false
/-- A pool where nothing is taken. -/
def one (n : Int) : List St := [⟨0, n⟩]
theorem one_right {n : Int} (h : amt n) : Right (one n) := by
  refine { pos := by simp [one], zero := rfl, rise := fun i hi => by simp [one] at hi, top := fun i hi => ?_, len := by simp [one], amts := fun i hi => ?_ }
  · have : i = 0 := by simpa [one] using hi
    subst this
    show (0 : Int) ≤ Never
    decide
  · have : i = 0 := by simpa [one] using hi
    subst this
    exact h
theorem one_val {n : Int} (h : amt n) {t : Int} (ht : 0 ≤ t) : val (one n) t = n := val_eq (one_right h).toNorm (i := 0) ⟨by simp [one], ht, fun hi => by simp [one] at hi⟩
theorem snew (n : Int) : step_New.f n = if amt n then some (one n, 0) else some ([], 1) := by
  unfold step_New.f
  simp only [samt, Option.bind_some]
  by_cases c : amt n
  · rw [if_pos c]; simp only [decide_eq_true c, if_true]; rfl
  · rw [if_neg c]; simp only [decide_eq_false c, Bool.false_eq_true, if_false]
def AllAmt (n : List Int) (i : Nat) : Prop := ∀ j, i ≤ j → j < n.length → amt (rd n (j : Int))
theorem new_loop (n : List Int) (hl : n.length ≤ 4) : ∀ (d i : Nat), n.length - i = d → i ≤ n.length →
    (AllAmt n i → Ev (fun k => pools_New.l0 k (mk i fun j => one (rd n (j : Int))) n (n.length : Int) (i : Int)) (mk n.length (fun j => one (rd n (j : Int))), 0)) ∧
    (¬ AllAmt n i → Ev (fun k => pools_New.l0 k (mk i fun j => one (rd n (j : Int))) n (n.length : Int) (i : Int)) ([], 1))
  | 0, i, hd, hi => by
    have : i = n.length := by omega
    subst this
    refine ⟨fun _ => ?_, fun h => absurd (fun j h1 h2 => by omega) h⟩
    refine Ev.step (f := fun _ => some _) (fun k => ?_) (Ev.now _)
    simp only [pools_New.l0]
    rw [if_neg (by omega)]
  | d + 1, i, hd, hi => by
    have hlt : i < n.length := by omega
    have q1 : (i : Int) < (n.length : Int) := by omega
    have q2 : (0 : Int) ≤ (i : Int) := by omega
    have q3 : (mk i fun j => one (rd n (j : Int))).length < 5864062014805 := by rw [mk_len]; omega
    have hst : AllAmt n i ↔ amt (rd n (i : Int)) ∧ AllAmt n (i + 1) := all_step (P := fun j => amt (rd n (j : Int))) hlt
    by_cases c : amt (rd n (i : Int))
    · obtain ⟨h1, h2⟩ := new_loop n hl d (i + 1) (by omega) (by omega)
      rw [mk_succ] at h1 h2
      have e : ∀ k, pools_New.l0 (k + 1) (mk i fun j => one (rd n (j : Int))) n (n.length : Int) (i : Int) = pools_New.l0 k ((mk i fun j => one (rd n (j : Int))) ++ [one (rd n (i : Int))]) n (n.length : Int) ((i + 1 : Nat) : Int) := by
        intro k
        simp only [pools_New.l0, if_pos q1, if_pos q2, snew, if_pos c, Option.bind_some, if_true, if_pos q3, nx i (by omega)]
      exact ⟨fun h => Ev.step e (h1 (hst.1 h).2), fun h => Ev.step e (h2 (fun h' => h (hst.2 ⟨c, h'⟩)))⟩
    · refine ⟨fun h => absurd (hst.1 h).1 c, fun _ => Ev.step (f := fun _ => some ([], 1)) (fun k => ?_) (Ev.now _)⟩
      simp only [pools_New.l0, if_pos q1, if_pos q2, snew, if_neg c, Option.bind_some, if_neg (show ¬ (1 : Int) = 0 by decide)]
theorem law_loop (n : List Int) (hl : n.length ≤ 17592186044416) (t : Int) (L : List (List St)) (e : Int) : ∀ (d i : Nat) (b : Bool), n.length - i = d → i ≤ n.length → ∀ c : Bool, (c = true ↔ b = true ∧ AllAmt n i) →
    Ev (fun k => bailiwicklaw04_PoolsNew.l0 k n t L e c (n.length : Int)) true → Ev (fun k => bailiwicklaw04_PoolsNew.l0 k n t L e b (i : Int)) true
  | 0, i, b, hd, hi, c, hc, h => by
    have : i = n.length := by omega
    subst this
    have : b = c := by
      rw [Bool.eq_iff_iff, hc]
      exact ⟨fun h => ⟨h, fun j h1 h2 => by omega⟩, fun h => h.1⟩
    rw [this]; exact h
  | d + 1, i, b, hd, hi, c, hc, h => by
    have hlt : i < n.length := by omega
    have q1 : (i : Int) < (n.length : Int) := by omega
    have q2 : (0 : Int) ≤ (i : Int) := by omega
    have hst : AllAmt n i ↔ amt (rd n (i : Int)) ∧ AllAmt n (i + 1) := all_step (P := fun j => amt (rd n (j : Int))) hlt
    refine Ev.step (f := fun k => bailiwicklaw04_PoolsNew.l0 k n t L e (b && decide (amt (rd n (i : Int)))) ((i + 1 : Nat) : Int)) (fun k => ?_) (law_loop n hl t L e d (i + 1) _ (by omega) (by omega) c (hc.trans ?_) h)
    · cases b with
      | false => simp only [bailiwicklaw04_PoolsNew.l0, if_pos q1, Bool.false_eq_true, if_false, Bool.false_and, nx i (by omega)]
      | true =>
        by_cases c0 : rd n (i : Int) ≥ 0
        · simp only [bailiwicklaw04_PoolsNew.l0, if_pos q1, if_pos q2, if_true, if_pos c0, Bool.true_and, nx i (by omega)]
          rw [show decide (amt (rd n (i : Int))) = decide (rd n (i : Int) ≤ 1048576) from decide_eq_decide.2 ⟨fun h => h.2, fun h => ⟨c0, h⟩⟩]
        · simp only [bailiwicklaw04_PoolsNew.l0, if_pos q1, if_pos q2, if_true, if_neg c0, Bool.true_and, nx i (by omega)]
          rw [decide_eq_false (show ¬ amt (rd n (i : Int)) from fun h => c0 h.1)]
    · rw [hst, Bool.and_eq_true, decide_eq_true_iff, and_assoc]
theorem PoolsNew : bailiwicklaw04_PoolsNew.Pure := by
  intro n t hn _
  refine Ev.rounds (g := fun k => bailiwicklaw04_PoolsNew.f k n t) ?_
  refine Ev.bind awake_ev ?_
  simp only [if_true]
  have hlen : n.length ≤ 17592186044416 := by have := hn.1; omega
  have start : ∀ (L : List (List St)) (e : Int) (b c : Bool), (c = true ↔ b = true ∧ AllAmt n 0) → Ev (fun k => bailiwicklaw04_PoolsNew.l0 k n t L e c (n.length : Int)) true → Ev (fun k => bailiwicklaw04_PoolsNew.j0 k n t L e b) true := by
    intro L e b c hc h
    refine Ev.step (fun k => ?_) (law_loop n hlen t L e n.length 0 b (by omega) (by omega) c hc h)
    simp only [bailiwicklaw04_PoolsNew.j0]; rfl
  have bad : Ev (fun k => bailiwicklaw04_PoolsNew.l0 k n t [] 1 false (n.length : Int)) true := by
    refine Ev.step (f := fun _ => some true) (fun k => ?_) (Ev.now _)
    simp only [bailiwicklaw04_PoolsNew.l0]
    rw [if_neg (by omega)]
    simp
  have nobad : ∀ b, b = true → Ev (fun k => pools_New.j0 k n b) ([], 1) := by
    rintro _ rfl
    exact Ev.step (f := fun _ => some ([], 1)) (fun k => by simp only [pools_New.j0, if_true]) (Ev.now _)
  by_cases c1 : (n.length : Int) < 1
  · refine Ev.bind (a := ([], 1)) (Ev.congr (fun k => ?_) (nobad _ rfl)) ?_
    · simp only [pools_New.f, if_pos c1]
    · simp only [if_neg (show ¬ (n.length : Int) ≥ 1 by omega)]
      exact start [] 1 false false (by simp) bad
  by_cases c2 : (n.length : Int) > 4
  · refine Ev.bind (a := ([], 1)) (Ev.congr (fun k => ?_) (nobad _ (decide_eq_true c2))) ?_
    · simp only [pools_New.f, if_neg c1]
    · simp only [if_pos (show (n.length : Int) ≥ 1 by omega), decide_eq_false (show ¬ (n.length : Int) ≤ 4 by omega)]
      exact start [] 1 false false (by simp) bad
  have q1 : (n.length : Int) ≥ 1 := by omega
  have q2 : (n.length : Int) ≤ 4 := by omega
  obtain ⟨h1, h2⟩ := new_loop n (by omega) n.length 0 (by omega) (by omega)
  by_cases c : AllAmt n 0
  · refine Ev.bind (a := (mk n.length (fun j => one (rd n (j : Int))), 0)) (Ev.congr (f := fun k => pools_New.j0 k n false) (fun k => ?_) (Ev.step (fun k => ?_) (h1 c))) ?_
    · simp only [pools_New.f, if_neg c1, decide_eq_false c2]
    · simp only [pools_New.j0, Bool.false_eq_true, if_false]; rfl
    · simp only [if_pos q1, decide_eq_true q2]
      have ha : ∀ i, i < n.length → amt (rd n (i : Int)) := fun i hi => c i (by omega) hi
      have hr : PRight (mk n.length (fun j => one (rd n (j : Int)))) := ⟨by rw [mk_len]; omega, by rw [mk_len]; omega, fun i hi => by
        rw [mk_len] at hi
        rw [mk_lg _ _ _ hi]; exact one_right (ha i hi)⟩
      refine start _ 0 true true (by simp [c]) ?_
      refine Ev.step (f := fun k => (pools_Right.f k (mk n.length (fun j => one (rd n (j : Int))))).bind fun t478 => if t478 = true then (if 0 ≤ t ∧ t ≤ Never then (pools_At.f k (mk n.length (fun j => one (rd n (j : Int)))) t).bind fun t480 => (bailiwickref01_Same.f k t480 n).bind fun t483 => some t483 else some true) else some false) (fun k => ?_) (Ev.bind (pright_yes hr) ?_)
      · have q : ¬ (n.length : Int) < (n.length : Int) := by omega
        simp only [bailiwicklaw04_PoolsNew.l0, wright, Option.bind_some, if_neg q, if_true, decide_eq_true_eq]
      · simp only [if_true]
        by_cases c3 : 0 ≤ t ∧ t ≤ Never
        · simp only [if_pos c3]
          refine Ev.bind (pat_ev hr t) ?_
          have e : (mk (mk n.length (fun j => one (rd n (j : Int)))).length fun j => tell (lg (mk n.length (fun j => one (rd n (j : Int)))) j) t) = n := by
            rw [mk_len]
            refine Eq.trans (mk_congr fun i hi => ?_) (mk_rself n)
            rw [mk_lg _ _ _ hi]
            unfold tell
            rw [if_pos c3, one_val (ha i hi) c3.1]
          rw [e]
          exact Ev.bind (isame_ev n (by omega)) (Ev.now _)
        · simp only [if_neg c3]; exact Ev.now _
  · refine Ev.bind (a := ([], 1)) (Ev.congr (f := fun k => pools_New.j0 k n false) (fun k => ?_) (Ev.step (fun k => ?_) (h2 c))) ?_
    · simp only [pools_New.f, if_neg c1, decide_eq_false c2]
    · simp only [pools_New.j0, Bool.false_eq_true, if_false]; rfl
    · simp only [if_pos q1, decide_eq_true q2]
      exact start [] 1 true false (by simp [c]) bad
end Go.Proofs.Ytimllhflecippaa.Pure
