import Derived.Test.YtimllhflecippaaF25
import Derived.Test.YtimllhflecippaaStepT
namespace Go.Proofs.Ytimllhflecippaa.Pure
open Go.RowKit Go.Proofs.YtimllhflecippaaW.PrintWords Go.Proofs.YtimllhflecippaaW.PrintMore Go.Proofs.Ytimllhflecippaa.F Go.Proofs.Ytimllhflecippaa.Pk Go.Proofs.Ytimllhflecippaa.StepP Go.Proofs.Ytimllhflecippaa.StepQ Go.Proofs.Ytimllhflecippaa.StepT
set_option linter.unusedSimpArgs false
set_option linter.unusedVariables false

theorem StepTakes : bailiwicklaw03_StepTakes.Pure := by
  intro l f t n s _ _ _ _ _
  refine Ev.rounds (g := fun k => bailiwicklaw03_StepTakes.f k l f t n s) ?_
  refine Ev.bind awake_ev ?_
  simp only [if_true]
  by_cases c : (l.length : Int) > 200
  · simp only [if_pos c]; exact Ev.now _
  simp only [if_neg c]
  have hl : l.length ≤ 200 := by omega
  rcases take_cases l f t n hl with ⟨_, hev⟩ | ⟨_, _, hev⟩ | ⟨hok, hall, hev⟩
  · refine Ev.bind hev ?_
    rw [show ((l, (1 : Int)) : List St × Int).2 = 1 from rfl]
    simp only [if_neg (show ¬ (1 : Int) = 0 by decide)]
    exact Ev.bind (same_ev l (by omega)) (Ev.now _)
  · refine Ev.bind hev ?_
    simp only [if_neg (show ¬ (5 : Int) = 0 by decide)]
    exact Ev.bind (same_ev l (by omega)) (Ev.now _)
  refine Ev.bind hev ?_
  obtain ⟨hr, hv, hg⟩ := take_give hok hl hall
  obtain ⟨⟨h0, h1, h2, h3⟩, h4⟩ := hok
  simp only [if_true]
  have fin : ∀ a b : Int, a = b → Ev (fun k => step_At.f k (chg l f t (-n)) s) b → Ev (fun k => bailiwicklaw03_StepTakes.j1 k l f t n s (chg l f t (-n)) a) true := by
    rintro a _ rfl hat
    refine Ev.step (f := fun k => (step_Give.f k (chg l f t (-n)) f t n).bind fun bt => (step_Right.f k (chg l f t (-n))).bind fun t382 => if t382 = true then (step_At.f k (chg l f t (-n)) s).bind fun t383 => if t383 = a then (if bt.2 = 0 then (bailiwickref03_Same.f k bt.1 l).bind fun t384 => some t384 else some false) else some false else some false) (fun k => ?_) ?_
    · simp only [bailiwicklaw03_StepTakes.j1]
    refine Ev.bind hg (Ev.bind (right_yes hr) ?_)
    simp only [if_true]
    refine Ev.bind hat ?_
    simp only [if_true]
    exact Ev.bind (same_ev l (by omega)) (Ev.now _)
  by_cases hs : 0 ≤ s ∧ s ≤ Never
  · have hat := at_ev hr hs.1 hs.2
    rw [hv s hs.1 hs.2] at hat
    refine Ev.bind (at_ev h0 hs.1 hs.2) ?_
    simp only [wright, Option.bind_some, decide_eq_true hs, if_true, plus_ev]
    have hval := h0.val_amt hs.1
    unfold amt at hval h4
    have no : ¬ (f ≤ s ∧ s < t) → Ev (fun k => bailiwicklaw03_StepTakes.j0 k l f t n s (chg l f t (-n)) (val l s) false) true := by
      intro hno
      refine Ev.step (fun k => ?_) (fin (val l s) _ (by unfold more; rw [if_neg hno]) hat)
      simp only [bailiwicklaw03_StepTakes.j0, Bool.false_eq_true, if_false]
    have yes : (f ≤ s ∧ s < t) → Ev (fun k => bailiwicklaw03_StepTakes.j0 k l f t n s (chg l f t (-n)) (val l s) true) true := by
      intro hyes
      refine Ev.step (fun k => ?_) (fin (wrap64 (val l s - n)) _ (by unfold more; rw [if_pos hyes, w64 (by omega) (by omega)]; omega) hat)
      simp only [bailiwicklaw03_StepTakes.j0, if_true]
    by_cases hn : s < Never
    · have e : pls s 1 = s + 1 := by rw [pls_val hs.1 hs.2 (by omega), if_neg (by omega)]
      have n1 : ¬ s ≥ s + 1 := by omega
      simp only [e, when_Within.f, if_neg n1]
      by_cases a1 : f ≤ s
      · by_cases a2 : s + 1 ≤ t
        · simp only [if_pos a1, decide_eq_true a2, Option.bind_some, if_true, decide_eq_true (show s < 4611686018427387904 from hn)]
          exact yes ⟨a1, by omega⟩
        · simp only [if_pos a1, decide_eq_false a2, Option.bind_some, Bool.false_eq_true, if_false]
          exact no (by omega)
      · simp only [if_neg a1, Option.bind_some, Bool.false_eq_true, if_false]
        exact no (by omega)
    · have hno : ¬ (f ≤ s ∧ s < t) := by omega
      have n2 : ¬ s < 4611686018427387904 := hn
      simp only [decide_eq_false n2]
      have : ∀ x : Bool, (if x = true then fun k => bailiwicklaw03_StepTakes.j0 k l f t n s (chg l f t (-n)) (val l s) false else fun k => bailiwicklaw03_StepTakes.j0 k l f t n s (chg l f t (-n)) (val l s) false) = fun k => bailiwicklaw03_StepTakes.j0 k l f t n s (chg l f t (-n)) (val l s) false := by intro x; split <;> rfl
      simp only [ite_self]
      have hw : ∃ b, when_Within.f s (pls s 1) f t = some b := by unfold when_Within.f; split; exact ⟨_, rfl⟩; split <;> exact ⟨_, rfl⟩
      obtain ⟨b, hw⟩ := hw
      simp only [hw, Option.bind_some]
      exact no hno
  · refine Ev.bind (at_no (fun x => hs x.2)) ?_
    simp only [wright, Option.bind_some, decide_eq_false hs, Bool.false_eq_true, if_false]
    refine Ev.step (fun k => ?_) (fin 0 0 rfl (at_no (fun x => hs x.2)))
    simp only [bailiwicklaw03_StepTakes.j0, Bool.false_eq_true, if_false]
end Go.Proofs.Ytimllhflecippaa.Pure
