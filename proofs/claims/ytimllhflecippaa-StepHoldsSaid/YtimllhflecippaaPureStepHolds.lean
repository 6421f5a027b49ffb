import Derived.Test.YtimllhflecippaaF15
import Derived.Test.YtimllhflecippaaStepQ
namespace Go.Proofs.Ytimllhflecippaa.Pure
open Go.RowKit Go.Proofs.YtimllhflecippaaW.PrintWords Go.Proofs.YtimllhflecippaaW.PrintMore Go.Proofs.Ytimllhflecippaa.F Go.Proofs.Ytimllhflecippaa.Pk Go.Proofs.Ytimllhflecippaa.StepP Go.Proofs.Ytimllhflecippaa.StepQ
set_option linter.unusedSimpArgs false
set_option linter.unusedVariables false

theorem StepHolds : bailiwicklaw03_StepHolds.Pure := by
  intro l f long n early _ _ _ _ _
  refine Ev.rounds (g := fun k => bailiwicklaw03_StepHolds.f k l f long n early) ?_
  refine Ev.bind awake_ev ?_
  simp only [if_true]
  by_cases c : (l.length : Int) > 200
  · simp only [if_pos c]; exact Ev.now _
  simp only [if_neg c]
  by_cases h : FirstOk l f long n
  · obtain ⟨r, hr, h1⟩ := first_yes h
    refine Ev.bind hr ?_
    obtain ⟨h0, ⟨hf0, hfn⟩, hlong, hn⟩ := h
    refine Ev.bind (right_yes h0) ?_
    have n1 : ¬ f = 4611686018427387904 := by unfold Never at hfn; omega
    have n2 : ¬ long < 1 := by omega
    have n3 : ¬ n < 0 := by have := hn.1; omega
    have n4 : ¬ n > 1048576 := by have := hn.2; omega
    simp only [if_true, wright, Option.bind_some, decide_eq_true (show 0 ≤ f ∧ f ≤ Never by omega), if_neg n1, if_neg n2, if_neg n3, decide_eq_false n4]
    have last : (0 ≤ early ∧ early < Never ∧ ¬ Fits l long n early) → ∀ b, Ev (fun k => bailiwicklaw03_StepHolds.j2 k l long n early b) true := by
      intro he b
      cases b with
      | true => exact Ev.step (f := fun _ => some true) (fun k => by simp only [bailiwicklaw03_StepHolds.j2, if_true]) (Ev.now _)
      | false =>
        have hgt := pls_gt he.1 he.2.1 hlong
        obtain ⟨m, hev, hm⟩ := Least_yes (l := l) (f := early) (t := pls early long) ⟨h0, he.1, hgt.1, hgt.2⟩
        have hmn := least_fits (n := n) hm hn.2
        refine Ev.step (f := fun k => (step_Least.f k l early (pls early long)).bind fun bt => if bt.2 = 0 then some (decide (bt.1 < n)) else some false) (fun k => ?_) (Ev.bind hev ?_)
        · simp only [bailiwicklaw03_StepHolds.j2, Bool.false_eq_true, if_false, plus_ev, Option.bind_some]
        · have : m < n := by
            rcases Int.lt_or_le m n with x | x
            · exact x
            · exact absurd (hmn.1 x) he.2.2
          simp only [if_true, decide_eq_true this]
          exact Ev.now _
    have skip : Ev (fun k => bailiwicklaw03_StepHolds.j2 k l long n early true) true := Ev.step (f := fun _ => some true) (fun k => by simp only [bailiwicklaw03_StepHolds.j2, if_true]) (Ev.now _)
    rcases h1 with ⟨e, h1⟩ | ⟨t, e, h1, h2, h3, h4⟩
    · subst e
      refine Ev.step (f := fun k => bailiwicklaw03_StepHolds.j1 k l f long n early 0 false) (fun k => ?_) ?_
      · simp only [bailiwicklaw03_StepHolds.j0, Bool.false_eq_true, if_false]
      by_cases e1 : early < f
      · refine Ev.step (fun k => ?_) skip
        simp only [bailiwicklaw03_StepHolds.j1, if_pos e1]
      by_cases e2 : early ≥ 4611686018427387904
      · refine Ev.step (fun k => ?_) skip
        simp only [bailiwicklaw03_StepHolds.j1, if_neg e1, if_pos e2]
      · refine Ev.step (fun k => ?_) (last ⟨by omega, by unfold Never; omega, h1 _ (by omega) (by unfold Never; omega)⟩ false)
        simp only [bailiwicklaw03_StepHolds.j1, if_neg e1, if_neg e2, Bool.false_eq_true, if_false]
    · subst e
      have hgt := pls_gt (t := t) (by omega) h2 hlong
      obtain ⟨m, hev, hm⟩ := Least_yes (l := l) (f := t) (t := pls t long) ⟨h0, by omega, hgt.1, hgt.2⟩
      have hmn := (least_fits (n := n) hm hn.2).2 h3
      have g1 : ¬ m < n := by omega
      have g2 : ¬ t < f := by omega
      have g3 : ¬ t ≥ 4611686018427387904 := by unfold Never at h2; omega
      refine Ev.step (f := fun k => (step_Least.f k l t (pls t long)).bind fun bt => if bt.2 = 0 then (if bt.1 < n then some false else bailiwicklaw03_StepHolds.j1 k l f long n early t true) else some false) (fun k => ?_) (Ev.bind hev ?_)
      · simp only [bailiwicklaw03_StepHolds.j0, Bool.false_eq_true, if_false, if_true, plus_ev, Option.bind_some, if_neg g2, if_neg g3]
      simp only [if_true, if_neg g1]
      by_cases e1 : early < f
      · refine Ev.step (fun k => ?_) skip
        simp only [bailiwicklaw03_StepHolds.j1, if_pos e1]
      by_cases e2 : early ≥ 4611686018427387904
      · refine Ev.step (fun k => ?_) skip
        simp only [bailiwicklaw03_StepHolds.j1, if_neg e1, if_pos e2]
      by_cases e3 : early ≥ t
      · refine Ev.step (fun k => ?_) skip
        simp only [bailiwicklaw03_StepHolds.j1, if_neg e1, if_neg e2, if_true, decide_eq_true e3]
      · refine Ev.step (fun k => ?_) (last ⟨by omega, by unfold Never; omega, h4 _ (by omega) (by omega)⟩ false)
        simp only [bailiwicklaw03_StepHolds.j1, if_neg e1, if_neg e2, if_true, decide_eq_false e3]
  · refine Ev.bind (first_no h) ?_
    have no : ∀ b, b = true → Ev (fun k => bailiwicklaw03_StepHolds.j0 k l f long n early 0 false b) true := by
      rintro _ rfl
      refine Ev.step (f := fun _ => some true) (fun k => ?_) (Ev.now _)
      simp only [bailiwicklaw03_StepHolds.j0, if_true, Bool.false_eq_true, if_false]; rfl
    by_cases c0 : Right l
    · refine Ev.bind (right_yes c0) ?_
      simp only [if_true, wright, Option.bind_some]
      by_cases c1 : 0 ≤ f ∧ f ≤ Never
      · simp only [decide_eq_true c1, if_true]
        by_cases c2 : f = 4611686018427387904
        · simp only [if_pos c2]; exact no _ rfl
        by_cases c3 : long < 1
        · simp only [if_neg c2, if_pos c3]; exact no _ rfl
        by_cases c4 : n < 0
        · simp only [if_neg c2, if_neg c3, if_pos c4]; exact no _ rfl
        simp only [if_neg c2, if_neg c3, if_neg c4]
        refine no _ (decide_eq_true ?_)
        refine Classical.byContradiction fun x => h ⟨c0, ⟨c1.1, by have := c1.2; unfold Never at this ⊢; omega⟩, by omega, by omega, by omega⟩
      · simp only [decide_eq_false c1, Bool.false_eq_true, if_false]
        exact no _ rfl
    · refine Ev.bind (right_no c0) ?_
      simp only [Bool.false_eq_true, if_false]
      exact no _ rfl
end Go.Proofs.Ytimllhflecippaa.Pure
