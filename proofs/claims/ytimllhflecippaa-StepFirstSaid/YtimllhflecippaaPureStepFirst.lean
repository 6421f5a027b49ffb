import Derived.Test.YtimllhflecippaaF14
import Derived.Test.YtimllhflecippaaStepR
namespace Go.Proofs.Ytimllhflecippaa.Pure
open Go.RowKit Go.Proofs.YtimllhflecippaaW.PrintWords Go.Proofs.YtimllhflecippaaW.PrintMore Go.Proofs.Ytimllhflecippaa.F Go.Proofs.Ytimllhflecippaa.Pk Go.Proofs.Ytimllhflecippaa.StepP Go.Proofs.Ytimllhflecippaa.StepQ Go.Proofs.Ytimllhflecippaa.StepR
set_option linter.unusedSimpArgs false
set_option linter.unusedVariables false

theorem StepFirst : bailiwicklaw03_StepFirst.Pure := by
  intro l f long n _ _ _ _
  refine Ev.rounds (g := fun k => bailiwicklaw03_StepFirst.f k l f long n) ?_
  refine Ev.bind awake_ev ?_
  simp only [if_true]
  by_cases c : (l.length : Int) > 200
  · simp only [if_pos c]; exact Ev.now _
  simp only [if_neg c]
  by_cases h : FirstOk l f long n
  · obtain ⟨r, hr, h1⟩ := first_yes h
    obtain ⟨r', hr', h1'⟩ := rfirst_yes h
    rw [← h1.uniq h1'] at hr'
    refine Ev.bind hr (Ev.bind hr' ?_)
    simp only [if_true, beq_self_eq_true]
    exact Ev.now _
  · refine Ev.bind (first_no h) (Ev.bind (rfirst_no h) ?_)
    simp only [if_true, beq_self_eq_true]
    exact Ev.now _
end Go.Proofs.Ytimllhflecippaa.Pure
