import Derived.Test.YtimllhflecippaaF35
import Derived.Test.YtimllhflecippaaPoolT
namespace Go.Proofs.Ytimllhflecippaa.Pure
open Go.RowKit Go.Proofs.YtimllhflecippaaW.PrintWords Go.Proofs.YtimllhflecippaaW.PrintMore Go.Proofs.Ytimllhflecippaa.F Go.Proofs.Ytimllhflecippaa.Pk Go.Proofs.Ytimllhflecippaa.StepP Go.Proofs.Ytimllhflecippaa.StepQ Go.Proofs.Ytimllhflecippaa.StepT Go.Proofs.Ytimllhflecippaa.PoolP Go.Proofs.Ytimllhflecippaa.PoolQ
set_option linter.unusedSimpArgs false
set_option linter.unusedVariables false
theorem PoolsFirst : bailiwicklaw04_PoolsFirst.Pure := by
  intro L f long n early _ _ _ _ _
  refine Ev.rounds (g := fun k => bailiwicklaw04_PoolsFirst.f k L f long n early) ?_
  refine Ev.bind PoolP.awake_ev ?_
  simp only [if_true]
  have yes : ∀ b, b = true → Ev (fun k => bailiwicklaw04_PoolsFirst.j0 k L f long n early b) true := by
    rintro _ rfl
    exact Ev.step (f := fun _ => some true) (fun k => by simp only [bailiwicklaw04_PoolsFirst.j0, if_true]) (Ev.now _)
  by_cases hs : Short L
  · refine Ev.bind (short_ev L true ⟨fun _ => hs, fun _ => rfl⟩) ?_
    simp only [if_true]
    by_cases c : (n.length : Int) > 10
    · exact yes _ (decide_eq_true c)
    rw [decide_eq_false c]
    obtain ⟨r, hr, hp⟩ := pfirst_ev L f long n
    rcases hp with ⟨e, _⟩ | ⟨t, e, hok, h1, h2, h3, h4⟩
    · subst e
      refine Ev.step (f := fun k => (pools_First.f k L f long n).bind fun bt553 => if bt553.2 = true then ((when_Plus.f bt553.1 long).bind fun t555 => ((pools_Take.f k L bt553.1 t555 n).bind fun bt556 => ((when_Plus.f bt553.1 long).bind fun t560 => ((pools_Give.f k bt556.1 bt553.1 t560 n).bind fun bt561 => (if bt556.2 = 0 then (if bt561.2 = 0 then ((bailiwickref04_Same.f k bt561.1 L).bind fun t565 => (if t565 = true then (bailiwicklaw04_PoolsFirst.j1 k L f long n early bt553.1 (decide (bt553.1 < f))) else (bailiwicklaw04_PoolsFirst.j1 k L f long n early bt553.1 true))) else (bailiwicklaw04_PoolsFirst.j1 k L f long n early bt553.1 true)) else (if bt556.2 = 4 then (bailiwicklaw04_PoolsFirst.j1 k L f long n early bt553.1 (decide (bt553.1 < f))) else (bailiwicklaw04_PoolsFirst.j1 k L f long n early bt553.1 true))))))) else (some (bt553.1 == 0))) (fun k => ?_) (Ev.bind hr ?_)
      · simp only [bailiwicklaw04_PoolsFirst.j0, Bool.false_eq_true, if_false]
      · simp only [Bool.false_eq_true, if_false]; exact Ev.now _
    · subst e
      obtain ⟨hg, hok⟩ := hok
      have h0 := hok 0 (by have := hg.1.1; omega)
      have hf := h0.2.1
      have hlong := h0.2.2.1
      have hgt := pls_gt (t := t) (by omega) h2 hlong
      have allok : ∀ x, f ≤ x → x < Never → ∀ j, j < L.length → TakeOk (lg L j) x (pls x long) (ng n j) := fun x a b j hj => by
        have := pls_gt (t := x) (by omega) b hlong
        exact ⟨⟨hg.1.2.2 j hj, by omega, this.1, this.2⟩, (hok j hj).2.2.2⟩
      rcases ptake_cases hs t (pls t long) n with ⟨_, ha, hev⟩ | ⟨e, _, _, _, hno⟩
      · have hback := (ptake_give hs hg ha).2
        refine Ev.step (f := fun k => (pools_First.f k L f long n).bind fun bt553 => if bt553.2 = true then ((pools_Take.f k L bt553.1 (pls bt553.1 long) n).bind fun bt556 => ((pools_Give.f k bt556.1 bt553.1 (pls bt553.1 long) n).bind fun bt561 => (if bt556.2 = 0 then (if bt561.2 = 0 then ((bailiwickref04_Same.f k bt561.1 L).bind fun t565 => (if t565 = true then (bailiwicklaw04_PoolsFirst.j1 k L f long n early bt553.1 (decide (bt553.1 < f))) else (bailiwicklaw04_PoolsFirst.j1 k L f long n early bt553.1 true))) else (bailiwicklaw04_PoolsFirst.j1 k L f long n early bt553.1 true)) else (if bt556.2 = 4 then (bailiwicklaw04_PoolsFirst.j1 k L f long n early bt553.1 (decide (bt553.1 < f))) else (bailiwicklaw04_PoolsFirst.j1 k L f long n early bt553.1 true))))) else (some (bt553.1 == 0))) (fun k => ?_) (Ev.bind hr ?_)
        · simp only [bailiwicklaw04_PoolsFirst.j0, Bool.false_eq_true, if_false, plus_ev, Option.bind_some]
        simp only [if_true]
        refine Ev.bind hev ?_
        simp only [if_true]
        refine Ev.bind hback ?_
        simp only [if_true]
        refine Ev.bind (psame_ev hs) ?_
        simp only [if_true, decide_eq_false (show ¬ t < f by omega)]
        have skip : ∀ b, b = true → Ev (fun k => bailiwicklaw04_PoolsFirst.j2 k L long n early b) true := by
          rintro _ rfl
          exact Ev.step (f := fun _ => some true) (fun k => by simp only [bailiwicklaw04_PoolsFirst.j2, if_true]) (Ev.now _)
        by_cases e1 : early < f
        · refine Ev.step (fun k => ?_) (skip _ rfl)
          simp only [bailiwicklaw04_PoolsFirst.j1, Bool.false_eq_true, if_false, if_pos e1]
        by_cases e2 : early ≥ t
        · refine Ev.step (fun k => ?_) (skip _ rfl)
          simp only [bailiwicklaw04_PoolsFirst.j1, Bool.false_eq_true, if_false, if_neg e1, decide_eq_true e2]
        refine Ev.step (f := fun k => bailiwicklaw04_PoolsFirst.j2 k L long n early false) (fun k => ?_) ?_
        · simp only [bailiwicklaw04_PoolsFirst.j1, Bool.false_eq_true, if_false, if_neg e1, decide_eq_false e2]
        rcases ptake_cases hs early (pls early long) n with ⟨_, hb, _⟩ | ⟨e, _, hev5, h5, _⟩
        · exact absurd (fun j hj => (hb j hj).2) (h4 early (by omega) (by omega))
        · rw [h5 hg (allok early (by omega) (by omega))] at hev5
          refine Ev.step (f := fun k => (pools_Take.f k L early (pls early long) n).bind fun bt567 => if bt567.2 = 5 then some true else some (bt567.2 == 4)) (fun k => ?_) (Ev.bind hev5 ?_)
          · simp only [bailiwicklaw04_PoolsFirst.j2, Bool.false_eq_true, if_false, plus_ev, Option.bind_some]
          · simp only [if_true]; exact Ev.now _
      · exact absurd ⟨hg, fun j hj => ⟨allok t h1 h2 j hj, h3 j hj⟩⟩ hno
  · refine Ev.bind (short_ev L false ⟨fun h => Bool.noConfusion h, fun h => absurd h hs⟩) ?_
    simp only [Bool.false_eq_true, if_false]
    exact yes _ rfl
end Go.Proofs.Ytimllhflecippaa.Pure
