import Derived.Test.YtimllhflecippaaF36
import Derived.Test.YtimllhflecippaaPoolT
namespace Go.Proofs.Ytimllhflecippaa.Pure
open Go.RowKit Go.Proofs.YtimllhflecippaaW.PrintWords Go.Proofs.YtimllhflecippaaW.PrintMore Go.Proofs.Ytimllhflecippaa.F Go.Proofs.Ytimllhflecippaa.Pk Go.Proofs.Ytimllhflecippaa.StepP Go.Proofs.Ytimllhflecippaa.StepQ Go.Proofs.Ytimllhflecippaa.StepT Go.Proofs.Ytimllhflecippaa.PoolP Go.Proofs.Ytimllhflecippaa.PoolQ
set_option linter.unusedSimpArgs false
set_option linter.unusedVariables false
section
variable {L : List (List St)} {f t s : Int} {n : List Int} (hs : Short L) (hg : Goods L n) (h : ∀ j, j < L.length → TakeOk (lg L j) f t (ng n j) ∧ Enough L f t n j)
include hs hg h
theorem back_loop : ∀ (d i : Nat), L.length - i = d → i ≤ L.length →
    Ev (fun k => bailiwicklaw04_PoolsBack.l0 k L f t n s L 0 (mk L.length fun j => tell (lg L j) s) (mk L.length fun j => tell (taken L f t n j) s) (i : Int)) true := by
  have hlen := hg.1.2.1
  have fin : ∀ i : Int, Ev (fun k => bailiwicklaw04_PoolsBack.j2 k L f t n s L 0 (mk L.length fun j => tell (lg L j) s) (mk L.length fun j => tell (taken L f t n j) s) i false) true := by
    intro i
    refine Ev.step (f := fun k => (bailiwickref04_Same.f k L L).bind fun t589 => if t589 = true then some true else some false) (fun k => ?_) (Ev.bind (psame_ev hs) (Ev.now _))
    simp only [bailiwicklaw04_PoolsBack.j2, Bool.false_eq_true, if_false, if_true, mk_len, beq_self_eq_true]
  intro d
  induction d with
  | zero =>
    intro i hd hi
    refine Ev.step (fun k => ?_) (fin i)
    simp only [bailiwicklaw04_PoolsBack.l0, mk_len]
    rw [if_neg (by omega)]
  | succ d ih =>
    intro i hd hi
    have hlt : i < L.length := by omega
    have q1 : (i : Int) < (L.length : Int) := by omega
    have q2 : (0 : Int) ≤ (i : Int) := by omega
    have q4 : (i : Int) < (n.length : Int) := by have := hg.2; omega
    by_cases hS : 0 ≤ s ∧ s ≤ Never
    · refine Ev.step (f := fun k => bailiwicklaw04_PoolsBack.j2 k L f t n s L 0 (mk L.length fun j => tell (lg L j) s) (mk L.length fun j => tell (taken L f t n j) s) (i : Int) true) (fun k => ?_) ?_
      · simp only [bailiwicklaw04_PoolsBack.l0, mk_len, if_pos q1, wright, Option.bind_some, decide_eq_true hS]
      have w0 : rd (mk L.length fun j => tell (lg L j) s) (i : Int) = val (lg L i) s := by rw [mk_rd _ _ _ hlt]; unfold tell; rw [if_pos hS]
      have w1 : rd (mk L.length fun j => tell (taken L f t n j) s) (i : Int) = more f t (-(ng n i)) s (val (lg L i) s) := by
        rw [mk_rd _ _ _ hlt]; unfold tell; rw [if_pos hS]
        exact (take_give (h i hlt).1 (by have := hs.2 i hlt; omega) (h i hlt).2).2.1 s hS.1 hS.2
      have hv := (hg.1.2.2 i hlt).val_amt hS.1
      have hn := (h i hlt).1.2
      unfold amt at hv hn
      have next := ih (i + 1) (by omega) (by omega)
      have in_ : (f ≤ s ∧ s < t) → Ev (fun k => bailiwicklaw04_PoolsBack.j3 k L f t n s L 0 (mk L.length fun j => tell (lg L j) s) (mk L.length fun j => tell (taken L f t n j) s) (i : Int) (val (lg L i) s) true) true := by
        intro c
        refine Ev.step (fun k => ?_) next
        have e : more f t (-(ng n i)) s (val (lg L i) s) = wrap64 (val (lg L i) s - ng n i) := by
          rw [w64 (by omega) (by omega)]; unfold more; rw [if_pos c]; omega
        rw [e] at w1
        simp only [bailiwicklaw04_PoolsBack.j3, if_true, if_pos q2, if_pos q4, mk_len, if_pos q1, w1, nx i (by omega)]
      have out : ¬ (f ≤ s ∧ s < t) → Ev (fun k => bailiwicklaw04_PoolsBack.j3 k L f t n s L 0 (mk L.length fun j => tell (lg L j) s) (mk L.length fun j => tell (taken L f t n j) s) (i : Int) (val (lg L i) s) false) true := by
        intro c
        refine Ev.step (fun k => ?_) next
        have e : more f t (-(ng n i)) s (val (lg L i) s) = val (lg L i) s := by unfold more; rw [if_neg c]
        rw [e] at w1
        simp only [bailiwicklaw04_PoolsBack.j3, Bool.false_eq_true, if_false, if_true, if_pos q2, mk_len, if_pos q1, w1, nx i (by omega)]
      by_cases c1 : s ≥ f
      · by_cases c2 : s < t
        · refine Ev.step (fun k => ?_) (in_ ⟨c1, c2⟩)
          simp only [bailiwicklaw04_PoolsBack.j2, if_true, if_pos q2, mk_len, if_pos q1, if_pos c1, decide_eq_true c2, w0]
        · refine Ev.step (fun k => ?_) (out (by omega))
          simp only [bailiwicklaw04_PoolsBack.j2, if_true, if_pos q2, mk_len, if_pos q1, if_pos c1, decide_eq_false c2, w0]
      · refine Ev.step (fun k => ?_) (out (by omega))
        simp only [bailiwicklaw04_PoolsBack.j2, if_true, if_pos q2, mk_len, if_pos q1, if_neg c1, w0]
    · refine Ev.step (fun k => ?_) (fin i)
      simp only [bailiwicklaw04_PoolsBack.l0, mk_len, if_pos q1, wright, Option.bind_some, decide_eq_false hS]
end
theorem PoolsBack : bailiwicklaw04_PoolsBack.Pure := by
  intro L f t n s _ _ _ _ _
  refine Ev.rounds (g := fun k => bailiwicklaw04_PoolsBack.f k L f t n s) ?_
  refine Ev.bind PoolP.awake_ev ?_
  simp only [if_true]
  have yes : ∀ b, b = true → Ev (fun k => bailiwicklaw04_PoolsBack.j0 k L f t n s b) true := by
    rintro _ rfl
    exact Ev.step (f := fun _ => some true) (fun k => by simp only [bailiwicklaw04_PoolsBack.j0, if_true]) (Ev.now _)
  by_cases hs : Short L
  · refine Ev.bind (short_ev L true ⟨fun _ => hs, fun _ => rfl⟩) ?_
    simp only [if_true]
    by_cases c : (n.length : Int) > 10
    · exact yes _ (decide_eq_true c)
    rw [decide_eq_false c]
    refine Ev.step (f := fun k => (pools_Take.f k L f t n).bind fun bt573 => (if bt573.2 = 0 then ((pools_Give.f k bt573.1 f t n).bind fun bt578 => ((pools_At.f k L s).bind fun t582 => ((pools_At.f k bt573.1 s).bind fun t585 => (bailiwicklaw04_PoolsBack.l0 k L f t n s bt578.1 bt578.2 t582 t585 0)))) else ((bailiwickref04_Same.f k bt573.1 L).bind fun t577 => (some t577)))) (fun k => ?_) ?_
    · simp only [bailiwicklaw04_PoolsBack.j0, Bool.false_eq_true, if_false]
    rcases ptake_cases hs f t n with ⟨hg, ha, hev⟩ | ⟨e, he, hev, _, _⟩
    · refine Ev.bind hev ?_
      obtain ⟨hr, hback⟩ := ptake_give hs hg ha
      simp only [if_true]
      refine Ev.bind hback (Ev.bind (pat_ev hg.1 s) (Ev.bind (pat_ev hr s) ?_))
      have e : (mk (mk L.length (taken L f t n)).length fun j => tell (lg (mk L.length (taken L f t n)) j) s) = mk L.length fun j => tell (taken L f t n j) s := by
        rw [mk_len]
        exact mk_congr fun i hi => by rw [mk_lg _ _ _ hi]
      rw [e]
      exact back_loop hs hg ha L.length 0 (by omega) (by omega)
    · refine Ev.bind hev ?_
      simp only [if_neg he]
      exact Ev.bind (psame_ev hs) (Ev.now _)
  · refine Ev.bind (short_ev L false ⟨fun h => Bool.noConfusion h, fun h => absurd h hs⟩) ?_
    simp only [Bool.false_eq_true, if_false]
    exact yes _ rfl
end Go.Proofs.Ytimllhflecippaa.Pure
