/- Layer 4, plainly: what Take and Give of pools answer. -/
import Derived.Test.YtimllhflecippaaF26
import Derived.Test.YtimllhflecippaaF33
import Derived.Test.YtimllhflecippaaF34
import Derived.Test.YtimllhflecippaaPoolQ
import Derived.Test.YtimllhflecippaaStepT
namespace Go.Proofs.Ytimllhflecippaa.PoolQ
open Go.RowKit Go.Proofs.YtimllhflecippaaW.PrintWords Go.Proofs.YtimllhflecippaaW.PrintMore Go.Proofs.Ytimllhflecippaa.F Go.Proofs.Ytimllhflecippaa.Pk Go.Proofs.Ytimllhflecippaa.StepP Go.Proofs.Ytimllhflecippaa.StepQ Go.Proofs.Ytimllhflecippaa.StepT Go.Proofs.Ytimllhflecippaa.PoolP
set_option linter.unusedSimpArgs false
set_option linter.unusedVariables false

theorem clone_loop {L : List (List St)} (h : Short L) : ∀ (d i : Nat), L.length - i = d → i ≤ L.length → Ev (fun k => pools_clone.l0 k (mk i (lg L)) L (L.length : Int) (i : Int)) L
  | 0, i, hd, hi => by
    have : i = L.length := by omega
    subst this
    refine Ev.step (f := fun _ => some L) (fun k => ?_) (Ev.now _)
    simp only [pools_clone.l0]
    rw [if_neg (by omega), mk_self]
  | d + 1, i, hd, hi => by
    have hlt : i < L.length := by omega
    have h1 := h.1
    have h2 := h.2 i hlt
    have q1 : (i : Int) < (L.length : Int) := by omega
    have q2 : (0 : Int) ≤ (i : Int) := by omega
    have q3 : (mk i (lg L)).length < 5864062014805 := by rw [mk_len]; omega
    have := clone_loop h d (i + 1) (by omega) (by omega)
    rw [mk_succ] at this
    refine Ev.step (fun k => ?_) this
    have hc := clone_ev (l := lg L i) (by omega)
    simp only [pools_clone.l0, if_pos q1, if_pos q2, hc, Option.bind_some, if_pos q3, nx i (by omega)]
theorem clone_ev {L : List (List St)} (h : Short L) : Ev (fun k => pools_clone.f k L) L := by
  exact clone_loop h L.length 0 (by omega) (by omega)
theorem psame_loop {L : List (List St)} (h : Short L) : ∀ (d i : Nat), L.length - i = d → i ≤ L.length → Ev (fun k => bailiwickref04_Same.l0 k L L (i : Int)) true
  | 0, i, hd, hi => by
    refine Ev.step (f := fun _ => some true) (fun k => ?_) (Ev.now _)
    simp only [bailiwickref04_Same.l0]
    rw [if_neg (by omega)]
  | d + 1, i, hd, hi => by
    have hlt : i < L.length := by omega
    have h1 := h.1
    have h2 := h.2 i hlt
    have q1 : (i : Int) < (L.length : Int) := by omega
    have q2 : (0 : Int) ≤ (i : Int) := by omega
    refine Ev.step (f := fun k => (bailiwickref03_Same.f k (lg L i) (lg L i)).bind fun t => if t = true then bailiwickref04_Same.l0 k L L ((i + 1 : Nat) : Int) else some false) (fun k => ?_) (Ev.bind (same_ev _ (by omega)) ?_)
    · simp only [bailiwickref04_Same.l0, if_pos q1, if_pos q2, nx i (by omega)]
    · simp only [if_true]
      exact psame_loop h d (i + 1) (by omega) (by omega)
theorem psame_ev {L : List (List St)} (h : Short L) : Ev (fun k => bailiwickref04_Same.f k L L) true := by
  refine Ev.congr (fun k => ?_) (psame_loop h L.length 0 (by omega) (by omega))
  simp only [bailiwickref04_Same.f, if_true]; rfl
def Enough (L : List (List St)) (f t : Int) (n : List Int) (i : Nat) : Prop := ∀ x, f ≤ x → x < t → ng n i ≤ val (lg L i) x
def taken (L : List (List St)) (f t : Int) (n : List Int) (i : Nat) : List St := chg (lg L i) f t (-(ng n i))
theorem take_loop {L : List (List St)} (hs : Short L) {f t : Int} {n : List Int} (hn : n.length = L.length) : ∀ (d i : Nat), L.length - i = d → i ≤ L.length →
    ((∀ j, i ≤ j → j < L.length → TakeOk (lg L j) f t (ng n j) ∧ Enough L f t n j) ∧ Ev (fun k => pools_each_at_step_Take.l0 k L f t n (mk i (taken L f t n)) L (L.length : Int) (i : Int)) (mk L.length (taken L f t n), 0)) ∨
    (∃ e : Int, e ≠ 0 ∧ Ev (fun k => pools_each_at_step_Take.l0 k L f t n (mk i (taken L f t n)) L (L.length : Int) (i : Int)) (L, e) ∧ ((∀ j, i ≤ j → j < L.length → TakeOk (lg L j) f t (ng n j)) → e = 5) ∧ ¬ ∀ j, i ≤ j → j < L.length → TakeOk (lg L j) f t (ng n j) ∧ Enough L f t n j)
  | 0, i, hd, hi => by
    have : i = L.length := by omega
    subst this
    refine .inl ⟨fun j h1 h2 => by omega, Ev.step (f := fun _ => some _) (fun k => ?_) (Ev.now _)⟩
    simp only [pools_each_at_step_Take.l0]
    rw [if_neg (by omega)]
  | d + 1, i, hd, hi => by
    have hlt : i < L.length := by omega
    have h1 := hs.1
    have h2 := hs.2 i hlt
    have q1 : (i : Int) < (L.length : Int) := by omega
    have q2 : (0 : Int) ≤ (i : Int) := by omega
    have q3 : (mk i (taken L f t n)).length < 5864062014805 := by rw [mk_len]; omega
    have q4 : (i : Int) < (n.length : Int) := by omega
    have e : ∀ k, pools_each_at_step_Take.l0 (k + 1) L f t n (mk i (taken L f t n)) L (L.length : Int) (i : Int) = (step_Take.f k (lg L i) f t (ng n i)).bind fun bt => if bt.2 = 0 then pools_each_at_step_Take.l0 k L f t n (mk i (taken L f t n) ++ [bt.1]) L (L.length : Int) ((i + 1 : Nat) : Int) else (pools_clone.f k L).bind fun t => some (t, bt.2) := by
      intro k
      simp only [pools_each_at_step_Take.l0, if_pos q1, if_pos q2, if_pos q3, if_pos q4, nx i (by omega)]
    rcases take_cases (lg L i) f t (ng n i) (by omega) with ⟨a, hev⟩ | ⟨a, b, hev⟩ | ⟨a, b, hev⟩
    · refine .inr ⟨1, by decide, Ev.step e (Ev.bind hev ?_), fun h => absurd (h i (by omega) hlt) a, fun h => a (h i (by omega) hlt).1⟩
      simp only [if_neg (show ¬ (1 : Int) = 0 by decide)]
      exact Ev.bind (clone_ev hs) (Ev.now _)
    · refine .inr ⟨5, by decide, Ev.step e (Ev.bind hev ?_), fun h => rfl, fun h => b (h i (by omega) hlt).2⟩
      simp only [if_neg (show ¬ (5 : Int) = 0 by decide)]
      exact Ev.bind (clone_ev hs) (Ev.now _)
    · rcases take_loop hs hn d (i + 1) (by omega) (by omega) with ⟨c, hev2⟩ | ⟨er, c0, hev2, c, c'⟩
      · refine .inl ⟨(all_step (P := fun j => TakeOk (lg L j) f t (ng n j) ∧ Enough L f t n j) hlt).2 ⟨⟨a, b⟩, c⟩, Ev.step e (Ev.bind hev ?_)⟩
        rw [mk_succ] at hev2
        simp only [if_true]
        exact hev2
      · refine .inr ⟨er, c0, Ev.step e (Ev.bind hev ?_), fun h => c (fun j x y => h j (by omega) y), fun h => c' (fun j x y => h j (by omega) y)⟩
        rw [mk_succ] at hev2
        simp only [if_true]
        exact hev2
theorem ptake_cases {L : List (List St)} (hs : Short L) (f t : Int) (n : List Int) :
    (Goods L n ∧ (∀ j, j < L.length → TakeOk (lg L j) f t (ng n j) ∧ Enough L f t n j) ∧ Ev (fun k => pools_Take.f k L f t n) (mk L.length (taken L f t n), 0)) ∨
    (∃ e : Int, e ≠ 0 ∧ Ev (fun k => pools_Take.f k L f t n) (L, e) ∧ (Goods L n → (∀ j, j < L.length → TakeOk (lg L j) f t (ng n j)) → e = 5) ∧ ¬ (Goods L n ∧ ∀ j, j < L.length → TakeOk (lg L j) f t (ng n j) ∧ Enough L f t n j)) := by
  have fin : ∀ r : List (List St) × Int, Ev (fun k => pools_each_at_step_Take.f k L f t n) r → Ev (fun k => pools_Take.f k L f t n) r := fun r h => Ev.bind h (Ev.now _)
  have no : ∀ b, b = true → Ev (fun k => pools_each_at_step_Take.j0 k L f t n b) (L, 1) := by
    rintro _ rfl
    refine Ev.step (f := fun k => (pools_clone.f k L).bind fun t => some (t, 1)) (fun k => ?_) (Ev.bind (clone_ev hs) (Ev.now _))
    simp only [pools_each_at_step_Take.j0, if_true]
  by_cases c0 : PRight L
  · by_cases c1 : n.length = L.length
    · have hb : ((n.length : Int) != (L.length : Int)) = false := by rw [c1]; simp
      have st : ∀ r, Ev (fun k => pools_each_at_step_Take.l0 k L f t n (mk 0 (taken L f t n)) L (L.length : Int) ((0 : Nat) : Int)) r → Ev (fun k => pools_Take.f k L f t n) r := by
        intro r h
        refine fin r (Ev.bind (pright_yes c0) ?_)
        simp only [if_true, hb]
        refine Ev.step (fun k => ?_) h
        simp only [pools_each_at_step_Take.j0, Bool.false_eq_true, if_false]; rfl
      rcases take_loop hs c1 (f := f) (t := t) L.length 0 (by omega) (by omega) with ⟨a, hev⟩ | ⟨e, a, hev, b, c⟩
      · exact .inl ⟨⟨c0, c1⟩, fun j hj => a j (by omega) hj, st _ hev⟩
      · exact .inr ⟨e, a, st _ hev, fun _ h => b (fun j _ hj => h j hj), fun h => c (fun j _ hj => h.2 j hj)⟩
    · refine .inr ⟨1, by decide, fin _ (Ev.bind (pright_yes c0) ?_), fun h => absurd h.2 c1, fun h => c1 h.1.2⟩
      simp only [if_true]
      exact no _ (by rw [bne_iff_ne]; omega)
  · refine .inr ⟨1, by decide, fin _ (Ev.bind (pright_no c0) ?_), fun h => absurd h.1 c0, fun h => c0 h.1.1⟩
    simp only [Bool.false_eq_true, if_false]
    exact no _ rfl
theorem give_loop {A : List (List St)} (hl : A.length ≤ 4) {f t : Int} {n : List Int} (hn : n.length = A.length) (b : Nat → List St) (hev : ∀ i, i < A.length → Ev (fun k => step_Give.f k (lg A i) f t (ng n i)) (b i, 0)) : ∀ (d i : Nat), A.length - i = d → i ≤ A.length →
    Ev (fun k => pools_each_at_step_Give.l0 k A f t n (mk i b) A (A.length : Int) (i : Int)) (mk A.length b, 0)
  | 0, i, hd, hi => by
    have : i = A.length := by omega
    subst this
    refine Ev.step (f := fun _ => some _) (fun k => ?_) (Ev.now _)
    simp only [pools_each_at_step_Give.l0]
    rw [if_neg (by omega)]
  | d + 1, i, hd, hi => by
    have hlt : i < A.length := by omega
    have q1 : (i : Int) < (A.length : Int) := by omega
    have q2 : (0 : Int) ≤ (i : Int) := by omega
    have q3 : (mk i b).length < 5864062014805 := by rw [mk_len]; omega
    have q4 : (i : Int) < (n.length : Int) := by omega
    have := give_loop hl hn b hev d (i + 1) (by omega) (by omega)
    rw [mk_succ] at this
    refine Ev.step (f := fun k => (step_Give.f k (lg A i) f t (ng n i)).bind fun bt => if bt.2 = 0 then pools_each_at_step_Give.l0 k A f t n (mk i b ++ [bt.1]) A (A.length : Int) ((i + 1 : Nat) : Int) else (pools_clone.f k A).bind fun t => some (t, bt.2)) (fun k => ?_) (Ev.bind (hev i hlt) ?_)
    · simp only [pools_each_at_step_Give.l0, if_pos q1, if_pos q2, if_pos q3, if_pos q4, nx i (by omega)]
    · simp only [if_true]; exact this
theorem pgive_ev {A : List (List St)} (h : PRight A) {f t : Int} {n : List Int} (hn : n.length = A.length) (b : Nat → List St) (hev : ∀ i, i < A.length → Ev (fun k => step_Give.f k (lg A i) f t (ng n i)) (b i, 0)) :
    Ev (fun k => pools_Give.f k A f t n) (mk A.length b, 0) := by
  refine Ev.bind (a := (mk A.length b, (0 : Int))) (Ev.bind (pright_yes h) ?_) (Ev.now _)
  have hb : ((n.length : Int) != (A.length : Int)) = false := by rw [hn]; simp
  simp only [if_true, hb]
  refine Ev.step (fun k => ?_) (give_loop h.2.1 hn b hev A.length 0 (by omega) (by omega))
  simp only [pools_each_at_step_Give.j0, Bool.false_eq_true, if_false]; rfl
/-- What was taken can be given back; then it is as it was. -/
theorem ptake_give {L : List (List St)} (hs : Short L) {f t : Int} {n : List Int} (hg : Goods L n) (h : ∀ j, j < L.length → TakeOk (lg L j) f t (ng n j) ∧ Enough L f t n j) :
    PRight (mk L.length (taken L f t n)) ∧ Ev (fun k => pools_Give.f k (mk L.length (taken L f t n)) f t n) (L, 0) := by
  have hr : PRight (mk L.length (taken L f t n)) := ⟨by rw [mk_len]; exact hg.1.1, by rw [mk_len]; exact hg.1.2.1, fun i hi => by
    rw [mk_len] at hi
    rw [mk_lg _ _ _ hi]
    exact (take_give (h i hi).1 (by have := hs.2 i hi; omega) (h i hi).2).1⟩
  refine ⟨hr, ?_⟩
  have := pgive_ev hr (f := f) (t := t) (n := n) (by rw [mk_len]; exact hg.2) (lg L) (fun i hi => by
    rw [mk_len] at hi
    rw [mk_lg _ _ _ hi]
    exact (take_give (h i hi).1 (by have := hs.2 i hi; omega) (h i hi).2).2.2)
  rw [mk_len, mk_self] at this
  exact this
end Go.Proofs.Ytimllhflecippaa.PoolQ
