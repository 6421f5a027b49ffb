/- Layer 4, plainly: what Take, Give and First of pools answer. -/
import Derived.Test.YtimllhflecippaaF8
import Derived.Test.YtimllhflecippaaF13
import Derived.Test.YtimllhflecippaaPoolP
namespace Go.Proofs.Ytimllhflecippaa.PoolQ
open Go.RowKit Go.Proofs.YtimllhflecippaaW.PrintWords Go.Proofs.YtimllhflecippaaW.PrintMore Go.Proofs.Ytimllhflecippaa.F Go.Proofs.Ytimllhflecippaa.Pk Go.Proofs.Ytimllhflecippaa.StepP Go.Proofs.Ytimllhflecippaa.StepQ Go.Proofs.Ytimllhflecippaa.PoolP
set_option linter.unusedSimpArgs false
set_option linter.unusedVariables false

def Short (L : List (List St)) : Prop := L.length ≤ 6 ∧ ∀ i, i < L.length → (lg L i).length ≤ 100
theorem short_loop (L : List (List St)) (hl : L.length ≤ 6) : ∀ (d i : Nat) (b : Bool), L.length - i = d → i ≤ L.length → (b = true ↔ ∀ j, i ≤ j → j < L.length → (lg L j).length ≤ 100) → Ev (fun k => bailiwicklaw04_short.l0 k L (i : Int)) b
  | 0, i, b, hd, hi, hb => by
    rw [bool_true hb (fun j h1 h2 => by omega)]
    refine Ev.step (f := fun _ => some true) (fun k => ?_) (Ev.now _)
    simp only [bailiwicklaw04_short.l0]
    rw [if_neg (by omega)]
  | d + 1, i, b, hd, hi, hb => by
    have hlt : i < L.length := by omega
    rw [all_step (P := fun j => (lg L j).length ≤ 100) hlt] at hb
    have q1 : (i : Int) < (L.length : Int) := by omega
    have q2 : (0 : Int) ≤ (i : Int) := by omega
    by_cases c : ((lg L i).length : Int) > 100
    · rw [bool_false hb (fun h => by have := h.1; omega)]
      refine Ev.step (f := fun _ => some false) (fun k => ?_) (Ev.now _)
      simp only [bailiwicklaw04_short.l0, if_pos q1, if_pos q2, if_pos c]
    · refine Ev.step (fun k => ?_) (short_loop L hl d (i + 1) b (by omega) (by omega) (hb.trans ⟨fun h => h.2, fun h => ⟨by omega, h⟩⟩))
      simp only [bailiwicklaw04_short.l0, if_pos q1, if_pos q2, if_neg c, nx i (by omega)]
theorem short_ev (L : List (List St)) (b : Bool) (hb : b = true ↔ Short L) : Ev (fun k => bailiwicklaw04_short.f k L) b := by
  by_cases c : (L.length : Int) > 6
  · rw [bool_false hb (fun h => by have := h.1; omega)]
    refine Ev.congr (f := fun _ => some false) (fun k => ?_) (Ev.now _)
    simp only [bailiwicklaw04_short.f, if_pos c]
  · refine Ev.congr (fun k => ?_) (short_loop L (by omega) L.length 0 b (by omega) (by omega) (hb.trans ⟨fun h j _ hj => h.2 j hj, fun h => ⟨by omega, fun j hj => h j (by omega) hj⟩⟩))
    simp only [bailiwicklaw04_short.f, if_neg c]; rfl
/-- So much of each pool. -/
abbrev ng (n : List Int) (i : Nat) : Int := rd n (i : Int)
def Goods (L : List (List St)) (n : List Int) : Prop := PRight L ∧ n.length = L.length
/-! ### the first time that fits all -/
def PFits (L : List (List St)) (long : Int) (n : List Int) (t : Int) : Prop := ∀ i, i < L.length → Fits (lg L i) long (ng n i) t
def POk (L : List (List St)) (f long : Int) (n : List Int) : Prop := Goods L n ∧ ∀ i, i < L.length → FirstOk (lg L i) f long (ng n i)
def PFirstIs (L : List (List St)) (f long : Int) (n : List Int) (r : Int × Bool) : Prop :=
  (r = (0, false) ∧ (POk L f long n → ∀ x, f ≤ x → x < Never → ¬ PFits L long n x)) ∨ ∃ t, r = (t, true) ∧ POk L f long n ∧ f ≤ t ∧ t < Never ∧ PFits L long n t ∧ ∀ x, f ≤ x → x < t → ¬ PFits L long n x
theorem PFirstIs.uniq {L : List (List St)} {f long : Int} {n : List Int} {r r' : Int × Bool} (h : PFirstIs L f long n r) (h' : PFirstIs L f long n r') : r = r' := by
  rcases h with ⟨e, h⟩ | ⟨t, e, h0, h1, h2, h3, h4⟩ <;> rcases h' with ⟨e', h'⟩ | ⟨t', e', h0', h1', h2', h3', h4'⟩
  · rw [e, e']
  · exact absurd h3' (h h0' _ h1' h2')
  · exact absurd h3 (h' h0 _ h1 h2)
  · rcases Int.lt_trichotomy t t' with c | c | c
    · exact absurd h3 (h4' _ h1 c)
    · rw [e, e', c]
    · exact absurd h3' (h4 _ h1' c)
section
variable {L : List (List St)} {long : Int} {n : List Int} (hg : Goods L n)
include hg
theorem pf_step (t m : Int) (i : Nat) (hlt : i < L.length) : ∀ k, pools_First.l1 (k + 1) L long n t m L (L.length : Int) (i : Int) = (step_First.f k (lg L i) t long (ng n i)).bind fun bt => if bt.2 = true then pools_First.l1 k L long n t (mx m bt.1) L (L.length : Int) ((i + 1 : Nat) : Int) else some (0, false) := by
  intro k
  have := hg.1.2.1
  have := hg.2
  have q1 : (i : Int) < (L.length : Int) := by omega
  have q2 : (0 : Int) ≤ (i : Int) := by omega
  have q4 : (i : Int) < (n.length : Int) := by omega
  simp only [pools_First.l1, if_pos q1, if_pos q2, if_pos q4, nx i (by omega)]
/-- Where one pool's argument is none, nothing is found. -/
theorem pf_bad (t : Int) : ∀ (d i : Nat) (m : Int), L.length - i = d → i ≤ L.length → (∃ j, i ≤ j ∧ j < L.length ∧ ¬ FirstOk (lg L j) t long (ng n j)) → Ev (fun k => pools_First.l1 k L long n t m L (L.length : Int) (i : Int)) (0, false)
  | 0, i, m, hd, hi, ⟨j, h1, h2, _⟩ => by omega
  | d + 1, i, m, hd, hi, ⟨j, h1, h2, h3⟩ => by
    have hlt : i < L.length := by omega
    by_cases c : FirstOk (lg L i) t long (ng n i)
    · obtain ⟨r, hr, hf⟩ := first_yes c
      refine Ev.step (pf_step hg t m i hlt) (Ev.bind hr ?_)
      rcases hf with ⟨e, _⟩ | ⟨u, e, _⟩
      · subst e
        simp only [Bool.false_eq_true, if_false]; exact Ev.now _
      · subst e
        simp only [if_true]
        refine pf_bad t d (i + 1) _ (by omega) (by omega) ⟨j, ?_, h2, h3⟩
        rcases Nat.lt_or_ge i j with x | x
        · exact x
        · have : j = i := by omega
          subst this; exact absurd c h3
    · refine Ev.step (pf_step hg t m i hlt) (Ev.bind (first_no c) ?_)
      simp only [Bool.false_eq_true, if_false]; exact Ev.now _
theorem pf_round (t : Int) (hok : ∀ i, i < L.length → FirstOk (lg L i) t long (ng n i)) (htn : t < Never) : ∀ (d i : Nat) (m : Int), L.length - i = d → i ≤ L.length → t ≤ m → m < Never → (∀ x, t ≤ x → x < m → ¬ PFits L long n x) → (m = t → ∀ j, j < i → Fits (lg L j) long (ng n j) t) →
    (Ev (fun k => pools_First.l1 k L long n t m L (L.length : Int) (i : Int)) (0, false) ∧ ∀ x, t ≤ x → x < Never → ¬ PFits L long n x) ∨
    (Ev (fun k => pools_First.l1 k L long n t m L (L.length : Int) (i : Int)) (t, true) ∧ PFits L long n t) ∨
    (∃ u, t < u ∧ u < Never ∧ (∀ x, t ≤ x → x < u → ¬ PFits L long n x) ∧ ∀ r, Ev (fun k => pools_First.l0 k L long n u) r → Ev (fun k => pools_First.l1 k L long n t m L (L.length : Int) (i : Int)) r)
  | 0, i, m, hd, hi, h1, h2, h3, h4 => by
    have : i = L.length := by omega
    subst this
    have q : ¬ (L.length : Int) < (L.length : Int) := by omega
    by_cases c : m = t
    · refine .inr (.inl ⟨Ev.step (f := fun _ => some (t, true)) (fun k => ?_) (Ev.now _), h4 c⟩)
      simp only [pools_First.l1, if_neg q, if_pos c]
    · refine .inr (.inr ⟨m, by omega, h2, h3, fun r hr => Ev.step (fun k => ?_) hr⟩)
      simp only [pools_First.l1, if_neg q, if_neg c]
  | d + 1, i, m, hd, hi, h1, h2, h3, h4 => by
    have hlt : i < L.length := by omega
    obtain ⟨r, hr, hf⟩ := first_yes (hok i hlt)
    rcases hf with ⟨e, hno⟩ | ⟨u, e, g1, g2, g3, g4⟩
    · subst e
      refine .inl ⟨Ev.step (pf_step hg t m i hlt) (Ev.bind hr ?_), fun x a b c => hno x a b (c i hlt)⟩
      simp only [Bool.false_eq_true, if_false]; exact Ev.now _
    · subst e
      have back : ∀ r, Ev (fun k => pools_First.l1 k L long n t (mx m u) L (L.length : Int) ((i + 1 : Nat) : Int)) r → Ev (fun k => pools_First.l1 k L long n t m L (L.length : Int) (i : Int)) r := by
        intro r h
        refine Ev.step (pf_step hg t m i hlt) (Ev.bind hr ?_)
        simp only [if_true]; exact h
      have hmx : mx m u = if m < u then u else m := mx_eq _ _
      rcases pf_round t hok htn d (i + 1) (mx m u) (by omega) (by omega) (by rw [hmx]; split <;> omega) (by rw [hmx]; split <;> omega) (fun x a b c => by
          rw [hmx] at b
          rcases Int.lt_or_le x m with y | y
          · exact h3 x a y c
          · exact g4 x a (by split at b <;> omega) (c i hlt)) (fun e j hj => by
          rw [hmx] at e
          have hu : u = t := by split at e <;> omega
          have hm : m = t := by split at e <;> omega
          rcases Nat.lt_or_ge j i with y | y
          · exact h4 hm j y
          · have : j = i := by omega
            subst this
            rw [hu] at g3; exact g3) with ⟨a, b⟩ | ⟨a, b⟩ | ⟨u', a, b, c, d'⟩
      · exact .inl ⟨back _ a, b⟩
      · exact .inr (.inl ⟨back _ a, b⟩)
      · exact .inr (.inr ⟨u', a, b, c, fun r hr => back r (d' r hr)⟩)
theorem pf_loop {f : Int} (hok : POk L f long n) (hf : 0 ≤ f) : ∀ (d : Nat) (t : Int), (Never - t).toNat ≤ d → f ≤ t → t < Never → (∀ x, f ≤ x → x < t → ¬ PFits L long n x) → ∃ r, Ev (fun k => pools_First.l0 k L long n t) r ∧ PFirstIs L f long n r
  | 0, t, hd, h1, h2, h3 => by omega
  | d + 1, t, hd, h1, h2, h3 => by
    have st : ∀ r, Ev (fun k => pools_First.l1 k L long n t t L (L.length : Int) ((0 : Nat) : Int)) r → Ev (fun k => pools_First.l0 k L long n t) r := by
      intro r h
      refine Ev.step (fun k => ?_) h
      simp only [pools_First.l0]; rfl
    have join : ∀ u, (∀ x, t ≤ x → x < u → ¬ PFits L long n x) → ∀ x, f ≤ x → x < u → ¬ PFits L long n x := by
      intro u h x a b
      rcases Int.lt_or_le x t with y | y
      · exact h3 x a y
      · exact h x y b
    rcases pf_round hg t (fun i hi => by
        have := hok.2 i hi
        exact ⟨this.1, ⟨by omega, h2⟩, this.2.2⟩) h2 L.length 0 t (by omega) (by omega) (Int.le_refl _) h2 (fun x a b => by omega) (fun _ j hj => by omega) with ⟨a, b⟩ | ⟨a, b⟩ | ⟨u, a, b, c, e⟩
    · exact ⟨_, st _ a, .inl ⟨rfl, fun _ => join Never b⟩⟩
    · exact ⟨_, st _ a, .inr ⟨t, rfl, hok, h1, h2, b, h3⟩⟩
    · obtain ⟨r, hr, hp⟩ := pf_loop hok hf d u (by omega) (by omega) b (join u c)
      exact ⟨r, st _ (e r hr), hp⟩
end
theorem pfirst_ev (L : List (List St)) (f long : Int) (n : List Int) : ∃ r, Ev (fun k => pools_First.f k L f long n) r ∧ PFirstIs L f long n r := by
  have no : ∀ b, b = true → Ev (fun k => pools_First.j0 k L f long n b) (0, false) := by
    rintro _ rfl
    exact Ev.step (f := fun _ => some (0, false)) (fun k => by simp only [pools_First.j0, if_true]) (Ev.now _)
  by_cases c0 : PRight L
  · by_cases c1 : n.length = L.length
    · have hb : ((n.length : Int) != (L.length : Int)) = false := by rw [c1]; simp
      have st : ∀ r, Ev (fun k => pools_First.l0 k L long n f) r → Ev (fun k => pools_First.f k L f long n) r := by
        intro r h
        refine Ev.bind (pright_yes c0) ?_
        simp only [if_true, hb]
        refine Ev.step (fun k => ?_) h
        simp only [pools_First.j0, Bool.false_eq_true, if_false]
      by_cases c2 : ∀ i, i < L.length → FirstOk (lg L i) f long (ng n i)
      · have h0 := c2 0 (by have := c0.1; omega)
        obtain ⟨r, hr, hp⟩ := pf_loop ⟨c0, c1⟩ ⟨⟨c0, c1⟩, c2⟩ h0.2.1.1 (Never - f).toNat f (Nat.le_refl _) (Int.le_refl _) h0.2.1.2 (fun x a b => by omega)
        exact ⟨r, st r hr, hp⟩
      · obtain ⟨j, hj⟩ := Classical.not_forall.1 c2
        obtain ⟨hj1, hj2⟩ := Classical.not_imp.1 hj
        refine ⟨(0, false), st _ (Ev.step (fun k => ?_) (pf_bad ⟨c0, c1⟩ f L.length 0 f (by omega) (by omega) ⟨j, by omega, hj1, hj2⟩)), .inl ⟨rfl, fun h => absurd h.2 c2⟩⟩
        simp only [pools_First.l0]; rfl
    · refine ⟨(0, false), Ev.bind (pright_yes c0) ?_, .inl ⟨rfl, fun h => absurd h.1.2 c1⟩⟩
      simp only [if_true]
      exact no _ (by rw [bne_iff_ne]; omega)
  · refine ⟨(0, false), Ev.bind (pright_no c0) ?_, .inl ⟨rfl, fun h => absurd h.1.1 c0⟩⟩
    simp only [Bool.false_eq_true, if_false]
    exact no _ rfl
end Go.Proofs.Ytimllhflecippaa.PoolQ
