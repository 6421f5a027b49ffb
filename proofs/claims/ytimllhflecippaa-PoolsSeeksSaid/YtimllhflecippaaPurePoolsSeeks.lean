/- Layer 4, plainly: what the reference's First answers. -/
import Derived.Test.YtimllhflecippaaF19
import Derived.Test.YtimllhflecippaaF18
import Derived.Test.YtimllhflecippaaPoolQ
import Derived.Test.YtimllhflecippaaStepR
namespace Go.Proofs.Ytimllhflecippaa.PoolR
open Go.RowKit Go.Proofs.YtimllhflecippaaW.PrintWords Go.Proofs.YtimllhflecippaaW.PrintMore Go.Proofs.Ytimllhflecippaa.F Go.Proofs.Ytimllhflecippaa.Pk Go.Proofs.Ytimllhflecippaa.StepP Go.Proofs.Ytimllhflecippaa.StepQ Go.Proofs.Ytimllhflecippaa.StepR Go.Proofs.Ytimllhflecippaa.PoolP Go.Proofs.Ytimllhflecippaa.PoolQ
set_option linter.unusedSimpArgs false
set_option linter.unusedVariables false

theorem r4_loop (L : List (List St)) (hl : L.length ≤ 6) : ∀ (d i : Nat) (b : Bool), L.length - i = d → i ≤ L.length → (b = true ↔ 1 ≤ L.length ∧ ∀ j, i ≤ j → j < L.length → j ≤ 3 ∧ Right (lg L j)) → Ev (fun k => bailiwickref04_Right.l0 k L (i : Int)) b
  | 0, i, b, hd, hi, hb => by
    refine Ev.step (f := fun _ => some b) (fun k => ?_) (Ev.now _)
    have q : ¬ (i : Int) < (L.length : Int) := by omega
    simp only [bailiwickref04_Right.l0, if_neg q]
    congr 1
    rw [Bool.eq_iff_iff, hb, decide_eq_true_eq]
    exact ⟨fun h => ⟨by omega, fun j h1 h2 => by omega⟩, fun h => by omega⟩
  | d + 1, i, b, hd, hi, hb => by
    have hlt : i < L.length := by omega
    rw [all_step (P := fun j => j ≤ 3 ∧ Right (lg L j)) hlt] at hb
    have q1 : (i : Int) < (L.length : Int) := by omega
    have q2 : (0 : Int) ≤ (i : Int) := by omega
    by_cases c : (i : Int) > 3
    · rw [bool_false hb (fun h => by have := h.2.1.1; omega)]
      refine Ev.step (f := fun _ => some false) (fun k => ?_) (Ev.now _)
      simp only [bailiwickref04_Right.l0, if_pos q1, if_pos c]
    by_cases c1 : Right (lg L i)
    · refine Ev.step (f := fun k => (bailiwickref03_Right.f k (lg L i)).bind fun t => if t = true then bailiwickref04_Right.l0 k L ((i + 1 : Nat) : Int) else some false) (fun k => ?_) (Ev.bind (rright_yes c1) ?_)
      · simp only [bailiwickref04_Right.l0, if_pos q1, if_neg c, if_pos q2, nx i (by omega)]
      · simp only [if_true]
        exact r4_loop L hl d (i + 1) b (by omega) (by omega) (hb.trans ⟨fun h => ⟨h.1, h.2.2⟩, fun h => ⟨h.1, ⟨by omega, c1⟩, h.2⟩⟩)
    · rw [bool_false hb (fun h => c1 h.2.1.2)]
      refine Ev.step (f := fun k => (bailiwickref03_Right.f k (lg L i)).bind fun t => if t = true then bailiwickref04_Right.l0 k L ((i + 1 : Nat) : Int) else some false) (fun k => ?_) (Ev.bind (rright_no c1) ?_)
      · simp only [bailiwickref04_Right.l0, if_pos q1, if_neg c, if_pos q2, nx i (by omega)]
      · simp only [Bool.false_eq_true, if_false]; exact Ev.now _
theorem r4_ev (L : List (List St)) (hl : L.length ≤ 6) (b : Bool) (hb : b = true ↔ PRight L) : Ev (fun k => bailiwickref04_Right.f k L) b := by
  refine r4_loop L hl L.length 0 b (by omega) (by omega) (hb.trans ⟨fun h => ⟨h.1, fun j _ hj => ⟨by have := h.2.1; omega, h.2.2 j hj⟩⟩, fun h => ⟨h.1, ?_, fun i hi => (h.2 i (by omega) hi).2⟩⟩)
  rcases Nat.lt_or_ge 4 L.length with x | x
  · have := (h.2 4 (by omega) x).1; omega
  · exact x
theorem fits_loop {L : List (List St)} {n : List Int} (hg : Goods L n) (hn : ∀ i, i < L.length → amt (ng n i)) {t long : Int} (h0 : 0 ≤ t) (h1 : t < Never) (hlong : 1 ≤ long) : ∀ (d i : Nat) (b : Bool), L.length - i = d → i ≤ L.length → (b = true ↔ ∀ j, i ≤ j → j < L.length → Fits (lg L j) long (ng n j) t) → Ev (fun k => bailiwickref04_fits.l0 k L t long n (i : Int)) b
  | 0, i, b, hd, hi, hb => by
    rw [bool_true hb (fun j a c => by omega)]
    refine Ev.step (f := fun _ => some true) (fun k => ?_) (Ev.now _)
    simp only [bailiwickref04_fits.l0]
    rw [if_neg (by omega)]
  | d + 1, i, b, hd, hi, hb => by
    have hlt : i < L.length := by omega
    have h4 := hg.1.2.1
    rw [all_step (P := fun j => Fits (lg L j) long (ng n j) t) hlt] at hb
    have q1 : (i : Int) < (L.length : Int) := by omega
    have q2 : (0 : Int) ≤ (i : Int) := by omega
    have q4 : (i : Int) < (n.length : Int) := by have := hg.2; omega
    obtain ⟨m, hev, hm⟩ := rleast_ev (hg.1.2.2 i hlt) h0 (pls_gt h0 h1 hlong).1
    have hmn := least_fits (n := ng n i) hm (hn i hlt).2
    refine Ev.step (f := fun k => (bailiwickref03_Least.f k (lg L i) t (pls t long)).bind fun m => if m < ng n i then some false else bailiwickref04_fits.l0 k L t long n ((i + 1 : Nat) : Int)) (fun k => ?_) (Ev.bind hev ?_)
    · simp only [bailiwickref04_fits.l0, if_pos q1, if_pos q2, rplus_ev, Option.bind_some, if_pos q4, nx i (by omega)]
    · by_cases c : m < ng n i
      · rw [bool_false hb (fun h => by have := hmn.2 h.1; omega)]
        simp only [if_pos c]; exact Ev.now _
      · simp only [if_neg c]
        exact fits_loop hg hn h0 h1 hlong d (i + 1) b (by omega) (by omega) (hb.trans ⟨fun h => h.2, fun h => ⟨hmn.1 (by omega), h⟩⟩)
theorem fits_ev {L : List (List St)} {n : List Int} (hg : Goods L n) (hn : ∀ i, i < L.length → amt (ng n i)) {t long : Int} (h0 : 0 ≤ t) (h1 : t < Never) (hlong : 1 ≤ long) (b : Bool) (hb : b = true ↔ PFits L long n t) : Ev (fun k => bailiwickref04_fits.f k L t long n) b :=
  fits_loop hg hn h0 h1 hlong L.length 0 b (by omega) (by omega) (hb.trans ⟨fun h j _ hj => h j hj, fun h j hj => h j (by omega) hj⟩)
/-- Where it fits, it fits at every earlier time of the same step. -/
theorem fits_down {l : List St} (h : Right l) {long n x s : Int} (hs : 0 ≤ s) (hlong : 1 ≤ long) (h1 : At l (pl l x) ≤ s) (h2 : s ≤ x) (h3 : x < Never) (hx : Fits l long n x) : Fits l long n s := by
  have := fits_back h (f := s) hs hlong h2 h3 hx
  rwa [show (if At l (pl l x) < s then s else At l (pl l x)) = s by split <;> omega] at this
section
variable {L : List (List St)} {n : List Int} {f long : Int} (hg : Goods L n) (hf0 : 0 ≤ f) (hfn : f < Never) (hlong : 1 ≤ long) (hn : ∀ i, i < L.length → amt (ng n i))
/-- The best of the times tried. -/
def Best (L : List (List St)) (f long : Int) (n : List Int) (P : Int → Prop) (b : Int) : Prop :=
  (b = -1 ∧ ∀ c, P c → f ≤ c → c < Never → ¬ PFits L long n c) ∨ (f ≤ b ∧ b < Never ∧ PFits L long n b ∧ ∀ c, P c → f ≤ c → c < Never → PFits L long n c → b ≤ c)
theorem Best.congr {P Q : Int → Prop} {b : Int} (h : Best L f long n P b) (hq : ∀ c, Q c → P c) : Best L f long n Q b := by
  rcases h with ⟨a, h⟩ | ⟨a, b, c, h⟩
  · exact .inl ⟨a, fun c x => h c (hq c x)⟩
  · exact .inr ⟨a, b, c, fun c x => h c (hq c x)⟩
include hg hf0 hlong hn
theorem try_ev (i k0 : Int) (hk : 0 ≤ k0 ∧ k0 < 9223372036854775806) (c : Int) {P : Int → Prop} {b : Int} (hb : Best L f long n P b)
    (he : ∀ k, bailiwickref04_First.j4 (k + 1) L f long n b i k0 true = if c ≥ f then (if c < 4611686018427387904 then (if b < 0 then ((bailiwickref04_fits.f k L c long n).bind fun t => if t = true then bailiwickref04_First.l2 k L f long n c i (wrap64 (k0 + 1)) else bailiwickref04_First.l2 k L f long n b i (wrap64 (k0 + 1))) else (if c < b then ((bailiwickref04_fits.f k L c long n).bind fun t => if t = true then bailiwickref04_First.l2 k L f long n c i (wrap64 (k0 + 1)) else bailiwickref04_First.l2 k L f long n b i (wrap64 (k0 + 1))) else bailiwickref04_First.l2 k L f long n b i (wrap64 (k0 + 1)))) else bailiwickref04_First.l2 k L f long n b i (wrap64 (k0 + 1))) else bailiwickref04_First.l2 k L f long n b i (wrap64 (k0 + 1))) :
    ∃ b', Best L f long n (fun x => P x ∨ x = c) b' ∧ ∀ r, Ev (fun k => bailiwickref04_First.l2 k L f long n b' i (k0 + 1)) r → Ev (fun k => bailiwickref04_First.j4 k L f long n b i k0 true) r := by
  have ew : wrap64 (k0 + 1) = k0 + 1 := w64 (by omega) (by omega)
  rw [ew] at he
  have keep : ¬ (f ≤ c ∧ c < Never ∧ PFits L long n c ∧ (b = -1 ∨ c < b)) → Best L f long n (fun x => P x ∨ x = c) b := by
    intro hno
    rcases hb with ⟨a, h⟩ | ⟨a, b0, c0, h⟩
    · exact .inl ⟨a, fun x hx h1 h2 h3 => by
        rcases hx with hx | hx
        · exact h x hx h1 h2 h3
        · subst hx; exact hno ⟨h1, h2, h3, .inl a⟩⟩
    · refine .inr ⟨a, b0, c0, fun x hx h1 h2 h3 => ?_⟩
      rcases hx with hx | hx
      · exact h x hx h1 h2 h3
      · subst hx
        rcases Int.lt_or_le x b with y | y
        · exact absurd ⟨h1, h2, h3, .inr y⟩ hno
        · exact y
  have take : f ≤ c → c < Never → PFits L long n c → (b = -1 ∨ c < b) → Best L f long n (fun x => P x ∨ x = c) c := by
    intro h1 h2 h3 h4
    refine .inr ⟨h1, h2, h3, fun x hx a1 a2 a3 => ?_⟩
    rcases hx with hx | hx
    · rcases hb with ⟨a, h⟩ | ⟨a, b0, c0, h⟩
      · exact absurd a3 (h x hx a1 a2)
      · have := h x hx a1 a2 a3; omega
    · omega
  have bneg : b < 0 ↔ b = -1 := by
    rcases hb with ⟨a, _⟩ | ⟨a, _⟩
    · omega
    · omega
  by_cases c1 : c ≥ f
  · by_cases c2 : c < 4611686018427387904
    · have fit : (b = -1 ∨ c < b) → (∀ k, bailiwickref04_First.j4 (k + 1) L f long n b i k0 true = (bailiwickref04_fits.f k L c long n).bind fun t => if t = true then bailiwickref04_First.l2 k L f long n c i (k0 + 1) else bailiwickref04_First.l2 k L f long n b i (k0 + 1)) → ∃ b', Best L f long n (fun x => P x ∨ x = c) b' ∧ ∀ r, Ev (fun k => bailiwickref04_First.l2 k L f long n b' i (k0 + 1)) r → Ev (fun k => bailiwickref04_First.j4 k L f long n b i k0 true) r := by
        intro hc e
        by_cases c4 : PFits L long n c
        · refine ⟨c, take c1 c2 c4 hc, fun r hr => Ev.step e (Ev.bind (fits_ev hg hn (by omega) c2 hlong true ⟨fun _ => c4, fun _ => rfl⟩) ?_)⟩
          simp only [if_true]; exact hr
        · refine ⟨b, keep (fun h => c4 h.2.2.1), fun r hr => Ev.step e (Ev.bind (fits_ev hg hn (by omega) c2 hlong false ⟨fun h => Bool.noConfusion h, fun h => absurd h c4⟩) ?_)⟩
          simp only [Bool.false_eq_true, if_false]; exact hr
      by_cases c3 : b < 0
      · exact fit (.inl (bneg.1 c3)) (fun k => by rw [he k, if_pos c1, if_pos c2, if_pos c3])
      · by_cases c5 : c < b
        · exact fit (.inr c5) (fun k => by rw [he k, if_pos c1, if_pos c2, if_neg c3, if_pos c5])
        · refine ⟨b, keep (fun h => ?_), fun r hr => Ev.step (fun k => by rw [he k, if_pos c1, if_pos c2, if_neg c3, if_neg c5]) hr⟩
          rcases h.2.2.2 with x | x
          · exact c3 (bneg.2 x)
          · exact c5 x
    · exact ⟨b, keep (fun h => c2 h.2.1), fun r hr => Ev.step (fun k => by rw [he k, if_pos c1, if_neg c2]) hr⟩
  · exact ⟨b, keep (fun h => c1 h.1), fun r hr => Ev.step (fun k => by rw [he k, if_neg c1]) hr⟩
theorem pool_loop (i : Nat) (hi : i < L.length) : ∀ (d k0 : Nat) (b : Int) (P : Int → Prop), (lg L i).length - k0 = d → k0 ≤ (lg L i).length → Best L f long n P b →
    ∃ b', Best L f long n (fun x => P x ∨ ∃ j, k0 ≤ j ∧ j < (lg L i).length ∧ x = At (lg L i) j) b' ∧ ∀ r, Ev (fun k => bailiwickref04_First.l1 k L f long n b' ((i + 1 : Nat) : Int)) r → Ev (fun k => bailiwickref04_First.l2 k L f long n b (i : Int) (k0 : Int)) r
  | 0, k0, b, P, hd, hk, hb => by
    refine ⟨b, hb.congr (fun c h => ?_), fun r hr => ?_⟩
    · rcases h with h | ⟨j, h1, h2, _⟩
      · exact h
      · omega
    · have q0 : ¬ (i : Int) < 0 := by omega
      have q1 : (i : Int) ≥ 0 := by omega
      have q2 : (i : Int) < (L.length : Int) := by omega
      have q3 : ¬ (k0 : Int) < ((lg L i).length : Int) := by omega
      refine Ev.step (f := fun k => bailiwickref04_First.j4 k L f long n b (i : Int) (k0 : Int) false) (fun k => ?_) (Ev.step (fun k => ?_) hr)
      · simp only [bailiwickref04_First.l2, if_neg q0, if_pos q1, if_pos q2, decide_eq_false q3]
      · simp only [bailiwickref04_First.j4, Bool.false_eq_true, if_false, nx i (by have := hg.1.2.1; omega)]
  | d + 1, k0, b, P, hd, hk, hb => by
    have hlen := (hg.1.2.2 i hi).len
    have hlt : k0 < (lg L i).length := by omega
    have q0 : ¬ (i : Int) < 0 := by omega
    have q1 : (i : Int) ≥ 0 := by omega
    have q2 : (i : Int) < (L.length : Int) := by omega
    have q3 : (k0 : Int) < ((lg L i).length : Int) := by omega
    have q4 : (0 : Int) ≤ (k0 : Int) := by omega
    obtain ⟨b', hb', hstep⟩ := try_ev hg hf0 hlong hn (i : Int) (k0 : Int) ⟨by omega, by omega⟩ (At (lg L i) k0) hb (fun k => by
      simp only [bailiwickref04_First.j4, if_true, if_pos q1, if_pos q2, if_pos q4, if_pos q3, at_])
    obtain ⟨b'', hb'', hrest⟩ := pool_loop i hi d (k0 + 1) b' _ (by omega) (by omega) hb'
    refine ⟨b'', hb''.congr (fun c h => ?_), fun r hr => Ev.step (fun k => ?_) (hstep r (hrest r hr))⟩
    · rcases h with h | ⟨j, h1, h2, h3⟩
      · exact .inl (.inl h)
      · rcases Nat.lt_or_ge k0 j with y | y
        · exact .inr ⟨j, y, h2, h3⟩
        · have : j = k0 := by omega
          subst this
          exact .inl (.inr h3)
    · simp only [bailiwickref04_First.l2, if_neg q0, if_pos q1, if_pos q2, decide_eq_true q3]
theorem pools_loop : ∀ (d i : Nat) (b : Int) (P : Int → Prop), L.length - i = d → i ≤ L.length → Best L f long n P b →
    ∃ b', Best L f long n (fun x => P x ∨ ∃ i' j, i ≤ i' ∧ i' < L.length ∧ j < (lg L i').length ∧ x = At (lg L i') j) b' ∧ Ev (fun k => bailiwickref04_First.l1 k L f long n b (i : Int)) (if b' < 0 then (0, false) else (b', true))
  | 0, i, b, P, hd, hi, hb => by
    refine ⟨b, hb.congr (fun c h => ?_), Ev.step (f := fun _ => some (if b < 0 then (0, false) else (b, true))) (fun k => ?_) (Ev.now _)⟩
    · rcases h with h | ⟨j, _, h1, h2, _⟩
      · exact h
      · omega
    · have q : ¬ (i : Int) < (L.length : Int) := by omega
      simp only [bailiwickref04_First.l1, if_neg q]
      split <;> rfl
  | d + 1, i, b, P, hd, hi, hb => by
    have hlt : i < L.length := by omega
    have q : (i : Int) < (L.length : Int) := by omega
    obtain ⟨b', hb', h1⟩ := pool_loop hg hf0 hlong hn i hlt (lg L i).length 0 b P (by omega) (by omega) hb
    obtain ⟨b'', hb'', h2⟩ := pools_loop d (i + 1) b' _ (by omega) (by omega) hb'
    refine ⟨b'', hb''.congr (fun c h => ?_), Ev.step (fun k => ?_) (h1 _ h2)⟩
    · rcases h with h | ⟨i', j, a1, a2, a3, a4⟩
      · exact .inl (.inl h)
      · rcases Nat.lt_or_ge i i' with y | y
        · exact .inr ⟨i', j, y, a2, a3, a4⟩
        · have : i' = i := by omega
          subst this
          exact .inl (.inr ⟨j, by omega, a3, a4⟩)
    · simp only [bailiwickref04_First.l1, if_pos q]; rfl
omit hn in
/-- Some time that is tried fits, where one fits. -/
theorem cand_ex {x : Int} (h1 : f ≤ x) (h2 : x < Never) (hx : PFits L long n x) : ∃ c, (c = f ∨ ∃ i j, i < L.length ∧ j < (lg L i).length ∧ c = At (lg L i) j) ∧ f ≤ c ∧ c ≤ x ∧ PFits L long n c := by
  have key : ∀ m, m ≤ L.length → ∃ c, (c = f ∨ ∃ i j, i < L.length ∧ j < (lg L i).length ∧ c = At (lg L i) j) ∧ f ≤ c ∧ c ≤ x ∧ ∀ i, i < m → At (lg L i) (pl (lg L i) x) ≤ c := by
    intro m
    induction m with
    | zero => intro _; exact ⟨f, .inl rfl, Int.le_refl _, h1, fun i hi => by omega⟩
    | succ m ih =>
      intro hm
      obtain ⟨c, a1, a2, a3, a4⟩ := ih (by omega)
      have hp := pl_spec (hg.1.2.2 m (by omega)).toNorm (t := x) (by omega)
      by_cases y : At (lg L m) (pl (lg L m) x) ≤ c
      · refine ⟨c, a1, a2, a3, fun i hi => ?_⟩
        rcases Nat.lt_or_ge i m with z | z
        · exact a4 i z
        · have : i = m := by omega
          subst this; exact y
      · refine ⟨At (lg L m) (pl (lg L m) x), .inr ⟨m, _, by omega, hp.1, rfl⟩, by omega, hp.2.1, fun i hi => ?_⟩
        rcases Nat.lt_or_ge i m with z | z
        · have := a4 i z; omega
        · have : i = m := by omega
          subst this; exact Int.le_refl _
  obtain ⟨c, a1, a2, a3, a4⟩ := key L.length (Nat.le_refl _)
  exact ⟨c, a1, a2, a3, fun i hi => fits_down (hg.1.2.2 i hi) (by omega) hlong (a4 i hi) a3 h2 (hx i hi)⟩
include hfn
theorem best_first : ∃ r, Ev (fun k => bailiwickref04_First.l1 k L f long n (-1) (-1)) r ∧ PFirstIs L f long n r := by
  have hok : POk L f long n := ⟨hg, fun i hi => ⟨hg.1.2.2 i hi, ⟨hf0, hfn⟩, hlong, hn i hi⟩⟩
  have q : (-1 : Int) < (L.length : Int) := by omega
  obtain ⟨b1, hb1, e1⟩ := try_ev hg hf0 hlong hn (-1) 0 ⟨by omega, by omega⟩ f (P := fun _ => False) (b := -1) (.inl ⟨rfl, fun c h => h.elim⟩) (fun k => by
    simp only [bailiwickref04_First.j4, if_true, if_neg (show ¬ (-1 : Int) ≥ 0 by decide)])
  obtain ⟨b2, hb2, e2⟩ := pools_loop hg hf0 hlong hn L.length 0 b1 _ (by omega) (by omega) hb1
  refine ⟨_, Ev.step (f := fun k => bailiwickref04_First.l2 k L f long n (-1) (-1) 0) (fun k => ?_) (Ev.step (f := fun k => bailiwickref04_First.j4 k L f long n (-1) (-1) 0 true) (fun k => ?_) (e1 _ (Ev.step (f := fun k => bailiwickref04_First.j4 k L f long n b1 (-1) (0 + 1) false) (fun k => ?_) (Ev.step (fun k => ?_) e2)))), ?_⟩
  · simp only [bailiwickref04_First.l1, if_pos q]
  · simp only [bailiwickref04_First.l2, if_pos (show (-1 : Int) < 0 by decide), if_pos (show (0 : Int) < 1 by decide)]
  · simp only [bailiwickref04_First.l2, if_pos (show (-1 : Int) < 0 by decide), if_neg (show ¬ (0 + 1 : Int) < 1 by decide), if_neg (show ¬ (-1 : Int) ≥ 0 by decide)]
  · simp only [bailiwickref04_First.j4, Bool.false_eq_true, if_false]
    rw [show wrap64 (-1 + 1) = ((0 : Nat) : Int) by rw [w64 (by omega) (by omega)]; rfl]
  · rcases hb2 with ⟨a, h⟩ | ⟨a, b, c, h⟩
    · subst a
      rw [if_pos (by decide)]
      refine .inl ⟨rfl, fun _ x h1 h2 h3 => ?_⟩
      obtain ⟨c, d1, d2, d3, d4⟩ := cand_ex hg hf0 hlong h1 h2 h3
      refine h c ?_ d2 (by omega) d4
      rcases d1 with d1 | ⟨i, j, x1, x2, x3⟩
      · exact .inl (.inr d1)
      · exact .inr ⟨i, j, by omega, x1, x2, x3⟩
    · rw [if_neg (by omega)]
      refine .inr ⟨b2, rfl, hok, a, b, c, fun x h1 h2 h3 => ?_⟩
      obtain ⟨c', d1, d2, d3, d4⟩ := cand_ex hg hf0 hlong h1 (by omega) h3
      have := h c' (by
        rcases d1 with d1 | ⟨i, j, x1, x2, x3⟩
        · exact .inl (.inr d1)
        · exact .inr ⟨i, j, by omega, x1, x2, x3⟩) d2 (by omega) d4
      omega
end
theorem amt_loop (L : List (List St)) (f long : Int) (n : List Int) (hl : n.length ≤ 10) {r : Int × Bool} : ∀ (d i : Nat), n.length - i = d → i ≤ n.length →
    ((∀ j, i ≤ j → j < n.length → amt (ng n j)) → Ev (fun k => bailiwickref04_First.l1 k L f long n (-1) (-1)) r → Ev (fun k => bailiwickref04_First.l0 k L f long n (i : Int)) r) ∧
    ((¬ ∀ j, i ≤ j → j < n.length → amt (ng n j)) → Ev (fun k => bailiwickref04_First.l0 k L f long n (i : Int)) (0, false))
  | 0, i, hd, hi => by
    have q : ¬ (i : Int) < (n.length : Int) := by omega
    refine ⟨fun _ h => Ev.step (fun k => ?_) h, fun h => absurd (fun j a b => by omega) h⟩
    simp only [bailiwickref04_First.l0, if_neg q]
  | d + 1, i, hd, hi => by
    have hlt : i < n.length := by omega
    have q1 : (i : Int) < (n.length : Int) := by omega
    have q2 : (0 : Int) ≤ (i : Int) := by omega
    obtain ⟨h1, h2⟩ := amt_loop L f long n hl d (i + 1) (by omega) (by omega)
    rw [all_step (P := fun j => amt (ng n j)) hlt]
    by_cases c1 : ng n i < 0
    · refine ⟨fun h => by have := h.1.1; omega, fun _ => Ev.step (f := fun _ => some (0, false)) (fun k => ?_) (Ev.now _)⟩
      simp only [bailiwickref04_First.l0, if_pos q1, if_pos q2, if_pos c1]
    by_cases c2 : ng n i > 1048576
    · refine ⟨fun h => by have := h.1.2; omega, fun _ => Ev.step (f := fun _ => some (0, false)) (fun k => ?_) (Ev.now _)⟩
      simp only [bailiwickref04_First.l0, if_pos q1, if_pos q2, if_neg c1, if_pos c2]
    have e : ∀ k, bailiwickref04_First.l0 (k + 1) L f long n (i : Int) = bailiwickref04_First.l0 k L f long n ((i + 1 : Nat) : Int) := by
      intro k
      simp only [bailiwickref04_First.l0, if_pos q1, if_pos q2, if_neg c1, if_neg c2, nx i (by omega)]
    exact ⟨fun h hr => Ev.step e (h1 h.2 hr), fun h => Ev.step e (h2 (fun h' => h ⟨⟨by omega, by omega⟩, h'⟩))⟩
theorem pfirst_ref (L : List (List St)) (f long : Int) (n : List Int) (hL : L.length ≤ 6) (hN : n.length ≤ 10) : ∃ r, Ev (fun k => bailiwickref04_First.f k L f long n) r ∧ PFirstIs L f long n r := by
  have no : ∀ b, b = true → Ev (fun k => bailiwickref04_First.j0 k L f long n b) (0, false) := by
    rintro _ rfl
    exact Ev.step (f := fun _ => some (0, false)) (fun k => by simp only [bailiwickref04_First.j0, if_true]) (Ev.now _)
  by_cases c0 : PRight L
  · have hr := r4_ev L hL true ⟨fun _ => c0, fun _ => rfl⟩
    by_cases c1 : (n.length : Int) = (L.length : Int)
    · by_cases c2 : f < 0
      · refine ⟨(0, false), Ev.bind hr ?_, .inl ⟨rfl, fun h => by have := (h.2 0 (by have := c0.1; omega)).2.1.1; omega⟩⟩
        simp only [if_true, if_pos c1, if_pos c2]; exact no _ rfl
      by_cases c3 : f ≥ 4611686018427387904
      · refine ⟨(0, false), Ev.bind hr ?_, .inl ⟨rfl, fun h => by have := (h.2 0 (by have := c0.1; omega)).2.1.2; unfold Never at this; omega⟩⟩
        simp only [if_true, if_pos c1, if_neg c2, if_pos c3]; exact no _ rfl
      by_cases c4 : long < 1
      · refine ⟨(0, false), Ev.bind hr ?_, .inl ⟨rfl, fun h => by have := (h.2 0 (by have := c0.1; omega)).2.2.1; omega⟩⟩
        simp only [if_true, if_pos c1, if_neg c2, if_neg c3, decide_eq_true c4]; exact no _ rfl
      have hg : Goods L n := ⟨c0, by omega⟩
      have st : ∀ r, Ev (fun k => bailiwickref04_First.l0 k L f long n ((0 : Nat) : Int)) r → Ev (fun k => bailiwickref04_First.f k L f long n) r := by
        intro r h
        refine Ev.bind hr ?_
        simp only [if_true, if_pos c1, if_neg c2, if_neg c3, decide_eq_false c4]
        refine Ev.step (fun k => ?_) h
        simp only [bailiwickref04_First.j0, Bool.false_eq_true, if_false]; rfl
      by_cases c5 : ∀ j, 0 ≤ j → j < n.length → amt (ng n j)
      · obtain ⟨r, h1, h2⟩ := best_first hg (f := f) (long := long) (by omega) (by unfold Never; omega) (by omega) (fun i hi => c5 i (by omega) (by omega))
        exact ⟨r, st r ((amt_loop L f long n hN n.length 0 (by omega) (by omega)).1 c5 h1), h2⟩
      · exact ⟨(0, false), st _ ((amt_loop (r := (0, false)) L f long n hN n.length 0 (by omega) (by omega)).2 c5), .inl ⟨rfl, fun h => absurd (fun j _ hj => (h.2 j (by omega)).2.2.2) c5⟩⟩
    · refine ⟨(0, false), Ev.bind hr ?_, .inl ⟨rfl, fun h => by have := h.1.2; omega⟩⟩
      simp only [if_true, if_neg c1]; exact no _ rfl
  · refine ⟨(0, false), Ev.bind (r4_ev L hL false ⟨fun h => Bool.noConfusion h, fun h => absurd h c0⟩) ?_, .inl ⟨rfl, fun h => absurd h.1.1 c0⟩⟩
    simp only [Bool.false_eq_true, if_false]
    exact no _ rfl
end Go.Proofs.Ytimllhflecippaa.PoolR
namespace Go.Proofs.Ytimllhflecippaa.Pure
open Go.RowKit Go.Proofs.YtimllhflecippaaW.PrintWords Go.Proofs.YtimllhflecippaaW.PrintMore Go.Proofs.Ytimllhflecippaa.F Go.Proofs.Ytimllhflecippaa.Pk Go.Proofs.Ytimllhflecippaa.StepP Go.Proofs.Ytimllhflecippaa.StepQ Go.Proofs.Ytimllhflecippaa.PoolP Go.Proofs.Ytimllhflecippaa.PoolQ Go.Proofs.Ytimllhflecippaa.PoolR
set_option linter.unusedSimpArgs false
set_option linter.unusedVariables false
theorem PoolsSeeks : bailiwicklaw04_PoolsSeeks.Pure := by
  intro L f long n _ _ _ _
  refine Ev.rounds (g := fun k => bailiwicklaw04_PoolsSeeks.f k L f long n) ?_
  refine Ev.bind PoolP.awake_ev ?_
  simp only [if_true]
  have yes : ∀ b, b = true → Ev (fun k => bailiwicklaw04_PoolsSeeks.j0 k L f long n b) true := by
    rintro _ rfl
    exact Ev.step (f := fun _ => some true) (fun k => by simp only [bailiwicklaw04_PoolsSeeks.j0, if_true]) (Ev.now _)
  by_cases hs : Short L
  · refine Ev.bind (short_ev L true ⟨fun _ => hs, fun _ => rfl⟩) ?_
    simp only [if_true]
    by_cases c : (n.length : Int) > 10
    · exact yes _ (decide_eq_true c)
    rw [decide_eq_false c]
    obtain ⟨r, hr, hp⟩ := pfirst_ev L f long n
    obtain ⟨r', hr', hp'⟩ := pfirst_ref L f long n hs.1 (by omega)
    rw [← hp.uniq hp'] at hr'
    refine Ev.step (f := fun k => (pools_First.f k L f long n).bind fun bt504 => (bailiwickref04_First.f k L f long n).bind fun bt506 => if bt504.1 = bt506.1 then some (bt504.2 == bt506.2) else some false) (fun k => ?_) (Ev.bind hr (Ev.bind hr' ?_))
    · simp only [bailiwicklaw04_PoolsSeeks.j0, Bool.false_eq_true, if_false]
    · simp only [if_true, beq_self_eq_true]; exact Ev.now _
  · refine Ev.bind (short_ev L false ⟨fun h => Bool.noConfusion h, fun h => absurd h hs⟩) ?_
    simp only [Bool.false_eq_true, if_false]
    exact yes _ rfl
end Go.Proofs.Ytimllhflecippaa.Pure
