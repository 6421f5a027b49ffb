/- Layer 3, plainly: profiles as functions of time. -/
import Derived.Test.YtimllhflecippaaF3
import Derived.Test.YtimllhflecippaaF4
import Derived.Test.YtimllhflecippaaF6
import Derived.Test.YtimllhflecippaaF7
import Derived.Test.YtimllhflecippaaF8
import Derived.Test.YtimllhflecippaaPk
import Derived.Test.YtimllhflecippaaF5

namespace Go.Proofs.Ytimllhflecippaa.StepP
open Go.RowKit Go.Proofs.YtimllhflecippaaW.PrintWords Go.Proofs.YtimllhflecippaaW.PrintMore Go.Proofs.Ytimllhflecippaa.F Go.Proofs.Ytimllhflecippaa.Pk
set_option linter.unusedSimpArgs false
set_option linter.unusedVariables false

abbrev St := S45
abbrev rdS (l : List St) (i : Int) : St := rd_T45 l i
/-- The i-th step's time and amount. -/
def At (l : List St) (i : Nat) : Int := (rdS l i).f0
def Vl (l : List St) (i : Nat) : Int := (rdS l i).f1
theorem rdS_nat (l : List St) (i : Nat) (h : i < l.length) : rdS l (i : Int) = l[i] := by
  show l.getD (i : Int).toNat _ = _
  rw [List.getD_eq_getElem?_getD]; simp [h]
theorem rdS_app {l m : List St} {i : Nat} (h : i < l.length) : rdS (l ++ m) (i : Int) = rdS l i := by
  rw [rdS_nat _ _ (by simp; omega), rdS_nat _ _ h, List.getElem_append_left h]
theorem rdS_last {l : List St} {s : St} : rdS (l ++ [s]) (l.length : Int) = s := by
  rw [rdS_nat _ _ (by simp)]; simp
def Never : Int := 4611686018427387904
def amt (n : Int) : Prop := 0 ≤ n ∧ n ≤ 1048576
instance (n : Int) : Decidable (amt n) := by unfold amt; exact inferInstance
/-- Rising from 0 on, each step says something else. -/
structure Norm (l : List St) : Prop where
  pos : 0 < l.length
  zero : At l 0 = 0
  rise : ∀ i, i + 1 < l.length → At l i < At l (i + 1) ∧ Vl l i ≠ Vl l (i + 1)
  top : ∀ i, i < l.length → At l i ≤ Never
structure Right (l : List St) : Prop extends Norm l where
  len : l.length ≤ 1024
  amts : ∀ i, i < l.length → amt (Vl l i)
theorem Norm.lt {l : List St} (h : Norm l) : ∀ {i j : Nat}, i < j → j < l.length → At l i < At l j
  | i, 0, hi, _ => by omega
  | i, j + 1, hi, hj => by
    have h1 := (h.rise j hj).1
    rcases Nat.lt_or_ge i j with h2 | h2
    · have := Norm.lt h h2 (by omega); omega
    · have : i = j := by omega
      subst this; exact h1
theorem Norm.le {l : List St} (h : Norm l) {i j : Nat} (hij : i ≤ j) (hj : j < l.length) : At l i ≤ At l j := by
  rcases Nat.lt_or_ge i j with h1 | h1
  · exact Int.le_of_lt (h.lt h1 hj)
  · have : i = j := by omega
    subst this; exact Int.le_refl _
theorem Norm.ge0 {l : List St} (h : Norm l) {i : Nat} (hi : i < l.length) : 0 ≤ At l i := by have := h.le (Nat.zero_le i) hi; rw [h.zero] at this; exact this
/-- Step i holds at t. -/
def IsPl (l : List St) (t : Int) (i : Nat) : Prop := i < l.length ∧ At l i ≤ t ∧ (i + 1 < l.length → t < At l (i + 1))
theorem IsPl.uniq {l : List St} (h : Norm l) {t : Int} {i j : Nat} (hi : IsPl l t i) (hj : IsPl l t j) : i = j := by
  rcases Nat.lt_trichotomy i j with h1 | h1 | h1
  · have h2 := hi.2.2 (by have := hj.1; omega)
    have h3 := h.le (i := i + 1) (j := j) h1 hj.1
    have h4 := hj.2.1
    omega
  · exact h1
  · have h2 := hj.2.2 (by have := hi.1; omega)
    have h3 := h.le (i := j + 1) (j := i) h1 hi.1
    have h4 := hi.2.1
    omega
theorem IsPl.ex {l : List St} (h : Norm l) {t : Int} (ht : 0 ≤ t) : ∃ i, IsPl l t i := by
  have key : ∀ n, n < l.length → At l 0 ≤ t → (∃ i, IsPl l t i) ∨ At l n ≤ t := by
    intro n
    induction n with
    | zero => intro _ h0; exact .inr h0
    | succ n ih =>
      intro hn h0
      rcases ih (by omega) h0 with h1 | h1
      · exact .inl h1
      · by_cases h2 : At l (n + 1) ≤ t
        · exact .inr h2
        · exact .inl ⟨n, by omega, h1, fun _ => by omega⟩
  rcases key (l.length - 1) (by have := h.pos; omega) (by rw [h.zero]; exact ht) with h1 | h1
  · exact h1
  · exact ⟨l.length - 1, by have := h.pos; omega, h1, fun hc => by have := h.pos; omega⟩
open Classical in
/-- The step that holds, and what it says. -/
noncomputable def pl (l : List St) (t : Int) : Nat := if h : ∃ i, IsPl l t i then h.choose else 0
noncomputable def val (l : List St) (t : Int) : Int := Vl l (pl l t)
theorem pl_spec {l : List St} (h : Norm l) {t : Int} (ht : 0 ≤ t) : IsPl l t (pl l t) := by
  unfold pl
  rw [dif_pos (IsPl.ex h ht)]
  exact (IsPl.ex h ht).choose_spec
theorem pl_eq {l : List St} (h : Norm l) {t : Int} {i : Nat} (hi : IsPl l t i) : pl l t = i := by
  have h0 : 0 ≤ t := by have := hi.2.1; have := h.ge0 hi.1; omega
  exact IsPl.uniq h (pl_spec h h0) hi
theorem val_eq {l : List St} (h : Norm l) {t : Int} {i : Nat} (hi : IsPl l t i) : val l t = Vl l i := by unfold val; rw [pl_eq h hi]
theorem val_at {l : List St} (h : Norm l) {i : Nat} (hi : i < l.length) : val l (At l i) = Vl l i := val_eq h ⟨hi, Int.le_refl _, fun h1 => (h.rise i h1).1⟩
theorem Right.val_amt {l : List St} (h : Right l) {t : Int} (ht : 0 ≤ t) : amt (val l t) := h.amts _ (pl_spec h.toNorm ht).1
/-- Who says the same at all times is the same. -/
theorem Norm.ext {p q : List St} (hp : Norm p) (hq : Norm q) (h : ∀ t, 0 ≤ t → t ≤ Never → val p t = val q t) : p = q := by
  have one : ∀ (p q : List St), Norm p → Norm q → (∀ t, 0 ≤ t → t ≤ Never → val p t = val q t) → ∀ i, (∀ j, j ≤ i → j < p.length ∧ j < q.length ∧ At p j = At q j ∧ Vl p j = Vl q j) → i + 1 < p.length → i + 1 < q.length ∧ At q (i + 1) ≤ At p (i + 1) := by
    intro p q hp hq h i hi h1
    have h0 := hi i (Nat.le_refl _)
    have ht0 := hp.ge0 h1
    have htn := hp.top _ h1
    have hv := h _ ht0 htn
    rw [val_at hp h1] at hv
    have hne := (hp.rise i h1).2
    by_cases hc : i + 1 < q.length ∧ At q (i + 1) ≤ At p (i + 1)
    · exact hc
    · have : IsPl q (At p (i + 1)) i := ⟨h0.2.1, by have := (hp.rise i h1).1; rw [← h0.2.2.1]; omega, fun h2 => by
        have : ¬ At q (i + 1) ≤ At p (i + 1) := fun h3 => hc ⟨h2, h3⟩
        omega⟩
      rw [val_eq hq this, ← h0.2.2.2] at hv
      exact absurd hv.symm hne
  have key : ∀ i, i < p.length → (∀ j, j ≤ i → j < p.length ∧ j < q.length ∧ At p j = At q j ∧ Vl p j = Vl q j) := by
    intro i
    induction i with
    | zero =>
      intro hi j hj
      have : j = 0 := by omega
      subst this
      refine ⟨hi, hq.pos, by rw [hp.zero, hq.zero], ?_⟩
      have := h 0 (by omega) (by unfold Never; omega)
      have e1 := val_at hp hp.pos
      have e2 := val_at hq hq.pos
      rw [hp.zero] at e1
      rw [hq.zero] at e2
      rw [← e1, ← e2, this]
    | succ i ih =>
      intro hi j hj
      have hI := ih (by omega)
      rcases Nat.lt_or_ge j (i + 1) with h1 | h1
      · exact hI j (by omega)
      · have : j = i + 1 := by omega
        subst this
        have h2 := one p q hp hq h i hI hi
        have h3 := one q p hq hp (fun t a b => (h t a b).symm) i (fun j hj => by have := hI j hj; exact ⟨this.2.1, this.1, this.2.2.1.symm, this.2.2.2.symm⟩) h2.1
        have h4 : At p (i + 1) = At q (i + 1) := by have := h2.2; have := h3.2; omega
        refine ⟨hi, h2.1, h4, ?_⟩
        have h5 := h _ (hp.ge0 hi) (hp.top _ hi)
        rw [val_at hp hi, h4, val_at hq h2.1] at h5
        exact h5
  have hl : p.length = q.length := by
    have h1 : p.length ≤ q.length := by have := (key (p.length - 1) (by have := hp.pos; omega) (p.length - 1) (Nat.le_refl _)).2.1; omega
    rcases Nat.lt_or_ge p.length q.length with h2 | h2
    · have h3 := one q p hq hp (fun t a b => (h t a b).symm) (p.length - 1) (fun j hj => by
        have := key (p.length - 1) (by have := hp.pos; omega) j hj; exact ⟨this.2.1, this.1, this.2.2.1.symm, this.2.2.2.symm⟩) (by have := hp.pos; omega)
      have := h3.1
      have := hp.pos
      omega
    · omega
  apply List.ext_getElem hl
  intro i h1 h2
  have h3 := key i h1 i (Nat.le_refl _)
  have e1 := rdS_nat p i h1
  have e2 := rdS_nat q i h2
  have a1 : (rdS p i).f0 = (rdS q i).f0 := h3.2.2.1
  have a2 : (rdS p i).f1 = (rdS q i).f1 := h3.2.2.2
  rw [← e1, ← e2]
  cases h4 : rdS p i
  cases h5 : rdS q i
  rw [h4, h5] at a1 a2
  simp only at a1 a2
  rw [a1, a2]

/-! ### what is built step by step -/
/-- out tells g from 0 on till E. -/
structure Built (out : List St) (E : Int) (g : Int → Int) : Prop where
  nil : E ≤ 0 → out = []
  pos : 0 < E → 0 < out.length ∧ At out 0 = 0
  rise : ∀ i, i + 1 < out.length → At out i < At out (i + 1) ∧ Vl out i ≠ Vl out (i + 1)
  top : ∀ i, i < out.length → At out i < E
  tells : ∀ t i, 0 ≤ t → t < E → IsPl out t i → Vl out i = g t
theorem Built.start (g : Int → Int) : Built [] 0 g := ⟨fun _ => rfl, fun h => by omega, fun i h => by simp at h, fun i h => by simp at h, fun t i h0 h1 => by omega⟩
theorem At_app {l m : List St} {i : Nat} (h : i < l.length) : At (l ++ m) i = At l i := by unfold At; rw [rdS_app h]
theorem Vl_app {l m : List St} {i : Nat} (h : i < l.length) : Vl (l ++ m) i = Vl l i := by unfold Vl; rw [rdS_app h]
theorem At_last {l : List St} {s : St} : At (l ++ [s]) l.length = s.f0 := by unfold At; rw [rdS_last]
theorem Vl_last {l : List St} {s : St} : Vl (l ++ [s]) l.length = s.f1 := by unfold Vl; rw [rdS_last]
theorem last_Vl {l : List St} (h : 0 < l.length) : l.getLast?.map (·.f1) = some (Vl l (l.length - 1)) := by
  rw [List.getLast?_eq_getElem?, List.getElem?_eq_getElem (by omega)]
  unfold Vl
  rw [rdS_nat _ _ (by omega)]
  rfl
theorem Built.add {out : List St} {E E' f : Int} {g : Int → Int} (h : Built out E g) (h0 : 0 ≤ E) (h1 : E < E') (hf : ∀ t, E ≤ t → t < E' → g t = f) : Built (addS out E f) E' g := by
  by_cases hz : E = 0
  · subst hz
    have := h.nil (Int.le_refl _)
    subst this
    have e : addS ([] : List St) 0 f = [⟨0, f⟩] := by simp [addS]
    rw [e]
    have ea : At [(⟨0, f⟩ : St)] 0 = 0 := rfl
    have ev : Vl [(⟨0, f⟩ : St)] 0 = f := rfl
    refine ⟨fun h => by omega, fun _ => ⟨by simp, ea⟩, fun i hi => by simp at hi, fun i hi => ?_, fun t i ht0 ht1 hi => ?_⟩
    · have : i = 0 := by simpa using hi
      subst this; rw [ea]; omega
    · have : i = 0 := by simpa using hi.1
      subst this; rw [ev, hf t ht0 ht1]
  · have hp := h.pos (by omega)
    unfold addS
    rw [last_Vl hp.1]
    by_cases hl : Vl out (out.length - 1) = f
    · rw [if_pos (by rw [hl])]
      refine ⟨fun h => by omega, fun _ => hp, h.rise, fun i hi => by have := h.top i hi; omega, fun t i ht0 ht1 hi => ?_⟩
      rcases Int.lt_or_le t E with h2 | h2
      · exact h.tells t i ht0 h2 hi
      · have : i = out.length - 1 := by
          rcases Nat.lt_or_ge (i + 1) out.length with h3 | h3
          · have := hi.2.2 h3; have := h.top _ h3; omega
          · have := hi.1; omega
        rw [this, hl, hf t h2 ht1]
    · rw [if_neg (by simpa using hl)]
      have hlen : (out ++ [(⟨E, f⟩ : St)]).length = out.length + 1 := by simp
      refine ⟨fun h => by omega, fun _ => ⟨by omega, by rw [At_app hp.1]; exact hp.2⟩, fun i hi => ?_, fun i hi => ?_, fun t i ht0 ht1 hi => ?_⟩
      · rw [hlen] at hi
        rcases Nat.lt_or_ge (i + 1) out.length with h3 | h3
        · rw [At_app (by omega), At_app h3, Vl_app (by omega), Vl_app h3]; exact h.rise i h3
        · have : i + 1 = out.length := by omega
          rw [this, At_last, Vl_last, At_app (by omega), Vl_app (by omega)]
          refine ⟨h.top i (by omega), ?_⟩
          have e : i = out.length - 1 := by omega
          rw [e]; exact hl
      · rw [hlen] at hi
        rcases Nat.lt_or_ge i out.length with h3 | h3
        · rw [At_app h3]; have := h.top i h3; omega
        · have : i = out.length := by omega
          rw [this, At_last]; exact h1
      · have hil := hi.1
        rw [hlen] at hil
        rcases Nat.lt_or_ge i out.length with h3 | h3
        · have h4 : t < E := by
            rcases Nat.lt_or_ge (i + 1) out.length with h5 | h5
            · have := hi.2.2 (by omega); rw [At_app h5] at this; have := h.top _ h5; omega
            · have := hi.2.2 (by omega)
              rw [show i + 1 = out.length by omega, At_last] at this
              exact this
          rw [Vl_app h3]
          refine h.tells t i ht0 h4 ⟨h3, by have := hi.2.1; rw [At_app h3] at this; exact this, fun h5 => by have := hi.2.2 (by omega); rw [At_app h5] at this; exact this⟩
        · have : i = out.length := by omega
          subst this
          have := hi.2.1
          rw [At_last] at this
          rw [Vl_last]
          exact (hf t this ht1).symm
theorem Built.norm {out : List St} {g : Int → Int} (h : Built out (Never + 1) g) : Norm out ∧ ∀ t, 0 ≤ t → t ≤ Never → val out t = g t := by
  have hp := h.pos (by unfold Never; omega)
  have hn : Norm out := ⟨hp.1, hp.2, h.rise, fun i hi => by have := h.top i hi; omega⟩
  exact ⟨hn, fun t h0 h1 => h.tells t _ h0 (by omega) (pl_spec hn h0)⟩

/-- So much more in a span. -/
def more (f t n x v : Int) : Int := if f ≤ x ∧ x < t then v + n else v
theorem plusE_eq (l : List St) (i : Nat) : plusE l i = if i + 1 < l.length then At l (i + 1) else Never + 1 := by
  unfold plusE At Never
  by_cases h : i + 1 < l.length
  · rw [if_pos (by omega), if_pos h]; rfl
  · rw [if_neg (by omega), if_neg h]; rfl
theorem plus_built {l : List St} (h : Right l) {f t n : Int} (h0 : 0 ≤ f) (h1 : f < t) (h2 : t ≤ Never) (hn : -1048576 ≤ n ∧ n ≤ 1048576) : ∀ i, i ≤ l.length → Built (plusN l f t n i) (if i < l.length then At l i else Never + 1) (fun x => more f t n x (val l x))
  | 0, _ => by
    rw [if_pos h.pos, h.zero]
    exact Built.start _
  | i + 1, hi => by
    have ih := plus_built h h0 h1 h2 hn i (by omega)
    rw [if_pos (by omega)] at ih
    have hlt : i < l.length := by omega
    have hE := plusE_eq l i
    have hs0 := h.ge0 hlt
    have hsn := h.top i hlt
    have hse : At l i < plusE l i := by
      rw [hE]
      split
      · exact (h.rise i (by assumption)).1
      · omega
    have hen : plusE l i ≤ Never + 1 := by
      rw [hE]
      split
      · have := h.top (i + 1) (by assumption); omega
      · omega
    have hv : ∀ x, At l i ≤ x → x < plusE l i → val l x = Vl l i := fun x a b => val_eq h.toNorm ⟨hlt, a, fun hc => by rw [hE, if_pos hc] at b; exact b⟩
    have ham := h.amts i hlt
    unfold amt at ham
    have hw : wrap64 (Vl l i + n) = Vl l i + n := w64 (by omega) (by omega)
    rw [← hE]
    show Built (plus3 l f t n i (plus2 l f t n i (plus1 l f t n i (plusN l f t n i)))) (plusE l i) _
    generalize hpe : plusE l i = e at hse hen hv ⊢
    have hA : (rd_T45 l (i : Int)).f0 = At l i := rfl
    have hV : (rd_T45 l (i : Int)).f1 = Vl l i := rfl
    generalize hs : At l i = s at ih hse hs0 hsn hv hA
    generalize hvv : Vl l i = v at hv ham hw hV
    have b1 : Built (plus1 l f t n i (plusN l f t n i)) (if s < f then (if e < f then e else f) else s) (fun x => more f t n x (val l x)) := by
      unfold plus1
      rw [hA, hV]
      by_cases c : s < f
      · rw [if_pos c, if_pos c]
        refine ih.add hs0 (by split <;> omega) (fun x a b => ?_)
        have hx : x < e ∧ x < f := by split at b <;> omega
        rw [hv x a hx.1]
        unfold more
        rw [if_neg (by omega)]
      · rw [if_neg c, if_neg c]; exact ih
    generalize plus1 l f t n i (plusN l f t n i) = o1 at b1 ⊢
    have b2 : Built (plus2 l f t n i o1) (if (if s < f then f else s) < (if t < e then t else e) then (if t < e then t else e) else (if s < f then (if e < f then e else f) else s)) (fun x => more f t n x (val l x)) := by
      unfold plus2
      rw [hA, hV, hpe, mx_eq, mn_eq, hw]
      by_cases c : (if s < f then f else s) < (if t < e then t else e)
      · rw [if_pos c, if_pos c]
        have he : (if s < f then (if e < f then e else f) else s) = (if s < f then f else s) := by
          by_cases c1 : s < f
          · rw [if_pos c1, if_pos c1]; rw [if_pos c1] at c; split at c <;> rw [if_neg (by omega)]
          · rw [if_neg c1, if_neg c1]
        rw [he] at b1
        refine b1.add (by split <;> omega) c (fun x a b => ?_)
        have hx : s ≤ x ∧ f ≤ x ∧ x < e ∧ x < t := by split at a <;> split at b <;> omega
        rw [hv x hx.1 hx.2.2.1]
        unfold more
        rw [if_pos ⟨hx.2.1, hx.2.2.2⟩]
      · rw [if_neg c, if_neg c]; exact b1
    generalize plus2 l f t n i o1 = o2 at b2 ⊢
    unfold plus3
    rw [hA, hV, hpe, mx_eq]
    by_cases c : t < e
    · rw [if_pos c]
      have he : (if (if s < f then f else s) < (if t < e then t else e) then (if t < e then t else e) else (if s < f then (if e < f then e else f) else s)) = (if s < t then t else s) := by
        rw [if_pos c]
        by_cases c1 : s < f
        · rw [if_pos c1, if_pos h1, if_pos (by omega)]
        · rw [if_neg c1]
          by_cases c2 : s < t
          · rw [if_pos c2, if_pos c2]
          · rw [if_neg c2, if_neg c2, if_neg c1]
      rw [he] at b2
      refine b2.add (by split <;> omega) (by split <;> omega) (fun x a b => ?_)
      have hx : s ≤ x ∧ t ≤ x := by split at a <;> omega
      rw [hv x hx.1 b]
      unfold more
      rw [if_neg (by omega)]
    · rw [if_neg c]
      have he : (if (if s < f then f else s) < (if t < e then t else e) then (if t < e then t else e) else (if s < f then (if e < f then e else f) else s)) = e := by
        rw [if_neg c]
        by_cases c1 : s < f
        · rw [if_pos c1]
          by_cases c2 : f < e
          · rw [if_pos c2]
          · rw [if_neg c2, if_pos c1]
            by_cases c3 : e < f
            · rw [if_pos c3]
            · rw [if_neg c3]; omega
        · rw [if_neg c1, if_pos hse]
      rw [he] at b2
      exact b2
/-- What plus makes tells what it told, and so much more in the span. -/
theorem plus_norm {l : List St} (h : Right l) {f t n : Int} (h0 : 0 ≤ f) (h1 : f < t) (h2 : t ≤ Never) (hn : -1048576 ≤ n ∧ n ≤ 1048576) : Norm (plusN l f t n l.length) ∧ ∀ x, 0 ≤ x → x ≤ Never → val (plusN l f t n l.length) x = more f t n x (val l x) := by
  have := plus_built h h0 h1 h2 hn l.length (Nat.le_refl _)
  rw [if_neg (by omega)] at this
  exact this.norm
end Go.Proofs.Ytimllhflecippaa.StepP
/- Layer 3, plainly: what the functions of step and of the third reference answer. -/
namespace Go.Proofs.Ytimllhflecippaa.StepQ
open Go.RowKit Go.Proofs.YtimllhflecippaaW.PrintWords Go.Proofs.YtimllhflecippaaW.PrintMore Go.Proofs.Ytimllhflecippaa.F Go.Proofs.Ytimllhflecippaa.Pk Go.Proofs.Ytimllhflecippaa.StepP
set_option linter.unusedSimpArgs false
set_option linter.unusedVariables false

theorem nx (i : Nat) (h : i < 9223372036854775807) : wrap64 ((i : Int) + 1) = ((i + 1 : Nat) : Int) := by rw [w64 (by omega) (by omega)]; rfl
theorem pv (i : Nat) (h : i < 9223372036854775807) (h0 : 0 < i) : wrap64 ((i : Int) - 1) = ((i - 1 : Nat) : Int) := by rw [w64 (by omega) (by omega)]; omega
theorem at_ (l : List St) (i : Nat) : (rdS l (i : Int)).f0 = At l i := Eq.trans rfl rfl
theorem vl_ (l : List St) (i : Nat) : (rdS l (i : Int)).f1 = Vl l i := Eq.trans rfl rfl
theorem wright (a : Int) : when_Right.f a = some (decide (0 ≤ a ∧ a ≤ Never)) := by
  unfold when_Right.f Never
  by_cases h : a ≥ 0
  · rw [if_pos h]; congr 1; exact decide_eq_decide.2 (by omega)
  · rw [if_neg h]; congr 1; exact (decide_eq_false (by omega)).symm
theorem samt (a : Int) : step_amount.f a = some (decide (amt a)) := by
  unfold step_amount.f
  by_cases h : a ≥ 0
  · rw [if_pos h]; congr 1; exact decide_eq_decide.2 (by unfold amt; omega)
  · rw [if_neg h]; congr 1; exact (decide_eq_false (by unfold amt; omega)).symm
/-- One step is right, beside that ahead of it. -/
def good (l : List St) (i : Nat) : Prop := amt (Vl l i) ∧ (0 ≤ At l i ∧ At l i ≤ Never) ∧ (0 < i → At l (i - 1) < At l i ∧ Vl l i ≠ Vl l (i - 1))
theorem right_iff (l : List St) : Right l ↔ 1 ≤ l.length ∧ l.length ≤ 1024 ∧ At l 0 = 0 ∧ ∀ i, 0 ≤ i → i < l.length → good l i := by
  constructor
  · intro h
    refine ⟨h.pos, h.len, h.zero, fun i _ hi => ⟨h.amts i hi, ⟨h.ge0 hi, h.top i hi⟩, fun h0 => ?_⟩⟩
    have := h.rise (i - 1) (by omega)
    rw [show i - 1 + 1 = i by omega] at this
    exact ⟨this.1, this.2.symm⟩
  · rintro ⟨h1, h2, h3, h4⟩
    refine { pos := h1, zero := h3, rise := fun i hi => ?_, top := fun i hi => (h4 i (by omega) hi).2.1.2, len := h2, amts := fun i hi => (h4 i (by omega) hi).1 }
    have := (h4 (i + 1) (by omega) hi).2.2 (by omega)
    exact ⟨this.1, this.2.symm⟩
theorem all_step {P : Nat → Prop} {i n : Nat} (h : i < n) : (∀ j, i ≤ j → j < n → P j) ↔ P i ∧ ∀ j, i + 1 ≤ j → j < n → P j := by
  constructor
  · exact fun a => ⟨a i (by omega) h, fun j h1 h2 => a j (by omega) h2⟩
  · rintro ⟨a, b⟩ j h1 h2
    rcases Nat.lt_or_ge i j with h3 | h3
    · exact b j h3 h2
    · have : j = i := by omega
      rw [this]; exact a
theorem bool_false {b : Bool} {P : Prop} (h : b = true ↔ P) (n : ¬ P) : b = false := by cases b; rfl; exact absurd (h.1 rfl) n
theorem bool_true {b : Bool} {P : Prop} (h : b = true ↔ P) (n : P) : b = true := h.2 n
theorem right_loop (l : List St) (hl : l.length ≤ 1024) : ∀ (d i : Nat) (b : Bool), l.length - i = d → i ≤ l.length → (b = true ↔ ∀ j, i ≤ j → j < l.length → good l j) → Ev (fun k => step_Right.l0 k l l (l.length : Int) (i : Int)) b
  | 0, i, b, hd, hi, hb => by
    rw [bool_true hb (fun j h1 h2 => by omega)]
    refine Ev.step (f := fun _ => some true) (fun k => ?_) (Ev.now _)
    simp only [step_Right.l0]
    rw [if_neg (by omega)]
  | d + 1, i, b, hd, hi, hb => by
    have hlt : i < l.length := by omega
    rw [all_step hlt] at hb
    have q1 : (i : Int) < (l.length : Int) := by omega
    have q2 : (0 : Int) ≤ (i : Int) := by omega
    by_cases c1 : amt (Vl l i)
    · by_cases c2 : 0 ≤ At l i ∧ At l i ≤ Never
      · by_cases c3 : 0 < i
        · have e1 := pv i (by omega) c3
          have q3 : (i : Int) > 0 := by clear e1; omega
          have q4 : (0 : Int) ≤ ((i - 1 : Nat) : Int) := by clear e1; omega
          have q5 : ((i - 1 : Nat) : Int) < (l.length : Int) := by clear e1; omega
          by_cases c4 : At l i ≤ At l (i - 1)
          · rw [bool_false hb (fun hg => by have := (hg.1.2.2 c3).1; omega)]
            refine Ev.step (f := fun _ => some false) (fun k => ?_) (Ev.now _)
            simp only [step_Right.l0, at_, vl_, samt, wright, Option.bind_some, if_pos q1, if_pos q2, c1, c2, decide_true, if_true, if_pos q3, e1, if_pos q4, if_pos q5, if_pos c4, and_self]
          · by_cases c5 : Vl l i = Vl l (i - 1)
            · rw [bool_false hb (fun hg => (hg.1.2.2 c3).2 c5)]
              refine Ev.step (f := fun _ => some false) (fun k => ?_) (Ev.now _)
              simp only [step_Right.l0, at_, vl_, samt, wright, Option.bind_some, if_pos q1, if_pos q2, c1, c2, decide_true, if_true, if_pos q3, e1, if_pos q4, if_pos q5, if_neg c4, if_pos c5, and_self]
            · refine Ev.step (fun k => ?_) (right_loop l hl d (i + 1) b (by omega) (by omega) (hb.trans ⟨fun h => h.2, fun h => ⟨⟨c1, c2, fun _ => ⟨by omega, c5⟩⟩, h⟩⟩))
              simp only [step_Right.l0, at_, vl_, samt, wright, Option.bind_some, if_pos q1, if_pos q2, c1, c2, decide_true, if_true, if_pos q3, e1, if_pos q4, if_pos q5, if_neg c4, if_neg c5, nx i (by omega), and_self]
        · have q3 : ¬ (i : Int) > 0 := by omega
          refine Ev.step (fun k => ?_) (right_loop l hl d (i + 1) b (by omega) (by omega) (hb.trans ⟨fun h => h.2, fun h => ⟨⟨c1, c2, fun h => absurd h c3⟩, h⟩⟩))
          simp only [step_Right.l0, at_, vl_, samt, wright, Option.bind_some, if_pos q1, if_pos q2, c1, c2, decide_true, if_true, if_neg q3, nx i (by omega), and_self]
      · rw [bool_false hb (fun hg => c2 hg.1.2.1)]
        refine Ev.step (f := fun _ => some false) (fun k => ?_) (Ev.now _)
        simp only [step_Right.l0, at_, vl_, samt, wright, Option.bind_some, if_pos q1, if_pos q2, c1, c2, decide_true, decide_false, if_true, Bool.false_eq_true, if_false]
    · rw [bool_false hb (fun hg => c1 hg.1.1)]
      refine Ev.step (f := fun _ => some false) (fun k => ?_) (Ev.now _)
      simp only [step_Right.l0, at_, vl_, samt, wright, Option.bind_some, if_pos q1, if_pos q2, c1, decide_false, if_true, Bool.false_eq_true, if_false]
theorem right_ev (l : List St) (b : Bool) (hb : b = true ↔ Right l) : Ev (fun k => step_Right.f k l) b := by
  have no : ¬ Right l → Ev (fun k => step_Right.j0 k l true) b := by
    intro h
    rw [bool_false hb h]
    exact Ev.step (f := fun _ => some false) (fun k => by simp only [step_Right.j0, if_true]) (Ev.now _)
  rw [right_iff] at no
  by_cases c1 : (l.length : Int) < 1
  · refine Ev.congr (fun k => ?_) (no (fun h => by have := h.1; omega))
    simp only [step_Right.f, if_pos c1]
  by_cases c2 : (l.length : Int) > 1024
  · refine Ev.congr (fun k => ?_) (no (fun h => by have := h.2.1; omega))
    simp only [step_Right.f, if_neg c1, if_pos c2]
  have q : (0 : Int) < (l.length : Int) := by omega
  have a0 : (rdS l 0).f0 = At l 0 := rfl
  by_cases c3 : At l 0 = 0
  · refine Ev.congr (f := fun k => step_Right.j0 k l false) (fun k => ?_) ?_
    · simp only [step_Right.f, if_neg c1, if_neg c2, if_pos q, a0, c3]; rfl
    · refine Ev.step (fun k => ?_) (right_loop l (by omega) l.length 0 b (by omega) (by omega) (hb.trans ((right_iff l).trans ⟨fun h => h.2.2.2, fun h => ⟨by omega, by omega, c3, h⟩⟩)))
      simp only [step_Right.j0, Bool.false_eq_true, if_false]; rfl
  · refine Ev.congr (fun k => ?_) (no (fun h => c3 h.2.2.1))
    simp only [step_Right.f, if_neg c1, if_neg c2, if_pos q, a0, bne, beq_false_of_ne c3]; rfl
theorem right_yes {l : List St} (h : Right l) : Ev (fun k => step_Right.f k l) true := right_ev l true ⟨fun _ => h, fun _ => rfl⟩
theorem right_no {l : List St} (h : ¬ Right l) : Ev (fun k => step_Right.f k l) false := right_ev l false ⟨fun h' => Bool.noConfusion h', fun h' => absurd h' h⟩

def May (l : List St) (f t : Int) : Prop := Right l ∧ 0 ≤ f ∧ f < t ∧ t ≤ Never
theorem may_yes {l : List St} {f t : Int} (h : May l f t) : Ev (fun k => step_may.f k l f t) true := by
  obtain ⟨h0, h1, h2, h3⟩ := h
  refine Ev.bind (right_yes h0) ?_
  simp only [if_true, wright, Option.bind_some, decide_eq_true (show 0 ≤ f ∧ f ≤ Never by omega), decide_eq_true (show 0 ≤ t ∧ t ≤ Never by omega), decide_eq_true h2]
  exact Ev.now _
theorem may_no {l : List St} {f t : Int} (h : ¬ May l f t) : Ev (fun k => step_may.f k l f t) false := by
  by_cases c0 : Right l
  · refine Ev.bind (right_yes c0) ?_
    simp only [if_true, wright, Option.bind_some]
    by_cases c1 : 0 ≤ f ∧ f ≤ Never
    · by_cases c2 : 0 ≤ t ∧ t ≤ Never
      · have c3 : ¬ f < t := fun c => h ⟨c0, c1.1, c, c2.2⟩
        simp only [decide_eq_true c1, decide_eq_true c2, if_true, decide_eq_false c3]
        exact Ev.now _
      · simp only [decide_eq_true c1, decide_eq_false c2, if_true, Bool.false_eq_true, if_false]
        exact Ev.now _
    · simp only [decide_eq_false c1, Bool.false_eq_true, if_false]
      exact Ev.now _
  · refine Ev.bind (right_no c0) ?_
    simp only [Bool.false_eq_true, if_false]
    exact Ev.now _

/-! ### the place of a time -/
theorem half (i j : Nat) (h : i + j < 9223372036854775807) : wrap64 ((IntKind.u64.wrap (wrap64 ((i : Int) + (j : Int)))) / 2) = (((i + j) / 2 : Nat) : Int) := by
  rw [w64 (n := (i : Int) + j) (by omega) (by omega), IntKind.wrap_u64]
  rw [w64 (by omega) (by omega)]
  omega
theorem search_loop {l : List St} (h : Right l) (t : Int) : ∀ (d i j : Nat), j - i ≤ d → i ≤ j → j ≤ l.length → (∀ x, x < i → At l x < t) → (∀ x, j ≤ x → x < l.length → t ≤ At l x) →
    ∃ p : Nat, (p ≤ l.length ∧ (∀ x, x < p → At l x < t) ∧ (∀ x, p ≤ x → x < l.length → t ≤ At l x)) ∧ Ev (fun k => slices_BinarySearchFunc_api_Step_api_Step_int64__at_step_place_1.l0 k l t (l.length : Int) (i : Int) (j : Int)) ((p : Int), decide (p < l.length ∧ At l p = t)) := by
  intro d
  induction d with
  | zero =>
    intro i j hd hij hj h1 h2
    have : j = i := by omega
    subst this
    refine ⟨j, ⟨hj, h1, h2⟩, ?_⟩
    have q : ¬ (j : Int) < (j : Int) := by omega
    by_cases c : j < l.length
    · have q1 : (j : Int) < (l.length : Int) := by omega
      have q2 : (0 : Int) ≤ (j : Int) := by omega
      have hge := h2 j (by omega) c
      have n1 : ¬ At l j < t := by omega
      by_cases c1 : At l j > t
      · refine Ev.step (f := fun _ => some ((j : Int), false)) (fun k => ?_) ?_
        · simp only [slices_BinarySearchFunc_api_Step_api_Step_int64__at_step_place_1.l0, if_neg q, if_pos q1, if_pos q2, step_place_1.f, at_, if_neg n1, if_pos c1, Option.bind_some]
          rfl
        · rw [decide_eq_false (show ¬ (j < l.length ∧ At l j = t) by omega)]
          exact Ev.now _
      · refine Ev.step (f := fun _ => some ((j : Int), true)) (fun k => ?_) ?_
        · simp only [slices_BinarySearchFunc_api_Step_api_Step_int64__at_step_place_1.l0, if_neg q, if_pos q1, if_pos q2, step_place_1.f, at_, if_neg n1, if_neg c1, Option.bind_some]
          rfl
        · rw [decide_eq_true (show (j < l.length ∧ At l j = t) by omega)]
          exact Ev.now _
    · have q1 : ¬ (j : Int) < (l.length : Int) := by omega
      refine Ev.step (f := fun _ => some ((j : Int), false)) (fun k => ?_) ?_
      · simp only [slices_BinarySearchFunc_api_Step_api_Step_int64__at_step_place_1.l0, if_neg q, if_neg q1]
      · rw [decide_eq_false (show ¬ (j < l.length ∧ At l j = t) by omega)]
        exact Ev.now _
  | succ d ih =>
    intro i j hd hij hj h1 h2
    by_cases hlt : i < j
    · have hlen := h.len
      have e := half i j (by omega)
      have q : (i : Int) < (j : Int) := by omega
      have hm : i ≤ (i + j) / 2 ∧ (i + j) / 2 < j := by omega
      generalize (i + j) / 2 = m at e hm
      have q1 : (0 : Int) ≤ (m : Int) := by omega
      have q2 : (m : Int) < (l.length : Int) := by omega
      by_cases c : At l m < t
      · obtain ⟨p, hp, hev⟩ := ih (m + 1) j (by omega) (by omega) hj (fun x hx => by
          have := h.le (i := x) (j := m) (by omega) (by omega)
          omega) h2
        refine ⟨p, hp, Ev.step (fun k => ?_) hev⟩
        simp only [slices_BinarySearchFunc_api_Step_api_Step_int64__at_step_place_1.l0, if_pos q, e, if_pos q1, if_pos q2, step_place_1.f, at_, if_pos c, Option.bind_some, nx m (by omega)]
        rfl
      · obtain ⟨p, hp, hev⟩ := ih i m (by omega) (by omega) (by omega) h1 (fun x hx hx2 => by
          have := h.le (i := m) (j := x) (by omega) (by omega)
          omega)
        refine ⟨p, hp, Ev.step (fun k => ?_) hev⟩
        by_cases c1 : At l m > t
        · simp only [slices_BinarySearchFunc_api_Step_api_Step_int64__at_step_place_1.l0, if_pos q, e, if_pos q1, if_pos q2, step_place_1.f, at_, if_neg c, if_pos c1, Option.bind_some]
          rfl
        · simp only [slices_BinarySearchFunc_api_Step_api_Step_int64__at_step_place_1.l0, if_pos q, e, if_pos q1, if_pos q2, step_place_1.f, at_, if_neg c, if_neg c1, Option.bind_some]
          rfl
    · exact ih i j (by omega) hij hj h1 h2
theorem place_ev {l : List St} (h : Right l) {t : Int} (ht : 0 ≤ t) : Ev (fun k => step_place.f k l t) ((pl l t : Nat) : Int) := by
  obtain ⟨p, ⟨h1, h2, h3⟩, hev⟩ := search_loop h t l.length 0 l.length (by omega) (by omega) (by omega) (fun x hx => by omega) (fun x hx hx2 => by omega)
  refine Ev.bind hev ?_
  by_cases c : p < l.length ∧ At l p = t
  · simp only [decide_eq_true c, if_true]
    rw [pl_eq h.toNorm (i := p) ⟨c.1, by omega, fun hn => by have := (h.rise p hn).1; omega⟩]
    exact Ev.now _
  · simp only [decide_eq_false c, Bool.false_eq_true, if_false]
    have hp : 0 < p := by
      rcases Nat.eq_zero_or_pos p with h0 | h0
      · subst h0
        have := h3 0 (by omega) h.pos
        rw [h.zero] at this
        exact absurd ⟨h.pos, by rw [h.zero]; omega⟩ c
      · exact h0
    rw [pv p (by have := h.len; omega) hp]
    have h4 := h2 (p - 1) (by omega)
    rw [pl_eq h.toNorm (i := p - 1) ⟨by omega, by omega, fun hn => by
      rw [show p - 1 + 1 = p by omega] at hn ⊢
      have := h3 p (by omega) hn
      have : At l p ≠ t := fun he => c ⟨hn, he⟩
      omega⟩]
    exact Ev.now _

/-! ### at and least -/
theorem at_ev {l : List St} (h : Right l) {t : Int} (h0 : 0 ≤ t) (h1 : t ≤ Never) : Ev (fun k => step_At.f k l t) (val l t) := by
  refine Ev.bind (right_yes h) ?_
  simp only [if_true, wright, Option.bind_some, decide_eq_true (show 0 ≤ t ∧ t ≤ Never from ⟨h0, h1⟩)]
  refine Ev.bind (place_ev h h0) ?_
  have := (pl_spec h.toNorm h0).1
  simp only [if_pos (show (0 : Int) ≤ ((pl l t : Nat) : Int) by omega), if_pos (show ((pl l t : Nat) : Int) < (l.length : Int) by omega)]
  exact Ev.now _
theorem at_no {l : List St} {t : Int} (h : ¬ (Right l ∧ 0 ≤ t ∧ t ≤ Never)) : Ev (fun k => step_At.f k l t) 0 := by
  by_cases c : Right l
  · refine Ev.bind (right_yes c) ?_
    simp only [if_true, wright, Option.bind_some, decide_eq_false (show ¬ (0 ≤ t ∧ t ≤ Never) from fun h' => h ⟨c, h'⟩), Bool.false_eq_true, if_false]
    exact Ev.now _
  · refine Ev.bind (right_no c) ?_
    simp only [Bool.false_eq_true, if_false]
    exact Ev.now _
/-- The least amount in a span. -/
def IsLeast (l : List St) (f t m : Int) : Prop := ∀ n, n ≤ m ↔ (n ≤ 1048576 ∧ ∀ x, f ≤ x → x < t → n ≤ val l x)
theorem IsLeast.uniq {l : List St} {f t m m' : Int} (h : IsLeast l f t m) (h' : IsLeast l f t m') : m = m' := by
  have a := (h' m).2 ((h m).1 (Int.le_refl _))
  have b := (h m').2 ((h' m').1 (Int.le_refl _))
  omega
/-- What holds at all times of a span holds in its steps. -/
theorem span_iff {l : List St} (h : Norm l) {f t : Int} (h0 : 0 ≤ f) (h1 : f < t) (P : Int → Prop) : (∀ x, f ≤ x → x < t → P (val l x)) ↔ ∀ j, pl l f ≤ j → j < l.length → At l j < t → P (Vl l j) := by
  have hp := pl_spec h h0
  constructor
  · intro a j h2 h3 h4
    rcases Nat.lt_or_ge (pl l f) j with h5 | h5
    · have h6 := hp.2.2 (by omega)
      have h7 := h.le (i := pl l f + 1) (j := j) h5 h3
      have := a (At l j) (by omega) h4
      rwa [val_at h h3] at this
    · have : j = pl l f := by omega
      subst this
      exact a f (Int.le_refl _) h1
  · intro a x h2 h3
    have hx := pl_spec h (t := x) (by omega)
    refine a (pl l x) ?_ hx.1 (by have := hx.2.1; omega)
    rcases Nat.lt_or_ge (pl l x) (pl l f) with h5 | h5
    · have h6 := hx.2.2 (by have := hp.1; omega)
      have h7 := h.le (i := pl l x + 1) (j := pl l f) h5 hp.1
      have := hp.2.1
      omega
    · exact h5
theorem least_loop {l : List St} (h : Right l) (t : Int) : ∀ (d i : Nat) (a : Int), l.length - i = d → i ≤ l.length → ∃ m, Ev (fun k => step_least.l0 k l t a (i : Int)) m ∧ ∀ n, n ≤ m ↔ (n ≤ a ∧ ∀ j, i ≤ j → j < l.length → At l j < t → n ≤ Vl l j)
  | 0, i, a, hd, hi => by
    refine ⟨a, Ev.step (f := fun _ => some a) (fun k => ?_) (Ev.now _), fun n => ⟨fun hn => ⟨hn, fun j h1 h2 => by omega⟩, fun hn => hn.1⟩⟩
    simp only [step_least.l0]
    rw [if_neg (by omega)]
  | d + 1, i, a, hd, hi => by
    have hlt : i < l.length := by omega
    have q1 : (i : Int) < (l.length : Int) := by omega
    have q2 : (0 : Int) ≤ (i : Int) := by omega
    by_cases c : At l i < t
    · obtain ⟨m, hev, hm⟩ := least_loop h t d (i + 1) (mn a (Vl l i)) (by omega) (by omega)
      refine ⟨m, Ev.step (fun k => ?_) hev, fun n => ?_⟩
      · simp only [step_least.l0, if_pos q1, if_pos q2, at_, vl_, if_pos c, nx i (by have := h.len; omega)]
      · rw [hm n, all_step hlt, mn_eq]
        constructor
        · rintro ⟨x, y⟩
          exact ⟨by split at x <;> omega, fun _ => by split at x <;> omega, y⟩
        · rintro ⟨x, y, z⟩
          exact ⟨by have := y c; split <;> omega, z⟩
    · refine ⟨a, Ev.step (f := fun _ => some a) (fun k => ?_) (Ev.now _), fun n => ⟨fun hn => ⟨hn, fun j h1 h2 h3 => ?_⟩, fun hn => hn.1⟩⟩
      · simp only [step_least.l0, if_pos q1, if_pos q2, at_, vl_, if_neg c]
      · have := h.le (i := i) (j := j) h1 h2
        omega
theorem least_ev {l : List St} (h : Right l) {f t : Int} (h0 : 0 ≤ f) (h1 : f < t) : ∃ m, Ev (fun k => step_least.f k l f t) m ∧ IsLeast l f t m := by
  obtain ⟨m, hev, hm⟩ := least_loop h t (l.length - pl l f) (pl l f) 1048576 rfl (by have := (pl_spec h.toNorm h0).1; omega)
  refine ⟨m, Ev.bind (place_ev h h0) hev, fun n => ?_⟩
  rw [hm n, span_iff h.toNorm h0 h1 (fun v => n ≤ v)]
/-! ### spans and the first fitting time -/
def nr (t : Int) : Int := if t < 0 then 0 else if Never < t then Never else t
def pls (a b : Int) : Int := if Never < nr a + nr b then Never else nr a + nr b
theorem nr_rng (a : Int) : 0 ≤ nr a ∧ nr a ≤ Never := by unfold nr Never; split; omega; split <;> omega
theorem near_ev (a : Int) : when_near.f a = some (nr a) := by
  unfold when_near.f nr Never
  rw [mx_eq, mn_eq]
  congr 1
  split <;> split <;> (try split) <;> omega
theorem plus_ev (a b : Int) : when_Plus.f a b = some (pls a b) := by
  unfold when_Plus.f
  simp only [near_ev, Option.bind_some]
  have h1 := nr_rng a
  have h2 := nr_rng b
  unfold Never at h1 h2
  congr 1
  unfold pls Never
  generalize nr a = x at *
  generalize nr b = y at *
  rw [mn_eq, w64 (n := 4611686018427387904 - x) (by omega) (by omega)]
  by_cases c : 4611686018427387904 - x < y
  · rw [if_pos c, if_pos (by omega), w64 (by omega) (by omega)]; omega
  · rw [if_neg c, if_neg (by omega), w64 (by omega) (by omega)]
theorem pls_val {t long : Int} (h0 : 0 ≤ t) (h1 : t ≤ Never) (h2 : 1 ≤ long) : pls t long = if Never < t + long then Never else t + long := by
  unfold Never at h1
  have e1 : nr t = t := by unfold nr Never; rw [if_neg (by omega), if_neg (by omega)]
  unfold pls
  rw [e1]
  by_cases c : 4611686018427387904 < long
  · have e2 : nr long = 4611686018427387904 := by unfold nr Never; rw [if_neg (by omega), if_pos c]
    rw [e2]
    unfold Never
    by_cases c1 : t = 0
    · subst c1; rw [if_neg (by omega), if_pos (by omega)]; rfl
    · rw [if_pos (by omega), if_pos (by omega)]
  · have e2 : nr long = long := by unfold nr Never; rw [if_neg (by omega), if_neg c]
    rw [e2]
theorem pls_gt {t long : Int} (h0 : 0 ≤ t) (h1 : t < Never) (h2 : 1 ≤ long) : t < pls t long ∧ pls t long ≤ Never := by
  rw [pls_val h0 (by omega) h2]; split <;> omega
theorem pls_le {t t' long : Int} (h0 : 0 ≤ t) (h : t ≤ t') (h1 : t' ≤ Never) (h2 : 1 ≤ long) : pls t long ≤ pls t' long := by
  rw [pls_val h0 (by omega) h2, pls_val (by omega) h1 h2]; split <;> split <;> omega
def Fits (l : List St) (long n t : Int) : Prop := ∀ y, t ≤ y → y < pls t long → n ≤ val l y
def FirstIs (l : List St) (f long n : Int) (r : Int × Bool) : Prop := (r = (0, false) ∧ ∀ x, f ≤ x → x < Never → ¬ Fits l long n x) ∨ ∃ t, r = (t, true) ∧ f ≤ t ∧ t < Never ∧ Fits l long n t ∧ ∀ x, f ≤ x → x < t → ¬ Fits l long n x
theorem FirstIs.uniq {l : List St} {f long n : Int} {r r' : Int × Bool} (h : FirstIs l f long n r) (h' : FirstIs l f long n r') : r = r' := by
  rcases h with ⟨e, h⟩ | ⟨t, e, h1, h2, h3, h4⟩ <;> rcases h' with ⟨e', h'⟩ | ⟨t', e', h1', h2', h3', h4'⟩
  · rw [e, e']
  · exact absurd h3' (h _ h1' h2')
  · exact absurd h3 (h' _ h1 h2)
  · rcases Int.lt_trichotomy t t' with c | c | c
    · exact absurd h3 (h4' _ h1 c)
    · rw [e, e', c]
    · exact absurd h3' (h4 _ h1' c)
/-- What First's arguments must be. -/
def FirstOk (l : List St) (f long n : Int) : Prop := Right l ∧ (0 ≤ f ∧ f < Never) ∧ 1 ≤ long ∧ amt n
theorem first_loop {l : List St} (h : Right l) {f long n : Int} (hf : 0 ≤ f) (hlong : 1 ≤ long) : ∀ (d i : Nat) (t : Int), l.length - i = d → i ≤ l.length → f ≤ t → t ≤ Never → pl l t ≤ i → (∀ j, pl l t ≤ j → j < i → n ≤ Vl l j) → (∀ x, f ≤ x → x < t → ¬ Fits l long n x) →
    ∃ r, Ev (fun k => step_First.l0 k l long n t (i : Int)) r ∧ FirstIs l f long n r := by
  intro d
  have out : ∀ (i : Nat) (t : Int), f ≤ t → t ≤ Never → pl l t ≤ i → (∀ j, pl l t ≤ j → j < i → n ≤ Vl l j) → (∀ x, f ≤ x → x < t → ¬ Fits l long n x) → (∀ j, i ≤ j → j < l.length → pls t long ≤ At l j) →
      ∃ r, Ev (fun k => step_First.j2 k l long n t (i : Int) false) r ∧ FirstIs l f long n r := by
    intro i t h1 h2 h3 h4 h5 h6
    by_cases c : t = 4611686018427387904
    · refine ⟨(0, false), Ev.step (f := fun _ => some (0, false)) (fun k => ?_) (Ev.now _), .inl ⟨rfl, fun x hx hx2 => h5 x hx (by unfold Never at hx2; omega)⟩⟩
      simp only [step_First.j2, Bool.false_eq_true, if_false, if_pos c]
    · have htn : t < Never := by unfold Never at h2 ⊢; omega
      refine ⟨(t, true), Ev.step (f := fun _ => some (t, true)) (fun k => ?_) (Ev.now _), .inr ⟨t, rfl, h1, htn, ?_, h5⟩⟩
      · simp only [step_First.j2, Bool.false_eq_true, if_false, if_neg c]
      · have hp := pls_gt (by omega) htn hlong
        refine (span_iff h.toNorm (by omega) hp.1 (fun v => n ≤ v)).2 (fun j a1 a2 a3 => ?_)
        rcases Nat.lt_or_ge j i with c1 | c1
        · exact h4 j a1 c1
        · have := h6 j c1 a2; omega
  induction d with
  | zero =>
    intro i t hd hi h1 h2 h3 h4 h5
    obtain ⟨r, hev, hr⟩ := out i t h1 h2 h3 h4 h5 (fun j a b => by omega)
    refine ⟨r, Ev.step (fun k => ?_) hev, hr⟩
    simp only [step_First.l0]
    rw [if_neg (by omega)]
  | succ d ih =>
    intro i t hd hi h1 h2 h3 h4 h5
    have hlt : i < l.length := by omega
    have q1 : (i : Int) < (l.length : Int) := by omega
    have q2 : (0 : Int) ≤ (i : Int) := by omega
    by_cases c : At l i < pls t long
    · by_cases c1 : Vl l i < n
      · have bad : ∀ x, t ≤ x → x < Never → (i + 1 < l.length → x < At l (i + 1)) → ¬ Fits l long n x := by
          intro x hx hxn hxi hfit
          rcases Int.lt_or_le x (At l i) with c2 | c2
          · have := hfit (At l i) (by omega) (by have := pls_le (t := t) (t' := x) (by omega) hx (by omega) hlong; omega)
            rw [val_at h.toNorm hlt] at this
            omega
          · have := hfit x (Int.le_refl _) (pls_gt (by omega) hxn hlong).1
            rw [val_eq h.toNorm (i := i) ⟨hlt, c2, hxi⟩] at this
            omega
        by_cases c2 : i + 1 = l.length
        · refine ⟨(0, false), ?_, .inl ⟨rfl, fun x hx hxn => ?_⟩⟩
          · refine Ev.step (f := fun k => step_First.j2 k l long n t (i : Int) true) (fun k => ?_) (Ev.step (f := fun _ => some (0, false)) (fun k => ?_) (Ev.now _))
            · simp only [step_First.l0, if_pos q1, if_pos q2, plus_ev, Option.bind_some, at_, decide_eq_true c]
            · have q3 : ((i + 1 : Nat) : Int) = (l.length : Int) := by omega
              simp only [step_First.j2, if_true, if_pos q1, if_pos q2, vl_, if_pos c1, nx i (by have := h.len; omega), if_pos q3]
          · rcases Int.lt_or_le x t with c3 | c3
            · exact h5 x hx c3
            · exact bad x c3 hxn (fun h' => by omega)
        · have hlt2 : i + 1 < l.length := by omega
          have hpi : IsPl l (At l (i + 1)) (i + 1) := ⟨hlt2, Int.le_refl _, fun h' => (h.rise _ h').1⟩
          have hp := pl_eq h.toNorm hpi
          have htop := h.top _ hlt2
          have htt : t < At l (i + 1) := by
            have hpt := pl_spec h.toNorm (t := t) (by omega)
            have e1 := hpt.2.2 (by omega)
            have := h.toNorm.le (i := pl l t + 1) (j := i + 1) (by omega) hlt2
            omega
          obtain ⟨r, hev, hr⟩ := ih (i + 1) (At l (i + 1)) (by omega) (by omega) (by omega) htop (by omega) (fun j a b => by omega) (fun x hx hx2 => by
            rcases Int.lt_or_le x t with c3 | c3
            · exact h5 x hx c3
            · exact bad x c3 (by omega) (fun _ => hx2))
          refine ⟨r, Ev.step (f := fun k => step_First.j2 k l long n t (i : Int) true) (fun k => ?_) (Ev.step (fun k => ?_) hev), hr⟩
          · simp only [step_First.l0, if_pos q1, if_pos q2, plus_ev, Option.bind_some, at_, decide_eq_true c]
          · have q3 : ¬ ((i + 1 : Nat) : Int) = (l.length : Int) := by omega
            have q4 : (0 : Int) ≤ ((i + 1 : Nat) : Int) := by omega
            have q5 : ((i + 1 : Nat) : Int) < (l.length : Int) := by omega
            simp only [step_First.j2, if_true, if_pos q1, if_pos q2, vl_, if_pos c1, nx i (by have := h.len; omega), if_neg q3, if_pos q4, if_pos q5, at_]
      · obtain ⟨r, hev, hr⟩ := ih (i + 1) t (by omega) (by omega) h1 h2 (by omega) (fun j a b => by
          rcases Nat.lt_or_ge j i with c2 | c2
          · exact h4 j a c2
          · have : j = i := by omega
            subst this; omega) h5
        refine ⟨r, Ev.step (f := fun k => step_First.j2 k l long n t (i : Int) true) (fun k => ?_) (Ev.step (fun k => ?_) hev), hr⟩
        · simp only [step_First.l0, if_pos q1, if_pos q2, plus_ev, Option.bind_some, at_, decide_eq_true c]
        · simp only [step_First.j2, if_true, if_pos q1, if_pos q2, vl_, if_neg c1, nx i (by have := h.len; omega)]
    · obtain ⟨r, hev, hr⟩ := out i t h1 h2 h3 h4 h5 (fun j a b => by have := h.le (i := i) (j := j) a b; omega)
      refine ⟨r, Ev.step (fun k => ?_) hev, hr⟩
      simp only [step_First.l0, if_pos q1, if_pos q2, plus_ev, Option.bind_some, at_, decide_eq_false c]
theorem first_yes {l : List St} {f long n : Int} (h : FirstOk l f long n) : ∃ r, Ev (fun k => step_First.f k l f long n) r ∧ FirstIs l f long n r := by
  obtain ⟨h0, ⟨h1, h2⟩, h3, h4⟩ := h
  obtain ⟨r, hev, hr⟩ := first_loop h0 h1 h3 (n := n) (l.length - pl l f) (pl l f) f rfl (by have := (pl_spec h0.toNorm h1).1; omega) (Int.le_refl _) (by omega) (Nat.le_refl _) (fun j a b => by omega) (fun x a b => by omega)
  refine ⟨r, Ev.bind (right_yes h0) ?_, hr⟩
  have n1 : ¬ f = 4611686018427387904 := by unfold Never at h2; omega
  have n2 : ¬ long < 1 := by omega
  simp only [if_true, wright, Option.bind_some, decide_eq_true (show 0 ≤ f ∧ f ≤ Never by omega), if_neg n1, if_neg n2, samt, decide_eq_true h4, Bool.not_true]
  refine Ev.step (f := fun k => (step_place.f k l f).bind fun t => step_First.l0 k l long n f t) (fun k => ?_) (Ev.bind (place_ev h0 h1) hev)
  simp only [step_First.j0, Bool.false_eq_true, if_false]
theorem first_no {l : List St} {f long n : Int} (h : ¬ FirstOk l f long n) : Ev (fun k => step_First.f k l f long n) (0, false) := by
  have no : ∀ b, b = true → Ev (fun k => step_First.j0 k l f long n b) (0, false) := by
    rintro _ rfl
    exact Ev.step (f := fun _ => some (0, false)) (fun k => by simp only [step_First.j0, if_true]) (Ev.now _)
  by_cases c0 : Right l
  · refine Ev.bind (right_yes c0) ?_
    simp only [if_true, wright, Option.bind_some]
    by_cases c1 : 0 ≤ f ∧ f ≤ Never
    · simp only [decide_eq_true c1, if_true]
      by_cases c2 : f = 4611686018427387904
      · simp only [if_pos c2]; exact no _ rfl
      by_cases c3 : long < 1
      · simp only [if_neg c2, if_pos c3]; exact no _ rfl
      simp only [if_neg c2, if_neg c3, samt, Option.bind_some]
      refine no _ ?_
      rw [decide_eq_false (fun c => h ⟨c0, ⟨c1.1, by have := c1.2; unfold Never at this ⊢; omega⟩, by omega, c⟩)]; rfl
    · simp only [decide_eq_false c1, Bool.false_eq_true, if_false]
      exact no _ rfl
  · refine Ev.bind (right_no c0) ?_
    simp only [Bool.false_eq_true, if_false]
    exact no _ rfl
theorem least_fits {l : List St} {f long n m : Int} (h : IsLeast l f (pls f long) m) (hn : n ≤ 1048576) : n ≤ m ↔ Fits l long n f := ⟨fun a => ((h n).1 a).2, fun a => (h n).2 ⟨hn, a⟩⟩
end Go.Proofs.Ytimllhflecippaa.StepQ
