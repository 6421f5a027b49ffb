/- Layer 3, plainly: profiles as functions of time. -/
import Derived.Test.YtimllhflecippaaF3
import Derived.Test.YtimllhflecippaaF4
import Derived.Test.YtimllhflecippaaF6
import Derived.Test.YtimllhflecippaaF7
import Derived.Test.YtimllhflecippaaF8
import Derived.Test.YtimllhflecippaaPk
namespace Go.Proofs.Ytimllhflecippaa.StepP
open Go.RowKit Go.Proofs.YtimllhflecippaaW.PrintWords Go.Proofs.YtimllhflecippaaW.PrintMore Go.Proofs.Ytimllhflecippaa.F Go.Proofs.Ytimllhflecippaa.Pk
set_option linter.unusedSimpArgs false
set_option linter.unusedVariables false

abbrev St := S45
abbrev rdS (l : List St) (i : Int) : St := rd_T45 l i
/-- The i-th step's time and amount. -/
def At (l : List St) (i : Nat) : Int := (rdS l i).f0
def Vl (l : List St) (i : Nat) : Int := (rdS l i).f1
theorem rdS_nat (l : List St) (i : Nat) (h : i < l.length) : rdS l (i : Int) = l[i] := by
  show l.getD (i : Int).toNat _ = _
  rw [List.getD_eq_getElem?_getD]; simp [h]
theorem rdS_app {l m : List St} {i : Nat} (h : i < l.length) : rdS (l ++ m) (i : Int) = rdS l i := by
  rw [rdS_nat _ _ (by simp; omega), rdS_nat _ _ h, List.getElem_append_left h]
theorem rdS_last {l : List St} {s : St} : rdS (l ++ [s]) (l.length : Int) = s := by
  rw [rdS_nat _ _ (by simp)]; simp
def Never : Int := 4611686018427387904
def amt (n : Int) : Prop := 0 ≤ n ∧ n ≤ 1048576
instance (n : Int) : Decidable (amt n) := by unfold amt; exact inferInstance
/-- Rising from 0 on, each step says something else. -/
structure Norm (l : List St) : Prop where
  pos : 0 < l.length
  zero : At l 0 = 0
  rise : ∀ i, i + 1 < l.length → At l i < At l (i + 1) ∧ Vl l i ≠ Vl l (i + 1)
  top : ∀ i, i < l.length → At l i ≤ Never
structure Right (l : List St) : Prop extends Norm l where
  len : l.length ≤ 1024
  amts : ∀ i, i < l.length → amt (Vl l i)
theorem Norm.lt {l : List St} (h : Norm l) : ∀ {i j : Nat}, i < j → j < l.length → At l i < At l j
  | i, 0, hi, _ => by omega
  | i, j + 1, hi, hj => by
    have h1 := (h.rise j hj).1
    rcases Nat.lt_or_ge i j with h2 | h2
    · have := Norm.lt h h2 (by omega); omega
    · have : i = j := by omega
      subst this; exact h1
theorem Norm.le {l : List St} (h : Norm l) {i j : Nat} (hij : i ≤ j) (hj : j < l.length) : At l i ≤ At l j := by
  rcases Nat.lt_or_ge i j with h1 | h1
  · exact Int.le_of_lt (h.lt h1 hj)
  · have : i = j := by omega
    subst this; exact Int.le_refl _
theorem Norm.ge0 {l : List St} (h : Norm l) {i : Nat} (hi : i < l.length) : 0 ≤ At l i := by have := h.le (Nat.zero_le i) hi; rw [h.zero] at this; exact this
/-- Step i holds at t. -/
def IsPl (l : List St) (t : Int) (i : Nat) : Prop := i < l.length ∧ At l i ≤ t ∧ (i + 1 < l.length → t < At l (i + 1))
theorem IsPl.uniq {l : List St} (h : Norm l) {t : Int} {i j : Nat} (hi : IsPl l t i) (hj : IsPl l t j) : i = j := by
  rcases Nat.lt_trichotomy i j with h1 | h1 | h1
  · have h2 := hi.2.2 (by have := hj.1; omega)
    have h3 := h.le (i := i + 1) (j := j) h1 hj.1
    have h4 := hj.2.1
    omega
  · exact h1
  · have h2 := hj.2.2 (by have := hi.1; omega)
    have h3 := h.le (i := j + 1) (j := i) h1 hi.1
    have h4 := hi.2.1
    omega
theorem IsPl.ex {l : List St} (h : Norm l) {t : Int} (ht : 0 ≤ t) : ∃ i, IsPl l t i := by
  have key : ∀ n, n < l.length → At l 0 ≤ t → (∃ i, IsPl l t i) ∨ At l n ≤ t := by
    intro n
    induction n with
    | zero => intro _ h0; exact .inr h0
    | succ n ih =>
      intro hn h0
      rcases ih (by omega) h0 with h1 | h1
      · exact .inl h1
      · by_cases h2 : At l (n + 1) ≤ t
        · exact .inr h2
        · exact .inl ⟨n, by omega, h1, fun _ => by omega⟩
  rcases key (l.length - 1) (by have := h.pos; omega) (by rw [h.zero]; exact ht) with h1 | h1
  · exact h1
  · exact ⟨l.length - 1, by have := h.pos; omega, h1, fun hc => by have := h.pos; omega⟩
open Classical in
/-- The step that holds, and what it says. -/
noncomputable def pl (l : List St) (t : Int) : Nat := if h : ∃ i, IsPl l t i then h.choose else 0
noncomputable def val (l : List St) (t : Int) : Int := Vl l (pl l t)
theorem pl_spec {l : List St} (h : Norm l) {t : Int} (ht : 0 ≤ t) : IsPl l t (pl l t) := by
  unfold pl
  rw [dif_pos (IsPl.ex h ht)]
  exact (IsPl.ex h ht).choose_spec
theorem pl_eq {l : List St} (h : Norm l) {t : Int} {i : Nat} (hi : IsPl l t i) : pl l t = i := by
  have h0 : 0 ≤ t := by have := hi.2.1; have := h.ge0 hi.1; omega
  exact IsPl.uniq h (pl_spec h h0) hi
theorem val_eq {l : List St} (h : Norm l) {t : Int} {i : Nat} (hi : IsPl l t i) : val l t = Vl l i := by unfold val; rw [pl_eq h hi]
theorem val_at {l : List St} (h : Norm l) {i : Nat} (hi : i < l.length) : val l (At l i) = Vl l i := val_eq h ⟨hi, Int.le_refl _, fun h1 => (h.rise i h1).1⟩
theorem Right.val_amt {l : List St} (h : Right l) {t : Int} (ht : 0 ≤ t) : amt (val l t) := h.amts _ (pl_spec h.toNorm ht).1
/-- Who says the same at all times is the same. -/
theorem Norm.ext {p q : List St} (hp : Norm p) (hq : Norm q) (h : ∀ t, 0 ≤ t → t ≤ Never → val p t = val q t) : p = q := by
  have one : ∀ (p q : List St), Norm p → Norm q → (∀ t, 0 ≤ t → t ≤ Never → val p t = val q t) → ∀ i, (∀ j, j ≤ i → j < p.length ∧ j < q.length ∧ At p j = At q j ∧ Vl p j = Vl q j) → i + 1 < p.length → i + 1 < q.length ∧ At q (i + 1) ≤ At p (i + 1) := by
    intro p q hp hq h i hi h1
    have h0 := hi i (Nat.le_refl _)
    have ht0 := hp.ge0 h1
    have htn := hp.top _ h1
    have hv := h _ ht0 htn
    rw [val_at hp h1] at hv
    have hne := (hp.rise i h1).2
    by_cases hc : i + 1 < q.length ∧ At q (i + 1) ≤ At p (i + 1)
    · exact hc
    · have : IsPl q (At p (i + 1)) i := ⟨h0.2.1, by have := (hp.rise i h1).1; rw [← h0.2.2.1]; omega, fun h2 => by
        have : ¬ At q (i + 1) ≤ At p (i + 1) := fun h3 => hc ⟨h2, h3⟩
        omega⟩
      rw [val_eq hq this, ← h0.2.2.2] at hv
      exact absurd hv.symm hne
  have key : ∀ i, i < p.length → (∀ j, j ≤ i → j < p.length ∧ j < q.length ∧ At p j = At q j ∧ Vl p j = Vl q j) := by
    intro i
    induction i with
    | zero =>
      intro hi j hj
      have : j = 0 := by omega
      subst this
      refine ⟨hi, hq.pos, by rw [hp.zero, hq.zero], ?_⟩
      have := h 0 (by omega) (by unfold Never; omega)
      have e1 := val_at hp hp.pos
      have e2 := val_at hq hq.pos
      rw [hp.zero] at e1
      rw [hq.zero] at e2
      rw [← e1, ← e2, this]
    | succ i ih =>
      intro hi j hj
      have hI := ih (by omega)
      rcases Nat.lt_or_ge j (i + 1) with h1 | h1
      · exact hI j (by omega)
      · have : j = i + 1 := by omega
        subst this
        have h2 := one p q hp hq h i hI hi
        have h3 := one q p hq hp (fun t a b => (h t a b).symm) i (fun j hj => by have := hI j hj; exact ⟨this.2.1, this.1, this.2.2.1.symm, this.2.2.2.symm⟩) h2.1
        have h4 : At p (i + 1) = At q (i + 1) := by have := h2.2; have := h3.2; omega
        refine ⟨hi, h2.1, h4, ?_⟩
        have h5 := h _ (hp.ge0 hi) (hp.top _ hi)
        rw [val_at hp hi, h4, val_at hq h2.1] at h5
        exact h5
  have hl : p.length = q.length := by
    have h1 : p.length ≤ q.length := by have := (key (p.length - 1) (by have := hp.pos; omega) (p.length - 1) (Nat.le_refl _)).2.1; omega
    rcases Nat.lt_or_ge p.length q.length with h2 | h2
    · have h3 := one q p hq hp (fun t a b => (h t a b).symm) (p.length - 1) (fun j hj => by
        have := key (p.length - 1) (by have := hp.pos; omega) j hj; exact ⟨this.2.1, this.1, this.2.2.1.symm, this.2.2.2.symm⟩) (by have := hp.pos; omega)
      have := h3.1
      have := hp.pos
      omega
    · omega
  apply List.ext_getElem hl
  intro i h1 h2
  have h3 := key i h1 i (Nat.le_refl _)
  have e1 := rdS_nat p i h1
  have e2 := rdS_nat q i h2
  have a1 : (rdS p i).f0 = (rdS q i).f0 := h3.2.2.1
  have a2 : (rdS p i).f1 = (rdS q i).f1 := h3.2.2.2
  rw [← e1, ← e2]
  cases h4 : rdS p i
  cases h5 : rdS q i
  rw [h4, h5] at a1 a2
  simp only at a1 a2
  rw [a1, a2]

/-! ### what is built step by step -/
/-- out tells g from 0 on till E. -/
structure Built (out : List St) (E : Int) (g : Int → Int) : Prop where
  nil : E ≤ 0 → out = []
  pos : 0 < E → 0 < out.length ∧ At out 0 = 0
  rise : ∀ i, i + 1 < out.length → At out i < At out (i + 1) ∧ Vl out i ≠ Vl out (i + 1)
  top : ∀ i, i < out.length → At out i < E
  tells : ∀ t i, 0 ≤ t → t < E → IsPl out t i → Vl out i = g t
theorem Built.start (g : Int → Int) : Built [] 0 g := ⟨fun _ => rfl, fun h => by omega, fun i h => by simp at h, fun i h => by simp at h, fun t i h0 h1 => by omega⟩
theorem At_app {l m : List St} {i : Nat} (h : i < l.length) : At (l ++ m) i = At l i := by unfold At; rw [rdS_app h]
theorem Vl_app {l m : List St} {i : Nat} (h : i < l.length) : Vl (l ++ m) i = Vl l i := by unfold Vl; rw [rdS_app h]
theorem At_last {l : List St} {s : St} : At (l ++ [s]) l.length = s.f0 := by unfold At; rw [rdS_last]
theorem Vl_last {l : List St} {s : St} : Vl (l ++ [s]) l.length = s.f1 := by unfold Vl; rw [rdS_last]
theorem last_Vl {l : List St} (h : 0 < l.length) : l.getLast?.map (·.f1) = some (Vl l (l.length - 1)) := by
  rw [List.getLast?_eq_getElem?, List.getElem?_eq_getElem (by omega)]
  unfold Vl
  rw [rdS_nat _ _ (by omega)]
  rfl
theorem Built.add {out : List St} {E E' f : Int} {g : Int → Int} (h : Built out E g) (h0 : 0 ≤ E) (h1 : E < E') (hf : ∀ t, E ≤ t → t < E' → g t = f) : Built (addS out E f) E' g := by
  by_cases hz : E = 0
  · subst hz
    have := h.nil (Int.le_refl _)
    subst this
    have e : addS ([] : List St) 0 f = [⟨0, f⟩] := by simp [addS]
    rw [e]
    have ea : At [(⟨0, f⟩ : St)] 0 = 0 := rfl
    have ev : Vl [(⟨0, f⟩ : St)] 0 = f := rfl
    refine ⟨fun h => by omega, fun _ => ⟨by simp, ea⟩, fun i hi => by simp at hi, fun i hi => ?_, fun t i ht0 ht1 hi => ?_⟩
    · have : i = 0 := by simpa using hi
      subst this; rw [ea]; omega
    · have : i = 0 := by simpa using hi.1
      subst this; rw [ev, hf t ht0 ht1]
  · have hp := h.pos (by omega)
    unfold addS
    rw [last_Vl hp.1]
    by_cases hl : Vl out (out.length - 1) = f
    · rw [if_pos (by rw [hl])]
      refine ⟨fun h => by omega, fun _ => hp, h.rise, fun i hi => by have := h.top i hi; omega, fun t i ht0 ht1 hi => ?_⟩
      rcases Int.lt_or_le t E with h2 | h2
      · exact h.tells t i ht0 h2 hi
      · have : i = out.length - 1 := by
          rcases Nat.lt_or_ge (i + 1) out.length with h3 | h3
          · have := hi.2.2 h3; have := h.top _ h3; omega
          · have := hi.1; omega
        rw [this, hl, hf t h2 ht1]
    · rw [if_neg (by simpa using hl)]
      have hlen : (out ++ [(⟨E, f⟩ : St)]).length = out.length + 1 := by simp
      refine ⟨fun h => by omega, fun _ => ⟨by omega, by rw [At_app hp.1]; exact hp.2⟩, fun i hi => ?_, fun i hi => ?_, fun t i ht0 ht1 hi => ?_⟩
      · rw [hlen] at hi
        rcases Nat.lt_or_ge (i + 1) out.length with h3 | h3
        · rw [At_app (by omega), At_app h3, Vl_app (by omega), Vl_app h3]; exact h.rise i h3
        · have : i + 1 = out.length := by omega
          rw [this, At_last, Vl_last, At_app (by omega), Vl_app (by omega)]
          refine ⟨h.top i (by omega), ?_⟩
          have e : i = out.length - 1 := by omega
          rw [e]; exact hl
      · rw [hlen] at hi
        rcases Nat.lt_or_ge i out.length with h3 | h3
        · rw [At_app h3]; have := h.top i h3; omega
        · have : i = out.length := by omega
          rw [this, At_last]; exact h1
      · have hil := hi.1
        rw [hlen] at hil
        rcases Nat.lt_or_ge i out.length with h3 | h3
        · have h4 : t < E := by
            rcases Nat.lt_or_ge (i + 1) out.length with h5 | h5
            · have := hi.2.2 (by omega); rw [At_app h5] at this; have := h.top _ h5; omega
            · have := hi.2.2 (by omega)
              rw [show i + 1 = out.length by omega, At_last] at this
              exact this
          rw [Vl_app h3]
          refine h.tells t i ht0 h4 ⟨h3, by have := hi.2.1; rw [At_app h3] at this; exact this, fun h5 => by have := hi.2.2 (by omega); rw [At_app h5] at this; exact this⟩
        · have : i = out.length := by omega
          subst this
          have := hi.2.1
          rw [At_last] at this
          rw [Vl_last]
          exact (hf t this ht1).symm
theorem Built.norm {out : List St} {g : Int → Int} (h : Built out (Never + 1) g) : Norm out ∧ ∀ t, 0 ≤ t → t ≤ Never → val out t = g t := by
  have hp := h.pos (by unfold Never; omega)
  have hn : Norm out := ⟨hp.1, hp.2, h.rise, fun i hi => by have := h.top i hi; omega⟩
  exact ⟨hn, fun t h0 h1 => h.tells t _ h0 (by omega) (pl_spec hn h0)⟩

/-- So much more in a span. -/
def more (f t n x v : Int) : Int := if f ≤ x ∧ x < t then v + n else v
theorem plusE_eq (l : List St) (i : Nat) : plusE l i = if i + 1 < l.length then At l (i + 1) else Never + 1 := by
  unfold plusE At Never
  by_cases h : i + 1 < l.length
  · rw [if_pos (by omega), if_pos h]; rfl
  · rw [if_neg (by omega), if_neg h]; rfl
theorem plus_built {l : List St} (h : Right l) {f t n : Int} (h0 : 0 ≤ f) (h1 : f < t) (h2 : t ≤ Never) (hn : -1048576 ≤ n ∧ n ≤ 1048576) : ∀ i, i ≤ l.length → Built (plusN l f t n i) (if i < l.length then At l i else Never + 1) (fun x => more f t n x (val l x))
  | 0, _ => by
    rw [if_pos h.pos, h.zero]
    exact Built.start _
  | i + 1, hi => by
    have ih := plus_built h h0 h1 h2 hn i (by omega)
    rw [if_pos (by omega)] at ih
    have hlt : i < l.length := by omega
    have hE := plusE_eq l i
    have hs0 := h.ge0 hlt
    have hsn := h.top i hlt
    have hse : At l i < plusE l i := by
      rw [hE]
      split
      · exact (h.rise i (by assumption)).1
      · omega
    have hen : plusE l i ≤ Never + 1 := by
      rw [hE]
      split
      · have := h.top (i + 1) (by assumption); omega
      · omega
    have hv : ∀ x, At l i ≤ x → x < plusE l i → val l x = Vl l i := fun x a b => val_eq h.toNorm ⟨hlt, a, fun hc => by rw [hE, if_pos hc] at b; exact b⟩
    have ham := h.amts i hlt
    unfold amt at ham
    have hw : wrap64 (Vl l i + n) = Vl l i + n := w64 (by omega) (by omega)
    rw [← hE]
    show Built (plus3 l f t n i (plus2 l f t n i (plus1 l f t n i (plusN l f t n i)))) (plusE l i) _
    generalize hpe : plusE l i = e at hse hen hv ⊢
    have hA : (rd_T45 l (i : Int)).f0 = At l i := rfl
    have hV : (rd_T45 l (i : Int)).f1 = Vl l i := rfl
    generalize hs : At l i = s at ih hse hs0 hsn hv hA
    generalize hvv : Vl l i = v at hv ham hw hV
    have b1 : Built (plus1 l f t n i (plusN l f t n i)) (if s < f then (if e < f then e else f) else s) (fun x => more f t n x (val l x)) := by
      unfold plus1
      rw [hA, hV]
      by_cases c : s < f
      · rw [if_pos c, if_pos c]
        refine ih.add hs0 (by split <;> omega) (fun x a b => ?_)
        have hx : x < e ∧ x < f := by split at b <;> omega
        rw [hv x a hx.1]
        unfold more
        rw [if_neg (by omega)]
      · rw [if_neg c, if_neg c]; exact ih
    generalize plus1 l f t n i (plusN l f t n i) = o1 at b1 ⊢
    have b2 : Built (plus2 l f t n i o1) (if (if s < f then f else s) < (if t < e then t else e) then (if t < e then t else e) else (if s < f then (if e < f then e else f) else s)) (fun x => more f t n x (val l x)) := by
      unfold plus2
      rw [hA, hV, hpe, mx_eq, mn_eq, hw]
      by_cases c : (if s < f then f else s) < (if t < e then t else e)
      · rw [if_pos c, if_pos c]
        have he : (if s < f then (if e < f then e else f) else s) = (if s < f then f else s) := by
          by_cases c1 : s < f
          · rw [if_pos c1, if_pos c1]; rw [if_pos c1] at c; split at c <;> rw [if_neg (by omega)]
          · rw [if_neg c1, if_neg c1]
        rw [he] at b1
        refine b1.add (by split <;> omega) c (fun x a b => ?_)
        have hx : s ≤ x ∧ f ≤ x ∧ x < e ∧ x < t := by split at a <;> split at b <;> omega
        rw [hv x hx.1 hx.2.2.1]
        unfold more
        rw [if_pos ⟨hx.2.1, hx.2.2.2⟩]
      · rw [if_neg c, if_neg c]; exact b1
    generalize plus2 l f t n i o1 = o2 at b2 ⊢
    unfold plus3
    rw [hA, hV, hpe, mx_eq]
    by_cases c : t < e
    · rw [if_pos c]
      have he : (if (if s < f then f else s) < (if t < e then t else e) then (if t < e then t else e) else (if s < f then (if e < f then e else f) else s)) = (if s < t then t else s) := by
        rw [if_pos c]
        by_cases c1 : s < f
        · rw [if_pos c1, if_pos h1, if_pos (by omega)]
        · rw [if_neg c1]
          by_cases c2 : s < t
          · rw [if_pos c2, if_pos c2]
          · rw [if_neg c2, if_neg c2, if_neg c1]
      rw [he] at b2
      refine b2.add (by split <;> omega) (by split <;> omega) (fun x a b => ?_)
      have hx : s ≤ x ∧ t ≤ x := by split at a <;> omega
      rw [hv x hx.1 b]
      unfold more
      rw [if_neg (by omega)]
    · rw [if_neg c]
      have he : (if (if s < f then f else s) < (if t < e then t else e) then (if t < e then t else e) else (if s < f then (if e < f then e else f) else s)) = e := by
        rw [if_neg c]
        by_cases c1 : s < f
        · rw [if_pos c1]
          by_cases c2 : f < e
          · rw [if_pos c2]
          · rw [if_neg c2, if_pos c1]
            by_cases c3 : e < f
            · rw [if_pos c3]
            · rw [if_neg c3]; omega
        · rw [if_neg c1, if_pos hse]
      rw [he] at b2
      exact b2
/-- What plus makes tells what it told, and so much more in the span. -/
theorem plus_norm {l : List St} (h : Right l) {f t n : Int} (h0 : 0 ≤ f) (h1 : f < t) (h2 : t ≤ Never) (hn : -1048576 ≤ n ∧ n ≤ 1048576) : Norm (plusN l f t n l.length) ∧ ∀ x, 0 ≤ x → x ≤ Never → val (plusN l f t n l.length) x = more f t n x (val l x) := by
  have := plus_built h h0 h1 h2 hn l.length (Nat.le_refl _)
  rw [if_neg (by omega)] at this
  exact this.norm
end Go.Proofs.Ytimllhflecippaa.StepP
