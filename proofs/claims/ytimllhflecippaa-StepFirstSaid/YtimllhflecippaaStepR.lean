/- Layer 3, plainly: the reference's answers. -/
import Derived.Test.YtimllhflecippaaF13
import Derived.Test.YtimllhflecippaaStepQ
namespace Go.Proofs.Ytimllhflecippaa.StepR
open Go.RowKit Go.Proofs.YtimllhflecippaaW.PrintWords Go.Proofs.YtimllhflecippaaW.PrintMore Go.Proofs.Ytimllhflecippaa.F Go.Proofs.Ytimllhflecippaa.Pk Go.Proofs.Ytimllhflecippaa.StepP Go.Proofs.Ytimllhflecippaa.StepQ
set_option linter.unusedSimpArgs false
set_option linter.unusedVariables false


/-! ### the reference -/
theorem rnear_ev (a : Int) : bailiwickref02_Near.f a = some (nr a) := by
  unfold bailiwickref02_Near.f nr Never
  by_cases c1 : a < 0
  · rw [if_pos c1, if_pos c1]
  rw [if_neg c1, if_neg c1]
  by_cases c2 : 4611686018427387904 < a
  · rw [if_pos c2, if_pos c2]
  rw [if_neg c2, if_neg c2, IntKind.wrap_u64]
  congr 1
  omega
theorem rplus_ev (a b : Int) : bailiwickref02_Plus.f a b = some (pls a b) := by
  unfold bailiwickref02_Plus.f
  simp only [rnear_ev, Option.bind_some]
  have h1 := nr_rng a
  have h2 := nr_rng b
  unfold Never at h1 h2
  unfold pls Never
  generalize nr a = x at *
  generalize nr b = y at *
  have e : IntKind.u64.wrap (x + y) = x + y := by rw [IntKind.wrap_u64]; omega
  rw [e]
  by_cases c : x + y > 4611686018427387904
  · rw [if_pos c, if_pos c]
  · rw [if_neg c, if_neg c, w64 (by omega) (by omega)]

theorem rright_loop (l : List St) (hl : l.length ≤ 1024) : ∀ (d i : Nat) (b : Bool), l.length - i = d → i ≤ l.length → (b = true ↔ ∀ j, i ≤ j → j < l.length → good l j) → Ev (fun k => bailiwickref03_Right.l0 k l (i : Int)) b
  | 0, i, b, hd, hi, hb => by
    rw [bool_true hb (fun j h1 h2 => by omega)]
    refine Ev.step (f := fun _ => some true) (fun k => ?_) (Ev.now _)
    simp only [bailiwickref03_Right.l0]
    rw [if_neg (by omega)]
  | d + 1, i, b, hd, hi, hb => by
    have hlt : i < l.length := by omega
    rw [all_step hlt] at hb
    have q1 : (i : Int) < (l.length : Int) := by omega
    have q2 : (0 : Int) ≤ (i : Int) := by omega
    have no : ¬ good l i → Ev (fun k => bailiwickref03_Right.j2 k l (i : Int) true) b := by
      intro h
      rw [bool_false hb (fun h' => h h'.1)]
      exact Ev.step (f := fun _ => some false) (fun k => by simp only [bailiwickref03_Right.j2, if_true]) (Ev.now _)
    by_cases a1 : Vl l i < 0
    · refine Ev.step (fun k => ?_) (no (fun h => by have := h.1.1; omega))
      simp only [bailiwickref03_Right.l0, at_, vl_, if_pos q1, if_pos q2, if_pos a1]
    by_cases a2 : Vl l i > 1048576
    · refine Ev.step (fun k => ?_) (no (fun h => by have := h.1.2; omega))
      simp only [bailiwickref03_Right.l0, at_, vl_, if_pos q1, if_pos q2, if_neg a1, if_pos a2]
    by_cases a3 : At l i < 0
    · refine Ev.step (fun k => ?_) (no (fun h => by have := h.2.1.1; omega))
      simp only [bailiwickref03_Right.l0, at_, vl_, if_pos q1, if_pos q2, if_neg a1, if_neg a2, if_pos a3]
    by_cases a4 : At l i > 4611686018427387904
    · refine Ev.step (fun k => ?_) (no (fun h => by have := h.2.1.2; unfold Never at this; omega))
      simp only [bailiwickref03_Right.l0, at_, vl_, if_pos q1, if_pos q2, if_neg a1, if_neg a2, if_neg a3, decide_eq_true a4]
    refine Ev.step (f := fun k => bailiwickref03_Right.j2 k l (i : Int) false) (fun k => ?_) ?_
    · simp only [bailiwickref03_Right.l0, at_, vl_, if_pos q1, if_pos q2, if_neg a1, if_neg a2, if_neg a3, decide_eq_false a4]
    by_cases c3 : 0 < i
    · have e1 := pv i (by omega) c3
      have q3 : (i : Int) > 0 := by clear e1; omega
      have q4 : (0 : Int) ≤ ((i - 1 : Nat) : Int) := by clear e1; omega
      have q5 : ((i - 1 : Nat) : Int) < (l.length : Int) := by clear e1; omega
      by_cases c4 : At l i ≤ At l (i - 1)
      · rw [bool_false hb (fun hg => by have := (hg.1.2.2 c3).1; omega)]
        refine Ev.step (f := fun _ => some false) (fun k => ?_) (Ev.now _)
        simp only [bailiwickref03_Right.j2, Bool.false_eq_true, if_false, at_, vl_, if_pos q1, if_pos q2, if_pos q3, e1, if_pos q4, if_pos q5, if_pos c4]
      · by_cases c5 : Vl l i = Vl l (i - 1)
        · rw [bool_false hb (fun hg => (hg.1.2.2 c3).2 c5)]
          refine Ev.step (f := fun _ => some false) (fun k => ?_) (Ev.now _)
          simp only [bailiwickref03_Right.j2, Bool.false_eq_true, if_false, at_, vl_, if_pos q1, if_pos q2, if_pos q3, e1, if_pos q4, if_pos q5, if_neg c4, if_pos c5]
        · refine Ev.step (fun k => ?_) (rright_loop l hl d (i + 1) b (by omega) (by omega) (hb.trans ⟨fun h => h.2, fun h => ⟨⟨⟨by omega, by omega⟩, ⟨by omega, by unfold Never; omega⟩, fun _ => ⟨by omega, c5⟩⟩, h⟩⟩))
          simp only [bailiwickref03_Right.j2, Bool.false_eq_true, if_false, at_, vl_, if_pos q1, if_pos q2, if_pos q3, e1, if_pos q4, if_pos q5, if_neg c4, if_neg c5, nx i (by omega)]
    · have q3 : ¬ (i : Int) > 0 := by omega
      refine Ev.step (fun k => ?_) (rright_loop l hl d (i + 1) b (by omega) (by omega) (hb.trans ⟨fun h => h.2, fun h => ⟨⟨⟨by omega, by omega⟩, ⟨by omega, by unfold Never; omega⟩, fun h => absurd h c3⟩, h⟩⟩))
      simp only [bailiwickref03_Right.j2, Bool.false_eq_true, if_false, if_neg q3, nx i (by omega)]
theorem rright_ev (l : List St) (b : Bool) (hb : b = true ↔ Right l) : Ev (fun k => bailiwickref03_Right.f k l) b := by
  have no : ¬ Right l → ∀ c, c = true → Ev (fun k => bailiwickref03_Right.j0 k l c) b := by
    rintro h _ rfl
    rw [bool_false hb h]
    exact Ev.step (f := fun _ => some false) (fun k => by simp only [bailiwickref03_Right.j0, if_true]) (Ev.now _)
  rw [right_iff] at no
  by_cases c1 : (l.length : Int) = 0
  · refine Ev.congr (fun k => ?_) (no (fun h => by have := h.1; omega) _ rfl)
    simp only [bailiwickref03_Right.f, if_pos c1]
  by_cases c2 : (l.length : Int) > 1024
  · refine Ev.congr (fun k => ?_) (no (fun h => by have := h.2.1; omega) _ rfl)
    simp only [bailiwickref03_Right.f, if_neg c1, if_pos c2]
  have q : (0 : Int) < (l.length : Int) := by omega
  have a0 : (rdS l 0).f0 = At l 0 := rfl
  by_cases c3 : At l 0 = 0
  · refine Ev.congr (f := fun k => bailiwickref03_Right.j0 k l false) (fun k => ?_) ?_
    · simp only [bailiwickref03_Right.f, if_neg c1, if_neg c2, if_pos q, a0, c3]; rfl
    · refine Ev.step (fun k => ?_) (rright_loop l (by omega) l.length 0 b (by omega) (by omega) (hb.trans ((right_iff l).trans ⟨fun h => h.2.2.2, fun h => ⟨by omega, by omega, c3, h⟩⟩)))
      simp only [bailiwickref03_Right.j0, Bool.false_eq_true, if_false]; rfl
  · refine Ev.congr (fun k => ?_) (no (fun h => c3 h.2.2.1) _ rfl)
    simp only [bailiwickref03_Right.f, if_neg c1, if_neg c2, if_pos q, a0, bne, beq_false_of_ne c3]; rfl
theorem rright_yes {l : List St} (h : Right l) : Ev (fun k => bailiwickref03_Right.f k l) true := rright_ev l true ⟨fun _ => h, fun _ => rfl⟩
theorem rright_no {l : List St} (h : ¬ Right l) : Ev (fun k => bailiwickref03_Right.f k l) false := rright_ev l false ⟨fun h' => Bool.noConfusion h', fun h' => absurd h' h⟩
theorem rat_loop {l : List St} (h : Right l) {t : Int} (ht : 0 ≤ t) : ∀ (d i : Nat) (a : Int), l.length - i = d → i ≤ l.length → (pl l t < i → a = val l t) → Ev (fun k => bailiwickref03_at.l0 k l t a (i : Int)) (val l t)
  | 0, i, a, hd, hi, ha => by
    rw [← ha (by have := (pl_spec h.toNorm ht).1; omega)]
    refine Ev.step (f := fun _ => some a) (fun k => ?_) (Ev.now _)
    simp only [bailiwickref03_at.l0]
    rw [if_neg (by omega)]
  | d + 1, i, a, hd, hi, ha => by
    have hlt : i < l.length := by omega
    have q1 : (i : Int) < (l.length : Int) := by omega
    have q2 : (0 : Int) ≤ (i : Int) := by omega
    have hp := pl_spec h.toNorm ht
    by_cases c : At l i ≤ t
    · refine Ev.step (fun k => ?_) (rat_loop h ht d (i + 1) (Vl l i) (by omega) (by omega) (fun hl => ?_))
      · simp only [bailiwickref03_at.l0, if_pos q1, if_pos q2, at_, vl_, if_pos c, nx i (by have := h.len; omega)]
      · rcases Nat.lt_or_ge (pl l t) i with c1 | c1
        · have h1 := hp.2.2 (by omega)
          have := h.toNorm.le (i := pl l t + 1) (j := i) (by omega) hlt
          omega
        · have : pl l t = i := by omega
          unfold val; rw [this]
    · refine Ev.step (fun k => ?_) (rat_loop h ht d (i + 1) a (by omega) (by omega) (fun hl => ?_))
      · simp only [bailiwickref03_at.l0, if_pos q1, if_pos q2, at_, vl_, if_neg c, nx i (by have := h.len; omega)]
      · rcases Nat.lt_or_ge (pl l t) i with c1 | c1
        · exact ha c1
        · have : pl l t = i := by omega
          rw [this] at hp
          exact absurd hp.2.1 c
theorem rat_ev {l : List St} (h : Right l) {t : Int} (ht : 0 ≤ t) : Ev (fun k => bailiwickref03_at.f k l t) (val l t) := rat_loop h ht l.length 0 0 (by omega) (by omega) (fun h => by omega)
theorem rleast_loop {l : List St} (h : Right l) (f t : Int) : ∀ (d i : Nat) (a : Int), l.length - i = d → i ≤ l.length → ∃ m, Ev (fun k => bailiwickref03_Least.l0 k l f t a (i : Int)) m ∧ ∀ n, n ≤ m ↔ (n ≤ a ∧ ∀ j, i ≤ j → j < l.length → f < At l j → At l j < t → n ≤ Vl l j)
  | 0, i, a, hd, hi => by
    refine ⟨a, Ev.step (f := fun _ => some a) (fun k => ?_) (Ev.now _), fun n => ⟨fun hn => ⟨hn, fun j h1 h2 => by omega⟩, fun hn => hn.1⟩⟩
    simp only [bailiwickref03_Least.l0]
    rw [if_neg (by omega)]
  | d + 1, i, a, hd, hi => by
    have hlt : i < l.length := by omega
    have q1 : (i : Int) < (l.length : Int) := by omega
    have q2 : (0 : Int) ≤ (i : Int) := by omega
    by_cases c : At l i > f
    · by_cases c1 : At l i < t
      · by_cases c2 : Vl l i < a
        · obtain ⟨m, hev, hm⟩ := rleast_loop h f t d (i + 1) (Vl l i) (by omega) (by omega)
          refine ⟨m, Ev.step (fun k => ?_) hev, fun n => ?_⟩
          · simp only [bailiwickref03_Least.l0, if_pos q1, if_pos q2, at_, vl_, if_pos c, if_pos c1, if_pos c2, nx i (by have := h.len; omega)]
          · rw [hm n, all_step hlt]
            exact ⟨fun ⟨x, y⟩ => ⟨by omega, fun _ _ => x, y⟩, fun ⟨x, y, z⟩ => ⟨y c c1, z⟩⟩
        · obtain ⟨m, hev, hm⟩ := rleast_loop h f t d (i + 1) a (by omega) (by omega)
          refine ⟨m, Ev.step (fun k => ?_) hev, fun n => ?_⟩
          · simp only [bailiwickref03_Least.l0, if_pos q1, if_pos q2, at_, vl_, if_pos c, if_pos c1, if_neg c2, nx i (by have := h.len; omega)]
          · rw [hm n, all_step hlt]
            exact ⟨fun ⟨x, y⟩ => ⟨x, fun _ _ => by omega, y⟩, fun ⟨x, y, z⟩ => ⟨x, z⟩⟩
      · obtain ⟨m, hev, hm⟩ := rleast_loop h f t d (i + 1) a (by omega) (by omega)
        refine ⟨m, Ev.step (fun k => ?_) hev, fun n => ?_⟩
        · simp only [bailiwickref03_Least.l0, if_pos q1, if_pos q2, at_, vl_, if_pos c, if_neg c1, nx i (by have := h.len; omega)]
        · rw [hm n, all_step hlt]
          exact ⟨fun ⟨x, y⟩ => ⟨x, fun _ h' => absurd h' c1, y⟩, fun ⟨x, y, z⟩ => ⟨x, z⟩⟩
    · obtain ⟨m, hev, hm⟩ := rleast_loop h f t d (i + 1) a (by omega) (by omega)
      refine ⟨m, Ev.step (fun k => ?_) hev, fun n => ?_⟩
      · simp only [bailiwickref03_Least.l0, if_pos q1, if_pos q2, at_, vl_, if_neg c, nx i (by have := h.len; omega)]
      · rw [hm n, all_step hlt]
        exact ⟨fun ⟨x, y⟩ => ⟨x, fun h' => absurd h' c, y⟩, fun ⟨x, y, z⟩ => ⟨x, z⟩⟩
/-- The span's steps: that which holds at its begin, and those that begin in it. -/
theorem span_iff2 {l : List St} (h : Norm l) {f t : Int} (h0 : 0 ≤ f) (h1 : f < t) (P : Int → Prop) : (∀ x, f ≤ x → x < t → P (val l x)) ↔ P (val l f) ∧ ∀ j, 0 ≤ j → j < l.length → f < At l j → At l j < t → P (Vl l j) := by
  have hp := pl_spec h h0
  constructor
  · intro a
    refine ⟨a f (Int.le_refl _) h1, fun j _ h3 h4 h5 => ?_⟩
    have := a (At l j) (by omega) h5
    rwa [val_at h h3] at this
  · rintro ⟨a, b⟩ x h2 h3
    have hx := pl_spec h (t := x) (by omega)
    by_cases c : f < At l (pl l x)
    · exact b _ (by omega) hx.1 c (by have := hx.2.1; omega)
    · have : IsPl l f (pl l x) := ⟨hx.1, by omega, fun hn => by have := hx.2.2 hn; omega⟩
      rw [← pl_eq h this] at hx
      unfold val at a ⊢
      rwa [pl_eq h this] at a
theorem rleast_ev {l : List St} (h : Right l) {f t : Int} (h0 : 0 ≤ f) (h1 : f < t) : ∃ m, Ev (fun k => bailiwickref03_Least.f k l f t) m ∧ IsLeast l f t m := by
  obtain ⟨m, hev, hm⟩ := rleast_loop h f t l.length 0 (val l f) (by omega) (by omega)
  refine ⟨m, Ev.bind (rat_ev h h0) hev, fun n => ?_⟩
  rw [hm n, span_iff2 h.toNorm h0 h1 (fun v => n ≤ v)]
  have := (h.val_amt h0).2
  exact ⟨fun a => ⟨by have := a.1; omega, a⟩, fun a => a.2⟩

/-- Where it fits, it fits as soon as the step begins, too. -/
theorem fits_back {l : List St} (h : Right l) {f long n x : Int} (hf : 0 ≤ f) (hlong : 1 ≤ long) (h1 : f ≤ x) (h2 : x < Never) (hx : Fits l long n x) : Fits l long n (if At l (pl l x) < f then f else At l (pl l x)) := by
  have hp := pl_spec h.toNorm (t := x) (by omega)
  have hgt := pls_gt (by omega) h2 hlong
  generalize hs : (if At l (pl l x) < f then f else At l (pl l x)) = s
  have s1 : f ≤ s ∧ At l (pl l x) ≤ s ∧ s ≤ x := by have := hp.2.1; split at hs <;> omega
  intro y hy1 hy2
  rcases Int.lt_or_le y x with c | c
  · have e : val l y = val l x := by
      rw [val_eq h.toNorm (i := pl l x) ⟨hp.1, by omega, fun hn => by have := hp.2.2 hn; omega⟩]; rfl
    rw [e]
    exact hx x (Int.le_refl _) hgt.1
  · exact hx y c (by have := pls_le (by omega) s1.2.2 (by omega) hlong; omega)
/-- The i-th time that the reference tries: first the begin, then each step's. -/
def cand (l : List St) (f : Int) (i : Nat) : Int := if i = 0 then f else At l (i - 1)
theorem rfirst_loop {l : List St} (h : Right l) {f long n : Int} (hf : 0 ≤ f) (hfn : f < Never) (hlong : 1 ≤ long) (hn : amt n) : ∀ (d i : Nat), l.length + 1 - i = d → i ≤ l.length + 1 → (∀ j, j < i → f ≤ cand l f j → cand l f j < Never → ¬ Fits l long n (cand l f j)) →
    ∃ r, Ev (fun k => bailiwickref03_First.l0 k l f long n ((i : Int) - 1)) r ∧ FirstIs l f long n r := by
  intro d
  have back : ∀ i, (∀ j, j < i → f ≤ cand l f j → cand l f j < Never → ¬ Fits l long n (cand l f j)) → ∀ x, f ≤ x → x < Never → (f < At l (pl l x) → pl l x + 1 < i) → 0 < i → ¬ Fits l long n x := by
    intro i hc x h1 h2 h3 h4 hx
    have hb := fits_back h hf hlong h1 h2 hx
    have hp := pl_spec h.toNorm (t := x) (by omega)
    by_cases c : f < At l (pl l x)
    · rw [if_neg (by omega)] at hb
      have e : cand l f (pl l x + 1) = At l (pl l x) := by unfold cand; rw [if_neg (by omega)]; rfl
      exact hc (pl l x + 1) (h3 c) (by omega) (by have := hp.2.1; omega) (by rw [e]; exact hb)
    · have e : (if At l (pl l x) < f then f else At l (pl l x)) = f := by split <;> omega
      rw [e] at hb
      exact hc 0 h4 (by unfold cand; simp) (by unfold cand; simpa using hfn) (by unfold cand; simpa using hb)
  induction d with
  | zero =>
    intro i hd hi hc
    have : i = l.length + 1 := by omega
    subst this
    refine ⟨(0, false), Ev.step (f := fun _ => some (0, false)) (fun k => ?_) (Ev.now _), .inl ⟨rfl, fun x h1 h2 => back _ hc x h1 h2 (fun _ => by have := (pl_spec h.toNorm (t := x) (by omega)).1; omega) (by omega)⟩⟩
    simp only [bailiwickref03_First.l0]
    rw [if_neg (by omega)]
  | succ d ih =>
    intro i hd hi hc
    have hle : i ≤ l.length := by omega
    have q1 : (i : Int) - 1 < (l.length : Int) := by omega
    have enx : wrap64 ((i : Int) - 1 + 1) = ((i + 1 : Nat) : Int) - 1 := by rw [w64 (by have := h.len; omega) (by have := h.len; omega)]; omega
    have main : ∃ r, Ev (fun k => bailiwickref03_First.j2 k l f long n ((i : Int) - 1) (cand l f i)) r ∧ FirstIs l f long n r := by
      have go : ¬ (f ≤ cand l f i ∧ cand l f i < Never ∧ Fits l long n (cand l f i)) → ∃ r, Ev (fun k => bailiwickref03_First.l0 k l f long n (((i + 1 : Nat) : Int) - 1)) r ∧ FirstIs l f long n r := by
        intro hno
        refine ih (i + 1) (by omega) (by omega) (fun j hj a b c => ?_)
        rcases Nat.lt_or_ge j i with c1 | c1
        · exact hc j c1 a b c
        · have : j = i := by omega
          subst this
          exact hno ⟨a, b, c⟩
      by_cases c1 : cand l f i ≥ f
      · by_cases c2 : cand l f i < 4611686018427387904
        · have hgt := pls_gt (t := cand l f i) (long := long) (by omega) (by unfold Never; omega) hlong
          obtain ⟨m, hev, hm⟩ := rleast_ev h (f := cand l f i) (by omega) hgt.1
          have hmf := least_fits (n := n) hm hn.2
          by_cases c3 : m ≥ n
          · refine ⟨(cand l f i, true), Ev.step (f := fun k => (bailiwickref03_Least.f k l (cand l f i) (pls (cand l f i) long)).bind fun t => if t ≥ n then some (cand l f i, true) else bailiwickref03_First.l0 k l f long n (((i + 1 : Nat) : Int) - 1)) (fun k => ?_) (Ev.bind hev ?_), .inr ⟨_, rfl, c1, by unfold Never; omega, hmf.1 c3, fun x h1 h2 hx => ?_⟩⟩
            · simp only [bailiwickref03_First.j2, if_pos c1, if_pos c2, rplus_ev, Option.bind_some, enx]
            · simp only [if_pos c3]; exact Ev.now _
            · rcases Nat.eq_zero_or_pos i with z | z
              · subst z
                unfold cand at h2
                rw [if_pos rfl] at h2
                omega
              · refine back i hc x h1 (by unfold Never; omega) (fun c => ?_) z hx
                have e : cand l f i = At l (i - 1) := by unfold cand; rw [if_neg (by omega)]
                rw [e] at h2
                have hp := pl_spec h.toNorm (t := x) (by omega)
                rcases Nat.lt_or_ge (pl l x + 1) i with c4 | c4
                · exact c4
                · have := h.toNorm.le (i := i - 1) (j := pl l x) (by omega) hp.1
                  have := hp.2.1
                  omega
          · obtain ⟨r, hev2, hr⟩ := go (fun hh => c3 (hmf.2 hh.2.2))
            refine ⟨r, Ev.step (f := fun k => (bailiwickref03_Least.f k l (cand l f i) (pls (cand l f i) long)).bind fun t => if t ≥ n then some (cand l f i, true) else bailiwickref03_First.l0 k l f long n (((i + 1 : Nat) : Int) - 1)) (fun k => ?_) (Ev.bind hev ?_), hr⟩
            · simp only [bailiwickref03_First.j2, if_pos c1, if_pos c2, rplus_ev, Option.bind_some, enx]
            · simp only [if_neg c3]; exact hev2
        · obtain ⟨r, hev2, hr⟩ := go (fun hh => c2 (by have := hh.2.1; unfold Never at this; exact this))
          refine ⟨r, Ev.step (fun k => ?_) hev2, hr⟩
          simp only [bailiwickref03_First.j2, if_pos c1, if_neg c2, enx]
      · obtain ⟨r, hev2, hr⟩ := go (fun hh => c1 hh.1)
        refine ⟨r, Ev.step (fun k => ?_) hev2, hr⟩
        simp only [bailiwickref03_First.j2, if_neg c1, enx]
    obtain ⟨r, hev, hr⟩ := main
    refine ⟨r, Ev.step (fun k => ?_) hev, hr⟩
    rcases Nat.eq_zero_or_pos i with z | z
    · subst z
      have q2 : ¬ ((0 : Nat) : Int) - 1 ≥ 0 := by omega
      have e : cand l f 0 = f := rfl
      simp only [bailiwickref03_First.l0, if_pos q1, if_neg q2, e]
    · obtain ⟨j, rfl⟩ : ∃ j, i = j + 1 := ⟨i - 1, by omega⟩
      have q2 : (j : Int) ≥ 0 := by omega
      have q3 : ((j + 1 : Nat) : Int) - 1 = (j : Int) := by omega
      rw [q3] at q1
      have e : cand l f (j + 1) = At l j := by unfold cand; rw [if_neg (by omega)]; rfl
      simp only [bailiwickref03_First.l0, q3, if_pos q1, if_pos q2, e, at_]
theorem rfirst_yes {l : List St} {f long n : Int} (h : FirstOk l f long n) : ∃ r, Ev (fun k => bailiwickref03_First.f k l f long n) r ∧ FirstIs l f long n r := by
  obtain ⟨h0, ⟨h1, h2⟩, h3, h4⟩ := h
  obtain ⟨r, hev, hr⟩ := rfirst_loop h0 h1 h2 h3 h4 (l.length + 1) 0 (by omega) (by omega) (fun j a => by omega)
  refine ⟨r, Ev.bind (rright_yes h0) ?_, hr⟩
  have n0 : ¬ f < 0 := by omega
  have n1 : ¬ f ≥ 4611686018427387904 := by unfold Never at h2; omega
  have n2 : ¬ long < 1 := by omega
  have n3 : ¬ n < 0 := by have := h4.1; omega
  have n4 : ¬ n > 1048576 := by have := h4.2; omega
  simp only [if_true, if_neg n0, if_neg n1, if_neg n2, if_neg n3, decide_eq_false n4]
  refine Ev.step (fun k => ?_) hev
  simp only [bailiwickref03_First.j0, Bool.false_eq_true, if_false]; rfl
theorem rfirst_no {l : List St} {f long n : Int} (h : ¬ FirstOk l f long n) : Ev (fun k => bailiwickref03_First.f k l f long n) (0, false) := by
  have no : ∀ b, b = true → Ev (fun k => bailiwickref03_First.j0 k l f long n b) (0, false) := by
    rintro _ rfl
    exact Ev.step (f := fun _ => some (0, false)) (fun k => by simp only [bailiwickref03_First.j0, if_true]) (Ev.now _)
  by_cases c0 : Right l
  · refine Ev.bind (rright_yes c0) ?_
    simp only [if_true]
    by_cases n0 : f < 0
    · simp only [if_pos n0]; exact no _ rfl
    by_cases n1 : f ≥ 4611686018427387904
    · simp only [if_neg n0, if_pos n1]; exact no _ rfl
    by_cases n2 : long < 1
    · simp only [if_neg n0, if_neg n1, if_pos n2]; exact no _ rfl
    by_cases n3 : n < 0
    · simp only [if_neg n0, if_neg n1, if_neg n2, if_pos n3]; exact no _ rfl
    simp only [if_neg n0, if_neg n1, if_neg n2, if_neg n3]
    refine no _ (decide_eq_true ?_)
    refine Classical.byContradiction fun c => h ⟨c0, ⟨by omega, by unfold Never; omega⟩, by omega, by omega, by omega⟩
  · refine Ev.bind (rright_no c0) ?_
    simp only [Bool.false_eq_true, if_false]
    exact no _ rfl
end Go.Proofs.Ytimllhflecippaa.StepR
