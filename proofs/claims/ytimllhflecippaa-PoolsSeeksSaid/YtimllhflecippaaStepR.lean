/- Layer 3, plainly: the reference's answers. -/
import Derived.Test.YtimllhflecippaaF16
import Derived.Test.YtimllhflecippaaF14

import Derived.Test.YtimllhflecippaaStepP
namespace Go.Proofs.Ytimllhflecippaa.StepR
open Go.RowKit Go.Proofs.YtimllhflecippaaW.PrintWords Go.Proofs.YtimllhflecippaaW.PrintMore Go.Proofs.Ytimllhflecippaa.F Go.Proofs.Ytimllhflecippaa.Pk Go.Proofs.Ytimllhflecippaa.StepP Go.Proofs.Ytimllhflecippaa.StepQ
set_option linter.unusedSimpArgs false
set_option linter.unusedVariables false


/-! ### the reference -/
theorem rnear_ev (a : Int) : bailiwickref02_Near.f a = some (nr a) := by
  unfold bailiwickref02_Near.f nr Never
  by_cases c1 : a < 0
  · rw [if_pos c1, if_pos c1]
  rw [if_neg c1, if_neg c1]
  by_cases c2 : 4611686018427387904 < a
  · rw [if_pos c2, if_pos c2]
  rw [if_neg c2, if_neg c2, IntKind.wrap_u64]
  congr 1
  omega
theorem rplus_ev (a b : Int) : bailiwickref02_Plus.f a b = some (pls a b) := by
  unfold bailiwickref02_Plus.f
  simp only [rnear_ev, Option.bind_some]
  have h1 := nr_rng a
  have h2 := nr_rng b
  unfold Never at h1 h2
  unfold pls Never
  generalize nr a = x at *
  generalize nr b = y at *
  have e : IntKind.u64.wrap (x + y) = x + y := by rw [IntKind.wrap_u64]; omega
  rw [e]
  by_cases c : x + y > 4611686018427387904
  · rw [if_pos c, if_pos c]
  · rw [if_neg c, if_neg c, w64 (by omega) (by omega)]

theorem rright_loop (l : List St) (hl : l.length ≤ 1024) : ∀ (d i : Nat) (b : Bool), l.length - i = d → i ≤ l.length → (b = true ↔ ∀ j, i ≤ j → j < l.length → good l j) → Ev (fun k => bailiwickref03_Right.l0 k l (i : Int)) b
  | 0, i, b, hd, hi, hb => by
    rw [bool_true hb (fun j h1 h2 => by omega)]
    refine Ev.step (f := fun _ => some true) (fun k => ?_) (Ev.now _)
    simp only [bailiwickref03_Right.l0]
    rw [if_neg (by omega)]
  | d + 1, i, b, hd, hi, hb => by
    have hlt : i < l.length := by omega
    rw [all_step hlt] at hb
    have q1 : (i : Int) < (l.length : Int) := by omega
    have q2 : (0 : Int) ≤ (i : Int) := by omega
    have no : ¬ good l i → Ev (fun k => bailiwickref03_Right.j2 k l (i : Int) true) b := by
      intro h
      rw [bool_false hb (fun h' => h h'.1)]
      exact Ev.step (f := fun _ => some false) (fun k => by simp only [bailiwickref03_Right.j2, if_true]) (Ev.now _)
    by_cases a1 : Vl l i < 0
    · refine Ev.step (fun k => ?_) (no (fun h => by have := h.1.1; omega))
      simp only [bailiwickref03_Right.l0, at_, vl_, if_pos q1, if_pos q2, if_pos a1]
    by_cases a2 : Vl l i > 1048576
    · refine Ev.step (fun k => ?_) (no (fun h => by have := h.1.2; omega))
      simp only [bailiwickref03_Right.l0, at_, vl_, if_pos q1, if_pos q2, if_neg a1, if_pos a2]
    by_cases a3 : At l i < 0
    · refine Ev.step (fun k => ?_) (no (fun h => by have := h.2.1.1; omega))
      simp only [bailiwickref03_Right.l0, at_, vl_, if_pos q1, if_pos q2, if_neg a1, if_neg a2, if_pos a3]
    by_cases a4 : At l i > 4611686018427387904
    · refine Ev.step (fun k => ?_) (no (fun h => by have := h.2.1.2; unfold Never at this; omega))
      simp only [bailiwickref03_Right.l0, at_, vl_, if_pos q1, if_pos q2, if_neg a1, if_neg a2, if_neg a3, decide_eq_true a4]
    refine Ev.step (f := fun k => bailiwickref03_Right.j2 k l (i : Int) false) (fun k => ?_) ?_
    · simp only [bailiwickref03_Right.l0, at_, vl_, if_pos q1, if_pos q2, if_neg a1, if_neg a2, if_neg a3, decide_eq_false a4]
    by_cases c3 : 0 < i
    · have e1 := pv i (by omega) c3
      have q3 : (i : Int) > 0 := by clear e1; omega
      have q4 : (0 : Int) ≤ ((i - 1 : Nat) : Int) := by clear e1; omega
      have q5 : ((i - 1 : Nat) : Int) < (l.length : Int) := by clear e1; omega
      by_cases c4 : At l i ≤ At l (i - 1)
      · rw [bool_false hb (fun hg => by have := (hg.1.2.2 c3).1; omega)]
        refine Ev.step (f := fun _ => some false) (fun k => ?_) (Ev.now _)
        simp only [bailiwickref03_Right.j2, Bool.false_eq_true, if_false, at_, vl_, if_pos q1, if_pos q2, if_pos q3, e1, if_pos q4, if_pos q5, if_pos c4]
      · by_cases c5 : Vl l i = Vl l (i - 1)
        · rw [bool_false hb (fun hg => (hg.1.2.2 c3).2 c5)]
          refine Ev.step (f := fun _ => some false) (fun k => ?_) (Ev.now _)
          simp only [bailiwickref03_Right.j2, Bool.false_eq_true, if_false, at_, vl_, if_pos q1, if_pos q2, if_pos q3, e1, if_pos q4, if_pos q5, if_neg c4, if_pos c5]
        · refine Ev.step (fun k => ?_) (rright_loop l hl d (i + 1) b (by omega) (by omega) (hb.trans ⟨fun h => h.2, fun h => ⟨⟨⟨by omega, by omega⟩, ⟨by omega, by unfold Never; omega⟩, fun _ => ⟨by omega, c5⟩⟩, h⟩⟩))
          simp only [bailiwickref03_Right.j2, Bool.false_eq_true, if_false, at_, vl_, if_pos q1, if_pos q2, if_pos q3, e1, if_pos q4, if_pos q5, if_neg c4, if_neg c5, nx i (by omega)]
    · have q3 : ¬ (i : Int) > 0 := by omega
      refine Ev.step (fun k => ?_) (rright_loop l hl d (i + 1) b (by omega) (by omega) (hb.trans ⟨fun h => h.2, fun h => ⟨⟨⟨by omega, by omega⟩, ⟨by omega, by unfold Never; omega⟩, fun h => absurd h c3⟩, h⟩⟩))
      simp only [bailiwickref03_Right.j2, Bool.false_eq_true, if_false, if_neg q3, nx i (by omega)]
theorem rright_ev (l : List St) (b : Bool) (hb : b = true ↔ Right l) : Ev (fun k => bailiwickref03_Right.f k l) b := by
  have no : ¬ Right l → ∀ c, c = true → Ev (fun k => bailiwickref03_Right.j0 k l c) b := by
    rintro h _ rfl
    rw [bool_false hb h]
    exact Ev.step (f := fun _ => some false) (fun k => by simp only [bailiwickref03_Right.j0, if_true]) (Ev.now _)
  rw [right_iff] at no
  by_cases c1 : (l.length : Int) = 0
  · refine Ev.congr (fun k => ?_) (no (fun h => by have := h.1; omega) _ rfl)
    simp only [bailiwickref03_Right.f, if_pos c1]
  by_cases c2 : (l.length : Int) > 1024
  · refine Ev.congr (fun k => ?_) (no (fun h => by have := h.2.1; omega) _ rfl)
    simp only [bailiwickref03_Right.f, if_neg c1, if_pos c2]
  have q : (0 : Int) < (l.length : Int) := by omega
  have a0 : (rdS l 0).f0 = At l 0 := rfl
  by_cases c3 : At l 0 = 0
  · refine Ev.congr (f := fun k => bailiwickref03_Right.j0 k l false) (fun k => ?_) ?_
    · simp only [bailiwickref03_Right.f, if_neg c1, if_neg c2, if_pos q, a0, c3]; rfl
    · refine Ev.step (fun k => ?_) (rright_loop l (by omega) l.length 0 b (by omega) (by omega) (hb.trans ((right_iff l).trans ⟨fun h => h.2.2.2, fun h => ⟨by omega, by omega, c3, h⟩⟩)))
      simp only [bailiwickref03_Right.j0, Bool.false_eq_true, if_false]; rfl
  · refine Ev.congr (fun k => ?_) (no (fun h => c3 h.2.2.1) _ rfl)
    simp only [bailiwickref03_Right.f, if_neg c1, if_neg c2, if_pos q, a0, bne, beq_false_of_ne c3]; rfl
theorem rright_yes {l : List St} (h : Right l) : Ev (fun k => bailiwickref03_Right.f k l) true := rright_ev l true ⟨fun _ => h, fun _ => rfl⟩
theorem rright_no {l : List St} (h : ¬ Right l) : Ev (fun k => bailiwickref03_Right.f k l) false := rright_ev l false ⟨fun h' => Bool.noConfusion h', fun h' => absurd h' h⟩
theorem rat_loop {l : List St} (h : Right l) {t : Int} (ht : 0 ≤ t) : ∀ (d i : Nat) (a : Int), l.length - i = d → i ≤ l.length → (pl l t < i → a = val l t) → Ev (fun k => bailiwickref03_at.l0 k l t a (i : Int)) (val l t)
  | 0, i, a, hd, hi, ha => by
    rw [← ha (by have := (pl_spec h.toNorm ht).1; omega)]
    refine Ev.step (f := fun _ => some a) (fun k => ?_) (Ev.now _)
    simp only [bailiwickref03_at.l0]
    rw [if_neg (by omega)]
  | d + 1, i, a, hd, hi, ha => by
    have hlt : i < l.length := by omega
    have q1 : (i : Int) < (l.length : Int) := by omega
    have q2 : (0 : Int) ≤ (i : Int) := by omega
    have hp := pl_spec h.toNorm ht
    by_cases c : At l i ≤ t
    · refine Ev.step (fun k => ?_) (rat_loop h ht d (i + 1) (Vl l i) (by omega) (by omega) (fun hl => ?_))
      · simp only [bailiwickref03_at.l0, if_pos q1, if_pos q2, at_, vl_, if_pos c, nx i (by have := h.len; omega)]
      · rcases Nat.lt_or_ge (pl l t) i with c1 | c1
        · have h1 := hp.2.2 (by omega)
          have := h.toNorm.le (i := pl l t + 1) (j := i) (by omega) hlt
          omega
        · have : pl l t = i := by omega
          unfold val; rw [this]
    · refine Ev.step (fun k => ?_) (rat_loop h ht d (i + 1) a (by omega) (by omega) (fun hl => ?_))
      · simp only [bailiwickref03_at.l0, if_pos q1, if_pos q2, at_, vl_, if_neg c, nx i (by have := h.len; omega)]
      · rcases Nat.lt_or_ge (pl l t) i with c1 | c1
        · exact ha c1
        · have : pl l t = i := by omega
          rw [this] at hp
          exact absurd hp.2.1 c
theorem rat_ev {l : List St} (h : Right l) {t : Int} (ht : 0 ≤ t) : Ev (fun k => bailiwickref03_at.f k l t) (val l t) := rat_loop h ht l.length 0 0 (by omega) (by omega) (fun h => by omega)
theorem rleast_loop {l : List St} (h : Right l) (f t : Int) : ∀ (d i : Nat) (a : Int), l.length - i = d → i ≤ l.length → ∃ m, Ev (fun k => bailiwickref03_Least.l0 k l f t a (i : Int)) m ∧ ∀ n, n ≤ m ↔ (n ≤ a ∧ ∀ j, i ≤ j → j < l.length → f < At l j → At l j < t → n ≤ Vl l j)
  | 0, i, a, hd, hi => by
    refine ⟨a, Ev.step (f := fun _ => some a) (fun k => ?_) (Ev.now _), fun n => ⟨fun hn => ⟨hn, fun j h1 h2 => by omega⟩, fun hn => hn.1⟩⟩
    simp only [bailiwickref03_Least.l0]
    rw [if_neg (by omega)]
  | d + 1, i, a, hd, hi => by
    have hlt : i < l.length := by omega
    have q1 : (i : Int) < (l.length : Int) := by omega
    have q2 : (0 : Int) ≤ (i : Int) := by omega
    by_cases c : At l i > f
    · by_cases c1 : At l i < t
      · by_cases c2 : Vl l i < a
        · obtain ⟨m, hev, hm⟩ := rleast_loop h f t d (i + 1) (Vl l i) (by omega) (by omega)
          refine ⟨m, Ev.step (fun k => ?_) hev, fun n => ?_⟩
          · simp only [bailiwickref03_Least.l0, if_pos q1, if_pos q2, at_, vl_, if_pos c, if_pos c1, if_pos c2, nx i (by have := h.len; omega)]
          · rw [hm n, all_step hlt]
            exact ⟨fun ⟨x, y⟩ => ⟨by omega, fun _ _ => x, y⟩, fun ⟨x, y, z⟩ => ⟨y c c1, z⟩⟩
        · obtain ⟨m, hev, hm⟩ := rleast_loop h f t d (i + 1) a (by omega) (by omega)
          refine ⟨m, Ev.step (fun k => ?_) hev, fun n => ?_⟩
          · simp only [bailiwickref03_Least.l0, if_pos q1, if_pos q2, at_, vl_, if_pos c, if_pos c1, if_neg c2, nx i (by have := h.len; omega)]
          · rw [hm n, all_step hlt]
            exact ⟨fun ⟨x, y⟩ => ⟨x, fun _ _ => by omega, y⟩, fun ⟨x, y, z⟩ => ⟨x, z⟩⟩
      · obtain ⟨m, hev, hm⟩ := rleast_loop h f t d (i + 1) a (by omega) (by omega)
        refine ⟨m, Ev.step (fun k => ?_) hev, fun n => ?_⟩
        · simp only [bailiwickref03_Least.l0, if_pos q1, if_pos q2, at_, vl_, if_pos c, if_neg c1, nx i (by have := h.len; omega)]
        · rw [hm n, all_step hlt]
          exact ⟨fun ⟨x, y⟩ => ⟨x, fun _ h' => absurd h' c1, y⟩, fun ⟨x, y, z⟩ => ⟨x, z⟩⟩
    · obtain ⟨m, hev, hm⟩ := rleast_loop h f t d (i + 1) a (by omega) (by omega)
      refine ⟨m, Ev.step (fun k => ?_) hev, fun n => ?_⟩
      · simp only [bailiwickref03_Least.l0, if_pos q1, if_pos q2, at_, vl_, if_neg c, nx i (by have := h.len; omega)]
      · rw [hm n, all_step hlt]
        exact ⟨fun ⟨x, y⟩ => ⟨x, fun h' => absurd h' c, y⟩, fun ⟨x, y, z⟩ => ⟨x, z⟩⟩
/-- The span's steps: that which holds at its begin, and those that begin in it. -/
theorem span_iff2 {l : List St} (h : Norm l) {f t : Int} (h0 : 0 ≤ f) (h1 : f < t) (P : Int → Prop) : (∀ x, f ≤ x → x < t → P (val l x)) ↔ P (val l f) ∧ ∀ j, 0 ≤ j → j < l.length → f < At l j → At l j < t → P (Vl l j) := by
  have hp := pl_spec h h0
  constructor
  · intro a
    refine ⟨a f (Int.le_refl _) h1, fun j _ h3 h4 h5 => ?_⟩
    have := a (At l j) (by omega) h5
    rwa [val_at h h3] at this
  · rintro ⟨a, b⟩ x h2 h3
    have hx := pl_spec h (t := x) (by omega)
    by_cases c : f < At l (pl l x)
    · exact b _ (by omega) hx.1 c (by have := hx.2.1; omega)
    · have : IsPl l f (pl l x) := ⟨hx.1, by omega, fun hn => by have := hx.2.2 hn; omega⟩
      rw [← pl_eq h this] at hx
      unfold val at a ⊢
      rwa [pl_eq h this] at a
theorem rleast_ev {l : List St} (h : Right l) {f t : Int} (h0 : 0 ≤ f) (h1 : f < t) : ∃ m, Ev (fun k => bailiwickref03_Least.f k l f t) m ∧ IsLeast l f t m := by
  obtain ⟨m, hev, hm⟩ := rleast_loop h f t l.length 0 (val l f) (by omega) (by omega)
  refine ⟨m, Ev.bind (rat_ev h h0) hev, fun n => ?_⟩
  rw [hm n, span_iff2 h.toNorm h0 h1 (fun v => n ≤ v)]
  have := (h.val_amt h0).2
  exact ⟨fun a => ⟨by have := a.1; omega, a⟩, fun a => a.2⟩

/-- Where it fits, it fits as soon as the step begins, too. -/
theorem fits_back {l : List St} (h : Right l) {f long n x : Int} (hf : 0 ≤ f) (hlong : 1 ≤ long) (h1 : f ≤ x) (h2 : x < Never) (hx : Fits l long n x) : Fits l long n (if At l (pl l x) < f then f else At l (pl l x)) := by
  have hp := pl_spec h.toNorm (t := x) (by omega)
  have hgt := pls_gt (by omega) h2 hlong
  generalize hs : (if At l (pl l x) < f then f else At l (pl l x)) = s
  have s1 : f ≤ s ∧ At l (pl l x) ≤ s ∧ s ≤ x := by have := hp.2.1; split at hs <;> omega
  intro y hy1 hy2
  rcases Int.lt_or_le y x with c | c
  · have e : val l y = val l x := by
      rw [val_eq h.toNorm (i := pl l x) ⟨hp.1, by omega, fun hn => by have := hp.2.2 hn; omega⟩]; rfl
    rw [e]
    exact hx x (Int.le_refl _) hgt.1
  · exact hx y c (by have := pls_le (by omega) s1.2.2 (by omega) hlong; omega)
end Go.Proofs.Ytimllhflecippaa.StepR
