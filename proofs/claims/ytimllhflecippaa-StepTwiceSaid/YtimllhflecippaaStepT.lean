/- Layer 3, plainly: what Take and Give change. -/
import Derived.Test.YtimllhflecippaaF8
import Derived.Test.YtimllhflecippaaF17
import Derived.Test.YtimllhflecippaaF9
import Derived.Test.YtimllhflecippaaStepP
namespace Go.Proofs.Ytimllhflecippaa.StepT
open Go.RowKit Go.Proofs.YtimllhflecippaaW.PrintWords Go.Proofs.YtimllhflecippaaW.PrintMore Go.Proofs.Ytimllhflecippaa.F Go.Proofs.Ytimllhflecippaa.Pk Go.Proofs.Ytimllhflecippaa.StepP Go.Proofs.Ytimllhflecippaa.StepQ
set_option linter.unusedSimpArgs false
set_option linter.unusedVariables false

theorem same_loop (l : List St) (hl : l.length ≤ 8796093022208) : ∀ (d i : Nat), l.length - i = d → i ≤ l.length → Ev (fun k => bailiwickref03_Same.l0 k l l (i : Int)) true
  | 0, i, hd, hi => by
    refine Ev.step (f := fun _ => some true) (fun k => ?_) (Ev.now _)
    simp only [bailiwickref03_Same.l0]
    rw [if_neg (by omega)]
  | d + 1, i, hd, hi => by
    refine Ev.step (fun k => ?_) (same_loop l hl d (i + 1) (by omega) (by omega))
    have q1 : (i : Int) < (l.length : Int) := by omega
    have q2 : (0 : Int) ≤ (i : Int) := by omega
    simp only [bailiwickref03_Same.l0, if_pos q1, if_pos q2, beq_self_eq_true, Bool.not_true, Bool.or_false, Bool.false_eq_true, if_false, nx i (by omega)]
theorem same_ev (l : List St) (hl : l.length ≤ 8796093022208) : Ev (fun k => bailiwickref03_Same.f k l l) true := by
  have := same_loop l hl l.length 0 (by omega) (by omega)
  refine Ev.congr (fun k => ?_) this
  simp only [bailiwickref03_Same.f, if_true]; rfl

/-! ### Take and Give -/
theorem addS_len (o : List St) (a b : Int) : (addS o a b).length ≤ o.length + 1 := by unfold addS; split <;> simp
/-- Where the i-th step begins; behind the last one: behind all times. -/
def beg (l : List St) (i : Nat) : Int := if i < l.length then At l i else Never + 1
theorem plusN_len2 {l : List St} (h : Norm l) {f t n : Int} (h0 : 0 ≤ f) (h1 : f < t) : ∀ i, i ≤ l.length → (plusN l f t n i).length ≤ i + (if f < beg l i then 1 else 0) + (if t < beg l i then 1 else 0)
  | 0, _ => by simp [plusN]
  | i + 1, hi => by
    have ih := plusN_len2 h h0 h1 (n := n) i (by omega)
    have hE := plusE_eq l i
    have e1 : beg l i = At l i := by unfold beg; rw [if_pos (by omega)]
    have e2 : beg l (i + 1) = plusE l i := by unfold beg; rw [hE]
    have hse : At l i < plusE l i := by
      rw [hE]
      split
      · exact (h.rise i (by assumption)).1
      · have := h.top i (by omega); omega
    rw [e2]
    rw [e1] at ih
    show (plus3 l f t n i (plus2 l f t n i (plus1 l f t n i (plusN l f t n i)))).length ≤ _
    have a1 : (plus1 l f t n i (plusN l f t n i)).length ≤ (plusN l f t n i).length + (if At l i < f then 1 else 0) := by
      show (if At l i < f then addS (plusN l f t n i) (At l i) (Vl l i) else plusN l f t n i).length ≤ _
      split
      · exact addS_len _ _ _
      · omega
    generalize plus1 l f t n i (plusN l f t n i) = o1 at *
    have a2 : (plus2 l f t n i o1).length ≤ o1.length + (if mx (At l i) f < mn (plusE l i) t then 1 else 0) := by
      show (if mx (At l i) f < mn (plusE l i) t then addS o1 (mx (At l i) f) (wrap64 (Vl l i + n)) else o1).length ≤ _
      split
      · exact addS_len _ _ _
      · omega
    generalize plus2 l f t n i o1 = o2 at *
    have a3 : (plus3 l f t n i o2).length ≤ o2.length + (if t < plusE l i then 1 else 0) := by
      show (if t < plusE l i then addS o2 (mx (At l i) t) (Vl l i) else o2).length ≤ _
      split
      · exact addS_len _ _ _
      · omega
    generalize plus3 l f t n i o2 = o3 at *
    rw [mx_eq, mn_eq] at a2
    generalize plusE l i = e at *
    generalize At l i = s at *
    clear hE e1 e2
    by_cases c1 : s < f <;> by_cases c2 : f < e <;> by_cases c3 : t < e <;> by_cases c4 : s < t <;> by_cases c5 : f < s <;> by_cases c6 : t < s <;> simp only [c1, c2, c3, c4, c5, c6, if_true, if_false] at ih a1 a2 a3 ⊢ <;> (try split at a2) <;> omega
def chg (l : List St) (f t n : Int) : List St := plusN l f t n l.length
theorem change_ev {l : List St} {f t n : Int} (h : (chg l f t n).length ≤ 1024) (hl : l.length ≤ 1024) : step_change.f l f t n = some (chg l f t n, 0) := by
  unfold step_change.f step_plus.f
  rw [if_pos (by omega)]
  simp only [Option.bind_some]
  unfold chg at h ⊢
  rw [if_neg (by omega)]
theorem clone_ev {l : List St} (h : l.length < 8796093022208) : slices_Clone_api_Step_api_Step.f l = some l := by
  unfold slices_Clone_api_Step_api_Step.f
  simp only [Option.bind_some, List.length_nil, Nat.zero_add, if_pos h, List.nil_append]
theorem chg_len {l : List St} (h : Norm l) {f t n : Int} (h0 : 0 ≤ f) (h1 : f < t) : (chg l f t n).length ≤ l.length + 2 := by
  have := plusN_len2 h h0 h1 (n := n) l.length (Nat.le_refl _)
  unfold chg
  split at this <;> split at this <;> omega
/-- What Take makes is right again. -/
theorem take_right {l : List St} (h : Right l) {f t n : Int} (h0 : 0 ≤ f) (h1 : f < t) (h2 : t ≤ Never) (hn : -1048576 ≤ n ∧ n ≤ 1048576) (ha : ∀ x, f ≤ x → x < t → amt (val l x + n)) (hlen : (chg l f t n).length ≤ 1024) : Right (chg l f t n) := by
  have hp := plus_norm h h0 h1 h2 hn
  refine { toNorm := hp.1, len := hlen, amts := fun i hi => ?_ }
  have hx0 := hp.1.ge0 hi
  have hxn := hp.1.top i hi
  have e := val_at hp.1 hi
  rw [hp.2 _ hx0 hxn] at e
  show amt (Vl (plusN l f t n l.length) i)
  rw [← e]
  unfold more
  split
  · exact ha _ (by omega) (by omega)
  · exact h.val_amt hx0
def TakeOk (l : List St) (f t n : Int) : Prop := May l f t ∧ amt n
theorem take_cases (l : List St) (f t n : Int) (hl : l.length ≤ 1000) :
    (¬ TakeOk l f t n ∧ Ev (fun k => step_Take.f k l f t n) (l, 1)) ∨
    (TakeOk l f t n ∧ (¬ ∀ x, f ≤ x → x < t → n ≤ val l x) ∧ Ev (fun k => step_Take.f k l f t n) (l, 5)) ∨
    (TakeOk l f t n ∧ (∀ x, f ≤ x → x < t → n ≤ val l x) ∧ Ev (fun k => step_Take.f k l f t n) (chg l f t (-n), 0)) := by
  have no : ∀ b, b = true → Ev (fun k => step_Take.j0 k l f t n b) (l, 1) := by
    rintro _ rfl
    exact Ev.step (f := fun _ => some (l, 1)) (fun k => by simp only [step_Take.j0, if_true, clone_ev (l := l) (by omega), Option.bind_some]) (Ev.now _)
  by_cases c0 : May l f t
  · by_cases c1 : amt n
    · obtain ⟨m, hev, hm⟩ := least_ev c0.1 c0.2.1 c0.2.2.1
      have hmn := hm n
      by_cases c2 : m < n
      · refine .inr (.inl ⟨⟨c0, c1⟩, fun hc => by have := hmn.2 ⟨c1.2, hc⟩; omega, ?_⟩)
        refine Ev.bind (may_yes c0) ?_
        simp only [if_true, samt, Option.bind_some, decide_eq_true c1, Bool.not_true]
        refine Ev.step (f := fun k => (step_least.f k l f t).bind fun m => if m < n then some (l, 5) else (step_change.f l f t (wrap64 (-n))).bind fun bt => some (bt.1, bt.2)) (fun k => ?_) (Ev.bind hev ?_)
        · simp only [step_Take.j0, Bool.false_eq_true, if_false, clone_ev (l := l) (by omega), Option.bind_some]
        · simp only [if_pos c2]; exact Ev.now _
      · refine .inr (.inr ⟨⟨c0, c1⟩, (hmn.1 (by omega)).2, ?_⟩)
        refine Ev.bind (may_yes c0) ?_
        simp only [if_true, samt, Option.bind_some, decide_eq_true c1, Bool.not_true]
        refine Ev.step (f := fun k => (step_least.f k l f t).bind fun m => if m < n then some (l, 5) else (step_change.f l f t (wrap64 (-n))).bind fun bt => some (bt.1, bt.2)) (fun k => ?_) (Ev.bind hev ?_)
        · simp only [step_Take.j0, Bool.false_eq_true, if_false, clone_ev (l := l) (by omega), Option.bind_some]
        · have := c1.1
          have := c1.2
          have e : wrap64 (-n) = -n := w64 (by omega) (by omega)
          simp only [if_neg c2, e, change_ev (l := l) (f := f) (t := t) (n := -n) (by have := chg_len c0.1.toNorm c0.2.1 c0.2.2.1 (n := -n); omega) (by omega), Option.bind_some]
          exact Ev.now _
    · refine .inl ⟨fun h => c1 h.2, Ev.bind (may_yes c0) ?_⟩
      simp only [if_true, samt, Option.bind_some, decide_eq_false c1, Bool.not_false]
      exact no _ rfl
  · refine .inl ⟨fun h => c0 h.1, Ev.bind (may_no c0) ?_⟩
    simp only [Bool.false_eq_true, if_false]
    exact no _ rfl
theorem give_loop {l : List St} (h : Right l) {f t n : Int} (hn : amt n) (hc : (chg l f t n).length ≤ 1024) (hall : ∀ j, pl l f ≤ j → j < l.length → At l j < t → Vl l j + n ≤ 1048576) : ∀ (d i : Nat), l.length - i = d → i ≤ l.length → pl l f ≤ i → Ev (fun k => step_Give.l0 k l f t n (i : Int)) (chg l f t n, 0) := by
  intro d
  have out : ∀ i : Int, Ev (fun k => step_Give.j2 k l f t n i false) (chg l f t n, 0) := by
    intro i
    refine Ev.step (f := fun _ => some (chg l f t n, 0)) (fun k => ?_) (Ev.now _)
    simp only [step_Give.j2, Bool.false_eq_true, if_false, change_ev hc h.len, Option.bind_some]
  induction d with
  | zero =>
    intro i hd hi hp
    refine Ev.step (fun k => ?_) (out i)
    simp only [step_Give.l0]
    rw [if_neg (by omega)]
  | succ d ih =>
    intro i hd hi hp
    have hlt : i < l.length := by omega
    have q1 : (i : Int) < (l.length : Int) := by omega
    have q2 : (0 : Int) ≤ (i : Int) := by omega
    by_cases c : At l i < t
    · have h1 := hall i hp hlt c
      have h2 := h.amts i hlt
      unfold amt at h2 hn
      have e : wrap64 (Vl l i + n) = Vl l i + n := w64 (by omega) (by omega)
      have n1 : ¬ Vl l i + n > 1048576 := by omega
      refine Ev.step (f := fun k => step_Give.j2 k l f t n (i : Int) true) (fun k => ?_) (Ev.step (fun k => ?_) (ih (i + 1) (by omega) (by omega) (by omega)))
      · simp only [step_Give.l0, if_pos q1, if_pos q2, at_, decide_eq_true c]
      · simp only [step_Give.j2, if_true, if_pos q1, if_pos q2, vl_, e, if_neg n1, nx i (by have := h.len; omega)]
    · refine Ev.step (fun k => ?_) (out i)
      simp only [step_Give.l0, if_pos q1, if_pos q2, at_, decide_eq_false c]
theorem give_ev {l : List St} {f t n : Int} (h : TakeOk l f t n) (hall : ∀ x, f ≤ x → x < t → val l x + n ≤ 1048576) (hc : (chg l f t n).length ≤ 1024) : Ev (fun k => step_Give.f k l f t n) (chg l f t n, 0) := by
  obtain ⟨c0, c1⟩ := h
  refine Ev.bind (may_yes c0) ?_
  simp only [if_true, samt, Option.bind_some, decide_eq_true c1, Bool.not_true]
  refine Ev.step (f := fun k => (step_place.f k l f).bind fun i => step_Give.l0 k l f t n i) (fun k => ?_) (Ev.bind (place_ev c0.1 c0.2.1) ?_)
  · simp only [step_Give.j0, Bool.false_eq_true, if_false]
  · exact give_loop c0.1 c1 hc ((span_iff c0.1.toNorm c0.2.1 c0.2.2.1 (fun v => v + n ≤ 1048576)).1 hall) _ (pl l f) rfl (by have := (pl_spec c0.1.toNorm c0.2.1).1; omega) (Nat.le_refl _)
/-- Given back, it is as it was. -/
theorem take_give {l : List St} {f t n : Int} (h : TakeOk l f t n) (hl : l.length ≤ 1000) (hall : ∀ x, f ≤ x → x < t → n ≤ val l x) :
    Right (chg l f t (-n)) ∧ (∀ x, 0 ≤ x → x ≤ Never → val (chg l f t (-n)) x = more f t (-n) x (val l x)) ∧ Ev (fun k => step_Give.f k (chg l f t (-n)) f t n) (l, 0) := by
  obtain ⟨⟨h0, h1, h2, h3⟩, h4⟩ := h
  have hnn : -1048576 ≤ -n ∧ -n ≤ 1048576 := by unfold amt at h4; omega
  have hp := plus_norm h0 h1 h2 h3 hnn
  have hr : Right (chg l f t (-n)) := take_right h0 h1 h2 h3 hnn (fun x a b => by
    have := hall x a b
    have := h0.val_amt (t := x) (by omega)
    unfold amt at *
    omega) (by have := chg_len h0.toNorm h1 h2 (n := -n); omega)
  have hv : ∀ x, 0 ≤ x → x ≤ Never → val (chg l f t (-n)) x = more f t (-n) x (val l x) := hp.2
  have hp2 := plus_norm hr h1 h2 h3 (n := n) (by unfold amt at h4; omega)
  have e : chg (chg l f t (-n)) f t n = l := by
    refine hp2.1.ext h0.toNorm (fun x a b => ?_)
    rw [hp2.2 x a b, hv x a b]
    unfold more
    split <;> omega
  refine ⟨hr, hv, ?_⟩
  have := give_ev (l := chg l f t (-n)) (f := f) (t := t) (n := n) ⟨⟨hr, h1, h2, h3⟩, h4⟩ (fun x a b => by
    rw [hv x (by omega) (by omega)]
    unfold more
    rw [if_pos ⟨a, b⟩]
    have := (h0.val_amt (t := x) (by omega)).2
    omega) (by rw [e]; omega)
  rw [e] at this
  exact this
end Go.Proofs.Ytimllhflecippaa.StepT
