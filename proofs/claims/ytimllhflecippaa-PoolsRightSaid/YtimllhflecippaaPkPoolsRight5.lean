/- The texts of the law PoolsRight, without what it does not use, laid together: part 5. -/
import Derived.Test.YtimllhflecippaaPkPoolsRight1
import Derived.Test.YtimllhflecippaaPkPoolsRight2
import Derived.Test.YtimllhflecippaaPkPoolsRight3
import Derived.Test.YtimllhflecippaaPkPoolsRight4
import Derived.Test.YtimllhflecippaaProg
import Derived.WalkSpells
import Derived.Below
import Derived.Deep.Draws
import Derived.Deep.AppendLies
import Derived.Maps.AppendAt
import Derived.OwnWalk
import Derived.Laws.BytesArg
import Derived.Laws.MakeOwn
import Derived.Laws.OwnMore
import Derived.Deep.OwnRows
import Derived.Tactics
import Derived.Lib.ConvBytes
import Derived.Laws.Slices
import Derived.WalkKit
import Derived.KernelRfl
import Derived.RowKit3
import Derived.Deep.LoopGhost
import Derived.Deep.QuietTactic
import Derived.BigQuiet
import Derived.WideLaws
import Derived.Deep.DeepCutAuto
import Derived.Deep.CutBlock
import Derived.Deep.RegionHeld3
import Derived.Laws.Rows
import Derived.Lib.AppendStr
import Derived.ArgAppend
import Derived.Laws.IdiomCopy
import Derived.RowKit
import Derived.OrdersHeld
import Derived.Laws.BitsLemmas
import Derived.Laws.StructEq
import Derived.Laws.Strings

section
namespace Go.Proofs.Ytimllhflecippaa.StepR
open Go.RowKit Go.Proofs.YtimllhflecippaaW.PrintWords Go.Proofs.YtimllhflecippaaW.PrintMore Go.Proofs.Ytimllhflecippaa.F Go.Proofs.Ytimllhflecippaa.Pk Go.Proofs.Ytimllhflecippaa.StepP Go.Proofs.Ytimllhflecippaa.StepQ
set_option linter.unusedSimpArgs false
set_option linter.unusedVariables false

theorem rright_loop (l : List St) (hl : l.length ≤ 1024) : ∀ (d i : Nat) (b : Bool), l.length - i = d → i ≤ l.length → (b = true ↔ ∀ j, i ≤ j → j < l.length → good l j) → Ev (fun k => bailiwickref03_Right.l0 k l (i : Int)) b
  | 0, i, b, hd, hi, hb => by
    rw [bool_true hb (fun j h1 h2 => by omega)]
    refine Ev.step (f := fun _ => some true) (fun k => ?_) (Ev.now _)
    simp only [bailiwickref03_Right.l0]
    rw [if_neg (by omega)]
  | d + 1, i, b, hd, hi, hb => by
    have hlt : i < l.length := by omega
    rw [all_step hlt] at hb
    have q1 : (i : Int) < (l.length : Int) := by omega
    have q2 : (0 : Int) ≤ (i : Int) := by omega
    have no : ¬ good l i → Ev (fun k => bailiwickref03_Right.j2 k l (i : Int) true) b := by
      intro h
      rw [bool_false hb (fun h' => h h'.1)]
      exact Ev.step (f := fun _ => some false) (fun k => by simp only [bailiwickref03_Right.j2, if_true]) (Ev.now _)
    by_cases a1 : Vl l i < 0
    · refine Ev.step (fun k => ?_) (no (fun h => by have := h.1.1; omega))
      simp only [bailiwickref03_Right.l0, at_, vl_, if_pos q1, if_pos q2, if_pos a1]
    by_cases a2 : Vl l i > 1048576
    · refine Ev.step (fun k => ?_) (no (fun h => by have := h.1.2; omega))
      simp only [bailiwickref03_Right.l0, at_, vl_, if_pos q1, if_pos q2, if_neg a1, if_pos a2]
    by_cases a3 : At l i < 0
    · refine Ev.step (fun k => ?_) (no (fun h => by have := h.2.1.1; omega))
      simp only [bailiwickref03_Right.l0, at_, vl_, if_pos q1, if_pos q2, if_neg a1, if_neg a2, if_pos a3]
    by_cases a4 : At l i > 4611686018427387904
    · refine Ev.step (fun k => ?_) (no (fun h => by have := h.2.1.2; unfold Never at this; omega))
      simp only [bailiwickref03_Right.l0, at_, vl_, if_pos q1, if_pos q2, if_neg a1, if_neg a2, if_neg a3, decide_eq_true a4]
    refine Ev.step (f := fun k => bailiwickref03_Right.j2 k l (i : Int) false) (fun k => ?_) ?_
    · simp only [bailiwickref03_Right.l0, at_, vl_, if_pos q1, if_pos q2, if_neg a1, if_neg a2, if_neg a3, decide_eq_false a4]
    by_cases c3 : 0 < i
    · have e1 := pv i (by omega) c3
      have q3 : (i : Int) > 0 := by clear e1; omega
      have q4 : (0 : Int) ≤ ((i - 1 : Nat) : Int) := by clear e1; omega
      have q5 : ((i - 1 : Nat) : Int) < (l.length : Int) := by clear e1; omega
      by_cases c4 : At l i ≤ At l (i - 1)
      · rw [bool_false hb (fun hg => by have := (hg.1.2.2 c3).1; omega)]
        refine Ev.step (f := fun _ => some false) (fun k => ?_) (Ev.now _)
        simp only [bailiwickref03_Right.j2, Bool.false_eq_true, if_false, at_, vl_, if_pos q1, if_pos q2, if_pos q3, e1, if_pos q4, if_pos q5, if_pos c4]
      · by_cases c5 : Vl l i = Vl l (i - 1)
        · rw [bool_false hb (fun hg => (hg.1.2.2 c3).2 c5)]
          refine Ev.step (f := fun _ => some false) (fun k => ?_) (Ev.now _)
          simp only [bailiwickref03_Right.j2, Bool.false_eq_true, if_false, at_, vl_, if_pos q1, if_pos q2, if_pos q3, e1, if_pos q4, if_pos q5, if_neg c4, if_pos c5]
        · refine Ev.step (fun k => ?_) (rright_loop l hl d (i + 1) b (by omega) (by omega) (hb.trans ⟨fun h => h.2, fun h => ⟨⟨⟨by omega, by omega⟩, ⟨by omega, by unfold Never; omega⟩, fun _ => ⟨by omega, c5⟩⟩, h⟩⟩))
          simp only [bailiwickref03_Right.j2, Bool.false_eq_true, if_false, at_, vl_, if_pos q1, if_pos q2, if_pos q3, e1, if_pos q4, if_pos q5, if_neg c4, if_neg c5, nx i (by omega)]
    · have q3 : ¬ (i : Int) > 0 := by omega
      refine Ev.step (fun k => ?_) (rright_loop l hl d (i + 1) b (by omega) (by omega) (hb.trans ⟨fun h => h.2, fun h => ⟨⟨⟨by omega, by omega⟩, ⟨by omega, by unfold Never; omega⟩, fun h => absurd h c3⟩, h⟩⟩))
      simp only [bailiwickref03_Right.j2, Bool.false_eq_true, if_false, if_neg q3, nx i (by omega)]
theorem rright_ev (l : List St) (b : Bool) (hb : b = true ↔ Right l) : Ev (fun k => bailiwickref03_Right.f k l) b := by
  have no : ¬ Right l → ∀ c, c = true → Ev (fun k => bailiwickref03_Right.j0 k l c) b := by
    rintro h _ rfl
    rw [bool_false hb h]
    exact Ev.step (f := fun _ => some false) (fun k => by simp only [bailiwickref03_Right.j0, if_true]) (Ev.now _)
  rw [right_iff] at no
  by_cases c1 : (l.length : Int) = 0
  · refine Ev.congr (fun k => ?_) (no (fun h => by have := h.1; omega) _ rfl)
    simp only [bailiwickref03_Right.f, if_pos c1]
  by_cases c2 : (l.length : Int) > 1024
  · refine Ev.congr (fun k => ?_) (no (fun h => by have := h.2.1; omega) _ rfl)
    simp only [bailiwickref03_Right.f, if_neg c1, if_pos c2]
  have q : (0 : Int) < (l.length : Int) := by omega
  have a0 : (rdS l 0).f0 = At l 0 := rfl
  by_cases c3 : At l 0 = 0
  · refine Ev.congr (f := fun k => bailiwickref03_Right.j0 k l false) (fun k => ?_) ?_
    · simp only [bailiwickref03_Right.f, if_neg c1, if_neg c2, if_pos q, a0, c3]; rfl
    · refine Ev.step (fun k => ?_) (rright_loop l (by omega) l.length 0 b (by omega) (by omega) (hb.trans ((right_iff l).trans ⟨fun h => h.2.2.2, fun h => ⟨by omega, by omega, c3, h⟩⟩)))
      simp only [bailiwickref03_Right.j0, Bool.false_eq_true, if_false]; rfl
  · refine Ev.congr (fun k => ?_) (no (fun h => c3 h.2.2.1) _ rfl)
    simp only [bailiwickref03_Right.f, if_neg c1, if_neg c2, if_pos q, a0, bne, beq_false_of_ne c3]; rfl
theorem rright_yes {l : List St} (h : Right l) : Ev (fun k => bailiwickref03_Right.f k l) true := rright_ev l true ⟨fun _ => h, fun _ => rfl⟩
theorem rright_no {l : List St} (h : ¬ Right l) : Ev (fun k => bailiwickref03_Right.f k l) false := rright_ev l false ⟨fun h' => Bool.noConfusion h', fun h' => absurd h' h⟩
theorem rat_loop {l : List St} (h : Right l) {t : Int} (ht : 0 ≤ t) : ∀ (d i : Nat) (a : Int), l.length - i = d → i ≤ l.length → (pl l t < i → a = val l t) → Ev (fun k => bailiwickref03_at.l0 k l t a (i : Int)) (val l t)
  | 0, i, a, hd, hi, ha => by
    rw [← ha (by have := (pl_spec h.toNorm ht).1; omega)]
    refine Ev.step (f := fun _ => some a) (fun k => ?_) (Ev.now _)
    simp only [bailiwickref03_at.l0]
    rw [if_neg (by omega)]
  | d + 1, i, a, hd, hi, ha => by
    have hlt : i < l.length := by omega
    have q1 : (i : Int) < (l.length : Int) := by omega
    have q2 : (0 : Int) ≤ (i : Int) := by omega
    have hp := pl_spec h.toNorm ht
    by_cases c : At l i ≤ t
    · refine Ev.step (fun k => ?_) (rat_loop h ht d (i + 1) (Vl l i) (by omega) (by omega) (fun hl => ?_))
      · simp only [bailiwickref03_at.l0, if_pos q1, if_pos q2, at_, vl_, if_pos c, nx i (by have := h.len; omega)]
      · rcases Nat.lt_or_ge (pl l t) i with c1 | c1
        · have h1 := hp.2.2 (by omega)
          have := h.toNorm.le (i := pl l t + 1) (j := i) (by omega) hlt
          omega
        · have : pl l t = i := by omega
          unfold val; rw [this]
    · refine Ev.step (fun k => ?_) (rat_loop h ht d (i + 1) a (by omega) (by omega) (fun hl => ?_))
      · simp only [bailiwickref03_at.l0, if_pos q1, if_pos q2, at_, vl_, if_neg c, nx i (by have := h.len; omega)]
      · rcases Nat.lt_or_ge (pl l t) i with c1 | c1
        · exact ha c1
        · have : pl l t = i := by omega
          rw [this] at hp
          exact absurd hp.2.1 c
theorem rat_ev {l : List St} (h : Right l) {t : Int} (ht : 0 ≤ t) : Ev (fun k => bailiwickref03_at.f k l t) (val l t) := rat_loop h ht l.length 0 0 (by omega) (by omega) (fun h => by omega)
theorem rleast_loop {l : List St} (h : Right l) (f t : Int) : ∀ (d i : Nat) (a : Int), l.length - i = d → i ≤ l.length → ∃ m, Ev (fun k => bailiwickref03_Least.l0 k l f t a (i : Int)) m ∧ ∀ n, n ≤ m ↔ (n ≤ a ∧ ∀ j, i ≤ j → j < l.length → f < At l j → At l j < t → n ≤ Vl l j)
  | 0, i, a, hd, hi => by
    refine ⟨a, Ev.step (f := fun _ => some a) (fun k => ?_) (Ev.now _), fun n => ⟨fun hn => ⟨hn, fun j h1 h2 => by omega⟩, fun hn => hn.1⟩⟩
    simp only [bailiwickref03_Least.l0]
    rw [if_neg (by omega)]
  | d + 1, i, a, hd, hi => by
    have hlt : i < l.length := by omega
    have q1 : (i : Int) < (l.length : Int) := by omega
    have q2 : (0 : Int) ≤ (i : Int) := by omega
    by_cases c : At l i > f
    · by_cases c1 : At l i < t
      · by_cases c2 : Vl l i < a
        · obtain ⟨m, hev, hm⟩ := rleast_loop h f t d (i + 1) (Vl l i) (by omega) (by omega)
          refine ⟨m, Ev.step (fun k => ?_) hev, fun n => ?_⟩
          · simp only [bailiwickref03_Least.l0, if_pos q1, if_pos q2, at_, vl_, if_pos c, if_pos c1, if_pos c2, nx i (by have := h.len; omega)]
          · rw [hm n, all_step hlt]
            exact ⟨fun ⟨x, y⟩ => ⟨by omega, fun _ _ => x, y⟩, fun ⟨x, y, z⟩ => ⟨y c c1, z⟩⟩
        · obtain ⟨m, hev, hm⟩ := rleast_loop h f t d (i + 1) a (by omega) (by omega)
          refine ⟨m, Ev.step (fun k => ?_) hev, fun n => ?_⟩
          · simp only [bailiwickref03_Least.l0, if_pos q1, if_pos q2, at_, vl_, if_pos c, if_pos c1, if_neg c2, nx i (by have := h.len; omega)]
          · rw [hm n, all_step hlt]
            exact ⟨fun ⟨x, y⟩ => ⟨x, fun _ _ => by omega, y⟩, fun ⟨x, y, z⟩ => ⟨x, z⟩⟩
      · obtain ⟨m, hev, hm⟩ := rleast_loop h f t d (i + 1) a (by omega) (by omega)
        refine ⟨m, Ev.step (fun k => ?_) hev, fun n => ?_⟩
        · simp only [bailiwickref03_Least.l0, if_pos q1, if_pos q2, at_, vl_, if_pos c, if_neg c1, nx i (by have := h.len; omega)]
        · rw [hm n, all_step hlt]
          exact ⟨fun ⟨x, y⟩ => ⟨x, fun _ h' => absurd h' c1, y⟩, fun ⟨x, y, z⟩ => ⟨x, z⟩⟩
    · obtain ⟨m, hev, hm⟩ := rleast_loop h f t d (i + 1) a (by omega) (by omega)
      refine ⟨m, Ev.step (fun k => ?_) hev, fun n => ?_⟩
      · simp only [bailiwickref03_Least.l0, if_pos q1, if_pos q2, at_, vl_, if_neg c, nx i (by have := h.len; omega)]
      · rw [hm n, all_step hlt]
        exact ⟨fun ⟨x, y⟩ => ⟨x, fun h' => absurd h' c, y⟩, fun ⟨x, y, z⟩ => ⟨x, z⟩⟩
/-- The span's steps: that which holds at its begin, and those that begin in it. -/
theorem span_iff2 {l : List St} (h : Norm l) {f t : Int} (h0 : 0 ≤ f) (h1 : f < t) (P : Int → Prop) : (∀ x, f ≤ x → x < t → P (val l x)) ↔ P (val l f) ∧ ∀ j, 0 ≤ j → j < l.length → f < At l j → At l j < t → P (Vl l j) := by
  have hp := pl_spec h h0
  constructor
  · intro a
    refine ⟨a f (Int.le_refl _) h1, fun j _ h3 h4 h5 => ?_⟩
    have := a (At l j) (by omega) h5
    rwa [val_at h h3] at this
  · rintro ⟨a, b⟩ x h2 h3
    have hx := pl_spec h (t := x) (by omega)
    by_cases c : f < At l (pl l x)
    · exact b _ (by omega) hx.1 c (by have := hx.2.1; omega)
    · have : IsPl l f (pl l x) := ⟨hx.1, by omega, fun hn => by have := hx.2.2 hn; omega⟩
      rw [← pl_eq h this] at hx
      unfold val at a ⊢
      rwa [pl_eq h this] at a
theorem rleast_ev {l : List St} (h : Right l) {f t : Int} (h0 : 0 ≤ f) (h1 : f < t) : ∃ m, Ev (fun k => bailiwickref03_Least.f k l f t) m ∧ IsLeast l f t m := by
  obtain ⟨m, hev, hm⟩ := rleast_loop h f t l.length 0 (val l f) (by omega) (by omega)
  refine ⟨m, Ev.bind (rat_ev h h0) hev, fun n => ?_⟩
  rw [hm n, span_iff2 h.toNorm h0 h1 (fun v => n ≤ v)]
  have := (h.val_amt h0).2
  exact ⟨fun a => ⟨by have := a.1; omega, a⟩, fun a => a.2⟩

end Go.Proofs.Ytimllhflecippaa.StepR
end

section
namespace Go.Proofs.Ytimllhflecippaa.StepT
open Go.RowKit Go.Proofs.YtimllhflecippaaW.PrintWords Go.Proofs.YtimllhflecippaaW.PrintMore Go.Proofs.Ytimllhflecippaa.F Go.Proofs.Ytimllhflecippaa.Pk Go.Proofs.Ytimllhflecippaa.StepP Go.Proofs.Ytimllhflecippaa.StepQ
set_option linter.unusedSimpArgs false
set_option linter.unusedVariables false

theorem same_loop (l : List St) (hl : l.length ≤ 8796093022208) : ∀ (d i : Nat), l.length - i = d → i ≤ l.length → Ev (fun k => bailiwickref03_Same.l0 k l l (i : Int)) true
  | 0, i, hd, hi => by
    refine Ev.step (f := fun _ => some true) (fun k => ?_) (Ev.now _)
    simp only [bailiwickref03_Same.l0]
    rw [if_neg (by omega)]
  | d + 1, i, hd, hi => by
    refine Ev.step (fun k => ?_) (same_loop l hl d (i + 1) (by omega) (by omega))
    have q1 : (i : Int) < (l.length : Int) := by omega
    have q2 : (0 : Int) ≤ (i : Int) := by omega
    simp only [bailiwickref03_Same.l0, if_pos q1, if_pos q2, beq_self_eq_true, Bool.not_true, Bool.or_false, Bool.false_eq_true, if_false, nx i (by omega)]
theorem same_ev (l : List St) (hl : l.length ≤ 8796093022208) : Ev (fun k => bailiwickref03_Same.f k l l) true := by
  have := same_loop l hl l.length 0 (by omega) (by omega)
  refine Ev.congr (fun k => ?_) this
  simp only [bailiwickref03_Same.f, if_true]; rfl

theorem addS_len (o : List St) (a b : Int) : (addS o a b).length ≤ o.length + 1 := by unfold addS; split <;> simp
/-- Where the i-th step begins; behind the last one: behind all times. -/
def beg (l : List St) (i : Nat) : Int := if i < l.length then At l i else Never + 1
theorem plusN_len2 {l : List St} (h : Norm l) {f t n : Int} (h0 : 0 ≤ f) (h1 : f < t) : ∀ i, i ≤ l.length → (plusN l f t n i).length ≤ i + (if f < beg l i then 1 else 0) + (if t < beg l i then 1 else 0)
  | 0, _ => by simp [plusN]
  | i + 1, hi => by
    have ih := plusN_len2 h h0 h1 (n := n) i (by omega)
    have hE := plusE_eq l i
    have e1 : beg l i = At l i := by unfold beg; rw [if_pos (by omega)]
    have e2 : beg l (i + 1) = plusE l i := by unfold beg; rw [hE]
    have hse : At l i < plusE l i := by
      rw [hE]
      split
      · exact (h.rise i (by assumption)).1
      · have := h.top i (by omega); omega
    rw [e2]
    rw [e1] at ih
    show (plus3 l f t n i (plus2 l f t n i (plus1 l f t n i (plusN l f t n i)))).length ≤ _
    have a1 : (plus1 l f t n i (plusN l f t n i)).length ≤ (plusN l f t n i).length + (if At l i < f then 1 else 0) := by
      show (if At l i < f then addS (plusN l f t n i) (At l i) (Vl l i) else plusN l f t n i).length ≤ _
      split
      · exact addS_len _ _ _
      · omega
    generalize plus1 l f t n i (plusN l f t n i) = o1 at *
    have a2 : (plus2 l f t n i o1).length ≤ o1.length + (if mx (At l i) f < mn (plusE l i) t then 1 else 0) := by
      show (if mx (At l i) f < mn (plusE l i) t then addS o1 (mx (At l i) f) (wrap64 (Vl l i + n)) else o1).length ≤ _
      split
      · exact addS_len _ _ _
      · omega
    generalize plus2 l f t n i o1 = o2 at *
    have a3 : (plus3 l f t n i o2).length ≤ o2.length + (if t < plusE l i then 1 else 0) := by
      show (if t < plusE l i then addS o2 (mx (At l i) t) (Vl l i) else o2).length ≤ _
      split
      · exact addS_len _ _ _
      · omega
    generalize plus3 l f t n i o2 = o3 at *
    rw [mx_eq, mn_eq] at a2
    generalize plusE l i = e at *
    generalize At l i = s at *
    clear hE e1 e2
    by_cases c1 : s < f <;> by_cases c2 : f < e <;> by_cases c3 : t < e <;> by_cases c4 : s < t <;> by_cases c5 : f < s <;> by_cases c6 : t < s <;> simp only [c1, c2, c3, c4, c5, c6, if_true, if_false] at ih a1 a2 a3 ⊢ <;> (try split at a2) <;> omega
def chg (l : List St) (f t n : Int) : List St := plusN l f t n l.length
theorem change_ev {l : List St} {f t n : Int} (h : (chg l f t n).length ≤ 1024) (hl : l.length ≤ 1024) : step_change.f l f t n = some (chg l f t n, 0) := by
  unfold step_change.f step_plus.f
  rw [if_pos (by omega)]
  simp only [Option.bind_some]
  unfold chg at h ⊢
  rw [if_neg (by omega)]
theorem clone_ev {l : List St} (h : l.length < 8796093022208) : slices_Clone_api_Step_api_Step.f l = some l := by
  unfold slices_Clone_api_Step_api_Step.f
  simp only [Option.bind_some, List.length_nil, Nat.zero_add, if_pos h, List.nil_append]
theorem chg_len {l : List St} (h : Norm l) {f t n : Int} (h0 : 0 ≤ f) (h1 : f < t) : (chg l f t n).length ≤ l.length + 2 := by
  have := plusN_len2 h h0 h1 (n := n) l.length (Nat.le_refl _)
  unfold chg
  split at this <;> split at this <;> omega
def TakeOk (l : List St) (f t n : Int) : Prop := May l f t ∧ amt n
theorem take_cases (l : List St) (f t n : Int) (hl : l.length ≤ 1000) :
    (¬ TakeOk l f t n ∧ Ev (fun k => step_Take.f k l f t n) (l, 1)) ∨
    (TakeOk l f t n ∧ (¬ ∀ x, f ≤ x → x < t → n ≤ val l x) ∧ Ev (fun k => step_Take.f k l f t n) (l, 5)) ∨
    (TakeOk l f t n ∧ (∀ x, f ≤ x → x < t → n ≤ val l x) ∧ Ev (fun k => step_Take.f k l f t n) (chg l f t (-n), 0)) := by
  have no : ∀ b, b = true → Ev (fun k => step_Take.j0 k l f t n b) (l, 1) := by
    rintro _ rfl
    exact Ev.step (f := fun _ => some (l, 1)) (fun k => by simp only [step_Take.j0, if_true, clone_ev (l := l) (by omega), Option.bind_some]) (Ev.now _)
  by_cases c0 : May l f t
  · by_cases c1 : amt n
    · obtain ⟨m, hev, hm⟩ := least_ev c0.1 c0.2.1 c0.2.2.1
      have hmn := hm n
      by_cases c2 : m < n
      · refine .inr (.inl ⟨⟨c0, c1⟩, fun hc => by have := hmn.2 ⟨c1.2, hc⟩; omega, ?_⟩)
        refine Ev.bind (may_yes c0) ?_
        simp only [if_true, samt, Option.bind_some, decide_eq_true c1, Bool.not_true]
        refine Ev.step (f := fun k => (step_least.f k l f t).bind fun m => if m < n then some (l, 5) else (step_change.f l f t (wrap64 (-n))).bind fun bt => some (bt.1, bt.2)) (fun k => ?_) (Ev.bind hev ?_)
        · simp only [step_Take.j0, Bool.false_eq_true, if_false, clone_ev (l := l) (by omega), Option.bind_some]
        · simp only [if_pos c2]; exact Ev.now _
      · refine .inr (.inr ⟨⟨c0, c1⟩, (hmn.1 (by omega)).2, ?_⟩)
        refine Ev.bind (may_yes c0) ?_
        simp only [if_true, samt, Option.bind_some, decide_eq_true c1, Bool.not_true]
        refine Ev.step (f := fun k => (step_least.f k l f t).bind fun m => if m < n then some (l, 5) else (step_change.f l f t (wrap64 (-n))).bind fun bt => some (bt.1, bt.2)) (fun k => ?_) (Ev.bind hev ?_)
        · simp only [step_Take.j0, Bool.false_eq_true, if_false, clone_ev (l := l) (by omega), Option.bind_some]
        · have := c1.1
          have := c1.2
          have e : wrap64 (-n) = -n := w64 (by omega) (by omega)
          simp only [if_neg c2, e, change_ev (l := l) (f := f) (t := t) (n := -n) (by have := chg_len c0.1.toNorm c0.2.1 c0.2.2.1 (n := -n); omega) (by omega), Option.bind_some]
          exact Ev.now _
    · refine .inl ⟨fun h => c1 h.2, Ev.bind (may_yes c0) ?_⟩
      simp only [if_true, samt, Option.bind_some, decide_eq_false c1, Bool.not_false]
      exact no _ rfl
  · refine .inl ⟨fun h => c0 h.1, Ev.bind (may_no c0) ?_⟩
    simp only [Bool.false_eq_true, if_false]
    exact no _ rfl
theorem give_loop {l : List St} (h : Right l) {f t n : Int} (hn : amt n) (hc : (chg l f t n).length ≤ 1024) (hall : ∀ j, pl l f ≤ j → j < l.length → At l j < t → Vl l j + n ≤ 1048576) : ∀ (d i : Nat), l.length - i = d → i ≤ l.length → pl l f ≤ i → Ev (fun k => step_Give.l0 k l f t n (i : Int)) (chg l f t n, 0) := by
  intro d
  have out : ∀ i : Int, Ev (fun k => step_Give.j2 k l f t n i false) (chg l f t n, 0) := by
    intro i
    refine Ev.step (f := fun _ => some (chg l f t n, 0)) (fun k => ?_) (Ev.now _)
    simp only [step_Give.j2, Bool.false_eq_true, if_false, change_ev hc h.len, Option.bind_some]
  induction d with
  | zero =>
    intro i hd hi hp
    refine Ev.step (fun k => ?_) (out i)
    simp only [step_Give.l0]
    rw [if_neg (by omega)]
  | succ d ih =>
    intro i hd hi hp
    have hlt : i < l.length := by omega
    have q1 : (i : Int) < (l.length : Int) := by omega
    have q2 : (0 : Int) ≤ (i : Int) := by omega
    by_cases c : At l i < t
    · have h1 := hall i hp hlt c
      have h2 := h.amts i hlt
      unfold amt at h2 hn
      have e : wrap64 (Vl l i + n) = Vl l i + n := w64 (by omega) (by omega)
      have n1 : ¬ Vl l i + n > 1048576 := by omega
      refine Ev.step (f := fun k => step_Give.j2 k l f t n (i : Int) true) (fun k => ?_) (Ev.step (fun k => ?_) (ih (i + 1) (by omega) (by omega) (by omega)))
      · simp only [step_Give.l0, if_pos q1, if_pos q2, at_, decide_eq_true c]
      · simp only [step_Give.j2, if_true, if_pos q1, if_pos q2, vl_, e, if_neg n1, nx i (by have := h.len; omega)]
    · refine Ev.step (fun k => ?_) (out i)
      simp only [step_Give.l0, if_pos q1, if_pos q2, at_, decide_eq_false c]
theorem give_ev {l : List St} {f t n : Int} (h : TakeOk l f t n) (hall : ∀ x, f ≤ x → x < t → val l x + n ≤ 1048576) (hc : (chg l f t n).length ≤ 1024) : Ev (fun k => step_Give.f k l f t n) (chg l f t n, 0) := by
  obtain ⟨c0, c1⟩ := h
  refine Ev.bind (may_yes c0) ?_
  simp only [if_true, samt, Option.bind_some, decide_eq_true c1, Bool.not_true]
  refine Ev.step (f := fun k => (step_place.f k l f).bind fun i => step_Give.l0 k l f t n i) (fun k => ?_) (Ev.bind (place_ev c0.1 c0.2.1) ?_)
  · simp only [step_Give.j0, Bool.false_eq_true, if_false]
  · exact give_loop c0.1 c1 hc ((span_iff c0.1.toNorm c0.2.1 c0.2.2.1 (fun v => v + n ≤ 1048576)).1 hall) _ (pl l f) rfl (by have := (pl_spec c0.1.toNorm c0.2.1).1; omega) (Nat.le_refl _)
end Go.Proofs.Ytimllhflecippaa.StepT
end

section
namespace Go.Proofs.Ytimllhflecippaa.StepQ
open Go.RowKit Go.Proofs.YtimllhflecippaaW.PrintWords Go.Proofs.YtimllhflecippaaW.PrintMore Go.Proofs.Ytimllhflecippaa.F Go.Proofs.Ytimllhflecippaa.Pk Go.Proofs.Ytimllhflecippaa.StepP Go.Proofs.Ytimllhflecippaa.StepT
set_option linter.unusedSimpArgs false
set_option linter.unusedVariables false

/-- x behind a row, if it is beyond its last. -/
def put (o : List Int) (x : Int) : List Int := if o.length = 0 ∨ rd o ((o.length - 1 : Nat) : Int) < x then o ++ [x] else o
theorem put_len (o : List Int) (x : Int) : (put o x).length ≤ o.length + 1 := by unfold put; split <;> simp
def stp (p : List St) (f t : Int) (i : Nat) (o : List Int) : List Int := put (if t < At p i then put (if f < At p i then put o f else o) t else (if f < At p i then put o f else o)) (At p i)
def outN (p : List St) (f t : Int) : Nat → List Int
  | 0 => []
  | i + 1 => stp p f t i (outN p f t i)
def timesR (p : List St) (f t : Int) : List Int := put (put (outN p f t p.length) f) t
theorem stp_len (p : List St) (f t : Int) (i : Nat) (o : List Int) : (stp p f t i o).length ≤ o.length + 3 := by
  unfold stp
  refine Nat.le_trans (put_len _ _) ?_
  have h1 := put_len o f
  split
  · refine Nat.le_trans (Nat.succ_le_succ (put_len _ _)) ?_
    split <;> omega
  · split <;> omega
theorem put_pos (o : List Int) (x : Int) : 0 < (put o x).length := by
  unfold put
  by_cases h : o.length = 0 ∨ rd o ((o.length - 1 : Nat) : Int) < x
  · rw [if_pos h]; simp
  · rw [if_neg h]; exact Nat.pos_of_ne_zero (fun e => h (.inl e))
theorem stp_pos (p : List St) (f t : Int) (i : Nat) (o : List Int) : 0 < (stp p f t i o).length := put_pos _ _
theorem outN_len (p : List St) (f t : Int) : ∀ i, (outN p f t i).length ≤ 3 * i
  | 0 => Nat.le_refl _
  | i + 1 => by
    have := stp_len p f t i (outN p f t i)
    have := outN_len p f t i
    show (stp p f t i (outN p f t i)).length ≤ _
    omega
structure Good (o : List Int) (L : Int) : Prop where
  pw : o.Pairwise (· < ·)
  pos : 0 < o.length
  last : rd o ((o.length - 1 : Nat) : Int) = L
theorem rd_nat (o : List Int) (i : Nat) (h : i < o.length) : rd o (i : Int) = o[i] := by unfold rd; simp [h]
theorem Good.le {o : List Int} {L : Int} (h : Good o L) {y : Int} (hy : y ∈ o) : y ≤ L := by
  obtain ⟨j, hj, rfl⟩ := List.mem_iff_getElem.1 hy
  have := h.last
  have hp := h.pos
  rw [rd_nat o _ (by omega)] at this
  rw [← this]
  rcases Nat.lt_or_ge j (o.length - 1) with c | c
  · exact Int.le_of_lt (List.pairwise_iff_getElem.1 h.pw j (o.length - 1) hj (by omega) c)
  · have : j = o.length - 1 := by omega
    subst this; exact Int.le_refl _
theorem good_nil (x : Int) : Good (put [] x) x := ⟨by simp [put], by simp [put], by simp [put, rd]⟩
theorem put_mem {o : List Int} {x y : Int} (h : y ∈ o) : y ∈ put o x := by unfold put; split <;> simp [h]
theorem put_sub {o : List Int} {x y : Int} (h : y ∈ put o x) : y ∈ o ∨ y = x := by unfold put at h; split at h <;> simp_all
theorem put_skip {o : List Int} {L x : Int} (h : Good o L) (hx : x ≤ L) : put o x = o := by
  have := h.pos; have := h.last
  unfold put
  rw [if_neg]
  rintro (h1 | h1) <;> omega
theorem put_good {o : List Int} {L x : Int} (h : Good o L) (hx : L ≤ x) : Good (put o x) x ∧ x ∈ put o x := by
  have hp := h.pos; have hl := h.last
  rcases Int.lt_or_le L x with c | c
  · unfold put
    rw [if_pos (.inr (by omega))]
    refine ⟨⟨List.pairwise_append.2 ⟨h.pw, by simp, fun y hy z hz => ?_⟩, by simp, ?_⟩, by simp⟩
    · simp at hz; subst hz; have := h.le hy; omega
    · rw [rd_nat _ _ (by simp)]; simp
  · obtain rfl : L = x := by omega
    rw [put_skip h (Int.le_refl _)]
    refine ⟨h, ?_⟩
    rw [rd_nat _ _ (by omega)] at hl
    rw [← hl]
    exact List.getElem_mem _
structure TI (p : List St) (f t : Int) (n : Nat) (o : List Int) : Prop where
  good : Good o (At p (n - 1))
  ge0 : ∀ x ∈ o, 0 ≤ x
  has : ∀ j, j < n → At p j ∈ o
  hf : f ≤ At p (n - 1) → f ∈ o
  ht : t ≤ At p (n - 1) → t ∈ o
theorem outN_ti {p : List St} (h : Norm p) {f t : Int} (h0 : 0 ≤ f) (h1 : f < t) : ∀ n, n + 1 ≤ p.length → TI p f t (n + 1) (outN p f t (n + 1))
  | 0, hn => by
    have e : outN p f t 1 = [0] := by
      show stp p f t 0 [] = [0]
      unfold stp
      rw [h.zero, if_neg (by omega), if_neg (by omega)]
      rfl
    rw [e]
    refine ⟨by rw [show At p (0 + 1 - 1) = 0 from h.zero]; exact good_nil 0, by simp, fun j hj => ?_, fun hf => ?_, fun ht => ?_⟩
    · obtain rfl : j = 0 := by omega
      rw [h.zero]; simp
    · rw [show At p (0 + 1 - 1) = 0 from h.zero] at hf
      have : f = 0 := by omega
      simp [this]
    · rw [show At p (0 + 1 - 1) = 0 from h.zero] at ht
      omega
  | n + 1, hn => by
    have ih := outN_ti h h0 h1 n (by omega)
    have e : outN p f t (n + 1 + 1) = stp p f t (n + 1) (outN p f t (n + 1)) := rfl
    have hA : At p n < At p (n + 1) := (h.rise n (by omega)).1
    have hA0 := h.ge0 (i := n) (by omega)
    rw [e]
    generalize outN p f t (n + 1) = o at ih
    obtain ⟨good, ge0, has, hf, ht⟩ := ih
    rw [show n + 1 - 1 = n by omega] at good hf ht
    have s1 : ∃ L1, Good (if f < At p (n + 1) then put o f else o) L1 ∧ L1 < At p (n + 1) ∧ (f < At p (n + 1) → f ∈ (if f < At p (n + 1) then put o f else o)) ∧ (∀ x ∈ o, x ∈ (if f < At p (n + 1) then put o f else o)) ∧ (∀ x ∈ (if f < At p (n + 1) then put o f else o), 0 ≤ x) ∧ (t ≤ L1 → t ∈ (if f < At p (n + 1) then put o f else o)) := by
      by_cases c : f < At p (n + 1)
      · simp only [if_pos c]
        by_cases c2 : f ≤ At p n
        · rw [put_skip good c2]
          exact ⟨_, good, hA, fun _ => hf c2, fun _ h => h, ge0, ht⟩
        · obtain ⟨g1, g2⟩ := put_good good (x := f) (by omega)
          exact ⟨f, g1, c, fun _ => g2, fun _ h => put_mem h, fun x hx => (put_sub hx).elim (ge0 x) (fun e => by omega), fun h => by omega⟩
      · simp only [if_neg c]
        exact ⟨_, good, hA, fun h => absurd h c, fun _ h => h, ge0, ht⟩
    unfold stp
    generalize (if f < At p (n + 1) then put o f else o) = o1 at s1
    obtain ⟨L1, g1, l1, m1, k1, z1, t1⟩ := s1
    have s2 : ∃ L2, Good (if t < At p (n + 1) then put o1 t else o1) L2 ∧ L2 < At p (n + 1) ∧ (t < At p (n + 1) → t ∈ (if t < At p (n + 1) then put o1 t else o1)) ∧ (∀ x ∈ o1, x ∈ (if t < At p (n + 1) then put o1 t else o1)) ∧ (∀ x ∈ (if t < At p (n + 1) then put o1 t else o1), 0 ≤ x) := by
      by_cases c : t < At p (n + 1)
      · simp only [if_pos c]
        by_cases c2 : t ≤ L1
        · rw [put_skip g1 c2]
          exact ⟨_, g1, l1, fun _ => t1 c2, fun _ h => h, z1⟩
        · obtain ⟨g2, g3⟩ := put_good g1 (x := t) (by omega)
          exact ⟨t, g2, c, fun _ => g3, fun _ h => put_mem h, fun x hx => (put_sub hx).elim (z1 x) (fun e => by omega)⟩
      · simp only [if_neg c]
        exact ⟨_, g1, l1, fun h => absurd h c, fun _ h => h, z1⟩
    generalize (if t < At p (n + 1) then put o1 t else o1) = o2 at s2
    obtain ⟨L2, g2, l2, m2, k2, z2⟩ := s2
    obtain ⟨g3, g4⟩ := put_good g2 (x := At p (n + 1)) (by omega)
    refine ⟨g3, fun x hx => (put_sub hx).elim (z2 x) (fun e => by omega), fun j hj => ?_, fun hf' => ?_, fun ht' => ?_⟩
    · rcases Nat.lt_or_ge j (n + 1) with c | c
      · exact put_mem (k2 _ (k1 _ (has j c)))
      · obtain rfl : j = n + 1 := by omega
        exact g4
    · rw [show n + 1 + 1 - 1 = n + 1 by omega] at hf'
      rcases Int.lt_or_le f (At p (n + 1)) with c | c
      · exact put_mem (k2 _ (m1 c))
      · rw [show f = At p (n + 1) by omega]; exact g4
    · rw [show n + 1 + 1 - 1 = n + 1 by omega] at ht'
      rcases Int.lt_or_le t (At p (n + 1)) with c | c
      · exact put_mem (m2 c)
      · rw [show t = At p (n + 1) by omega]; exact g4
structure TimesOf (p : List St) (f t : Int) (l : List Int) : Prop where
  pw : l.Pairwise (· < ·)
  rng : ∀ x ∈ l, 0 ≤ x ∧ x ≤ Never
  has : ∀ j, j < p.length → At p j ∈ l
  hf : f ∈ l
  ht : t ∈ l
  len : l.length ≤ 3 * p.length + 2
theorem timesR_of {p : List St} (h : Right p) {f t : Int} (h0 : 0 ≤ f) (h1 : f < t) (h2 : t ≤ Never) : TimesOf p f t (timesR p f t) := by
  have hp := (right_iff p).1 h
  obtain ⟨m, hm⟩ : ∃ m, p.length = m + 1 := ⟨p.length - 1, by omega⟩
  have ti := outN_ti h.toNorm h0 h1 m (by omega)
  have hl := outN_len p f t p.length
  have top : At p m ≤ Never := ((hp.2.2.2 m (by omega) (by omega)).2.1).2
  unfold timesR
  rw [hm] at hl ⊢
  generalize outN p f t (m + 1) = o at ti hl
  obtain ⟨good, ge0, has, hf, ht⟩ := ti
  rw [show m + 1 - 1 = m by omega] at good hf ht
  have s1 : ∃ L, Good (put o f) L ∧ L ≤ Never ∧ f ∈ put o f ∧ (t ≤ L → t ∈ put o f) := by
    by_cases c : f ≤ At p m
    · rw [put_skip good c]
      exact ⟨_, good, top, hf c, ht⟩
    · obtain ⟨g1, g2⟩ := put_good good (x := f) (by omega)
      exact ⟨f, g1, by omega, g2, fun h => by omega⟩
  obtain ⟨L, g, hL, mf, mt⟩ := s1
  have z1 : ∀ x ∈ put o f, 0 ≤ x := fun x hx => (put_sub hx).elim (ge0 x) (fun e => by omega)
  have s2 : ∃ L2, Good (put (put o f) t) L2 ∧ L2 ≤ Never ∧ t ∈ put (put o f) t := by
    by_cases c : t ≤ L
    · rw [put_skip g c]
      exact ⟨_, g, hL, mt c⟩
    · obtain ⟨g1, g2⟩ := put_good g (x := t) (by omega)
      exact ⟨t, g1, h2, g2⟩
  obtain ⟨L2, g2, hL2, mt2⟩ := s2
  have a1 := put_len o f
  have a2 := put_len (put o f) t
  refine ⟨g2.pw, fun x hx => ⟨(put_sub hx).elim (z1 x) (fun e => by omega), Int.le_trans (g2.le hx) hL2⟩, fun j hj => put_mem (put_mem (has j (by omega))), put_mem mf, mt2, by omega⟩

noncomputable def chgN (p : List St) (f t n : Int) (l : List Int) : Nat → List St
  | 0 => []
  | i + 1 => addS (chgN p f t n l i) (rd l (i : Int)) (more f t n (rd l (i : Int)) (val p (rd l (i : Int))))
theorem chgN_len (p : List St) (f t n : Int) (l : List Int) : ∀ i, (chgN p f t n l i).length ≤ i
  | 0 => Nat.le_refl _
  | i + 1 => Nat.le_trans (StepT.addS_len _ _ _) (Nat.succ_le_succ (chgN_len p f t n l i))
/-- Between two times nothing turns. -/
theorem between {p : List St} {f t : Int} {l : List Int} (hl : TimesOf p f t l) {i : Nat} (hi : i < l.length) {x : Int} (a : rd l (i : Int) ≤ x) (b : i + 1 < l.length → x < rd l ((i + 1 : Nat) : Int)) : (∀ y ∈ l, y ≤ x → y ≤ rd l (i : Int)) := by
  intro y hy hyx
  obtain ⟨j, hj, rfl⟩ := List.mem_iff_getElem.1 hy
  rw [rd_nat l i hi] at a ⊢
  rcases Nat.lt_or_ge i j with c | c
  · exfalso
    have hb := b (by omega)
    rw [rd_nat l (i + 1) (by omega)] at hb
    rcases Nat.lt_or_ge (i + 1) j with d | d
    · have := List.pairwise_iff_getElem.1 hl.pw (i + 1) j (by omega) hj d
      omega
    · have : j = i + 1 := by omega
      subst this; omega
  · rcases Nat.lt_or_ge j i with d | d
    · exact Int.le_of_lt (List.pairwise_iff_getElem.1 hl.pw j i hj hi d)
    · have : j = i := by omega
      subst this; exact Int.le_refl _
theorem same_val {p : List St} (h : Right p) {f t n : Int} {l : List Int} (hl : TimesOf p f t l) {i : Nat} (hi : i < l.length) {x : Int} (a : rd l (i : Int) ≤ x) (b : i + 1 < l.length → x < rd l ((i + 1 : Nat) : Int)) :
    more f t n x (val p x) = more f t n (rd l (i : Int)) (val p (rd l (i : Int))) := by
  have bt := between hl hi a b
  have hr : 0 ≤ rd l (i : Int) := by rw [rd_nat l i hi]; exact (hl.rng _ (List.getElem_mem hi)).1
  have hv : val p x = val p (rd l (i : Int)) := by
    obtain ⟨j, hj⟩ := IsPl.ex h.toNorm hr
    rw [val_eq h.toNorm hj, val_eq h.toNorm (i := j) ⟨hj.1, by have := hj.2.1; omega, fun c => ?_⟩]
    have := hj.2.2 c
    rcases Int.lt_or_le x (At p (j + 1)) with d | d
    · exact d
    · have := bt _ (hl.has (j + 1) c) d
      omega
  rw [hv]
  unfold more
  have c1 : (f ≤ x ∧ x < t) ↔ (f ≤ rd l (i : Int) ∧ rd l (i : Int) < t) := by
    constructor
    · rintro ⟨c, d⟩
      exact ⟨bt f hl.hf c, by omega⟩
    · rintro ⟨c, d⟩
      refine ⟨by omega, ?_⟩
      rcases Int.lt_or_le x t with e | e
      · exact e
      · have := bt t hl.ht e
        omega
  by_cases c : f ≤ x ∧ x < t
  · rw [if_pos c, if_pos (c1.1 c)]
  · rw [if_neg c, if_neg (fun d => c (c1.2 d))]
theorem first_zero {p : List St} (h : Right p) {f t : Int} {l : List Int} (hl : TimesOf p f t l) (hp : 0 < l.length) : rd l ((0 : Nat) : Int) = 0 := by
  have hz := hl.has 0 (by have := (right_iff p).1 h; omega)
  rw [h.zero] at hz
  obtain ⟨j, hj, e⟩ := List.mem_iff_getElem.1 hz
  rw [rd_nat l 0 hp]
  have := (hl.rng _ (List.getElem_mem hp)).1
  rcases Nat.eq_zero_or_pos j with c | c
  · subst c; exact e
  · have := List.pairwise_iff_getElem.1 hl.pw 0 j hp hj c
    omega
theorem chgN_built {p : List St} (h : Right p) {f t n : Int} {l : List Int} (hl : TimesOf p f t l) : ∀ i, i ≤ l.length → Built (chgN p f t n l i) (if i < l.length then rd l (i : Int) else Never + 1) (fun x => more f t n x (val p x))
  | 0, hi => by
    have hp : 0 < l.length := List.length_pos_of_mem hl.hf
    rw [if_pos hp, first_zero h hl hp]
    exact Built.start _
  | i + 1, hi => by
    have hlt : i < l.length := by omega
    have ih := chgN_built h (n := n) hl i (by omega)
    rw [if_pos hlt] at ih
    have hr := hl.rng _ (List.getElem_mem hlt)
    rw [← rd_nat l i hlt] at hr
    refine Built.add ih hr.1 ?_ ?_
    · by_cases c : i + 1 < l.length
      · rw [if_pos c, rd_nat l i hlt, rd_nat l (i + 1) c]
        exact List.pairwise_iff_getElem.1 hl.pw i (i + 1) hlt c (by omega)
      · rw [if_neg c]; omega
    · intro x a b
      refine same_val h hl hlt a (fun c => ?_)
      rw [if_pos c] at b
      exact b
theorem chgN_eq {p : List St} (h : Right p) {f t n : Int} (h0 : 0 ≤ f) (h1 : f < t) (h2 : t ≤ Never) {l : List Int} (hl : TimesOf p f t l) (hn : -1048576 ≤ n ∧ n ≤ 1048576) : chgN p f t n l l.length = chg p f t n := by
  have b := chgN_built h hl (n := n) l.length (Nat.le_refl _)
  rw [if_neg (Nat.lt_irrefl _)] at b
  obtain ⟨a1, a2⟩ := b.norm
  obtain ⟨b1, b2⟩ := plus_norm h h0 h1 h2 hn
  exact Norm.ext a1 b1 (fun x c d => (a2 x c d).trans (b2 x c d).symm)
end Go.Proofs.Ytimllhflecippaa.StepQ
end

section
namespace Go.Proofs.Ytimllhflecippaa.StepR
open Go.RowKit Go.Proofs.YtimllhflecippaaW.PrintWords Go.Proofs.YtimllhflecippaaW.PrintMore Go.Proofs.Ytimllhflecippaa.F Go.Proofs.Ytimllhflecippaa.Pk Go.Proofs.Ytimllhflecippaa.StepP Go.Proofs.Ytimllhflecippaa.StepQ Go.Proofs.Ytimllhflecippaa.StepT
set_option linter.unusedSimpArgs false
set_option linter.unusedVariables false

theorem rmay_yes {l : List St} {f t : Int} (h : May l f t) : Ev (fun k => bailiwickref03_May.f k l f t) true := by
  refine Ev.bind (rright_yes h.1) ?_
  have h2 := h.2
  unfold Never at h2
  simp only [if_true, if_pos (show f ≥ 0 by omega), if_pos h2.2.1, decide_eq_true h2.2.2]
  exact Ev.now _
theorem rmay_no {l : List St} {f t : Int} (h : ¬ May l f t) : Ev (fun k => bailiwickref03_May.f k l f t) false := by
  by_cases c : Right l
  · refine Ev.bind (rright_yes c) ?_
    simp only [if_true]
    have n : ¬ (0 ≤ f ∧ f < t ∧ t ≤ 4611686018427387904) := fun e => h ⟨c, e⟩
    by_cases a : f ≥ 0
    · by_cases b : f < t
      · have d : ¬ t ≤ 4611686018427387904 := fun d => n ⟨a, b, d⟩
        simp only [if_pos a, if_pos b, decide_eq_false d]; exact Ev.now _
      · simp only [if_pos a, if_neg b]; exact Ev.now _
    · simp only [if_neg a]; exact Ev.now _
  · refine Ev.bind (rright_no c) ?_
    simp only [Bool.false_eq_true, if_false]; exact Ev.now _
theorem rAt_ev {l : List St} (h : Right l) {t : Int} (h0 : 0 ≤ t) (h1 : t ≤ Never) : Ev (fun k => bailiwickref03_At.f k l t) (val l t) := by
  refine Ev.bind (rright_yes h) ?_
  unfold Never at h1
  simp only [if_true, if_neg (show ¬ t < 0 by omega), if_neg (show ¬ t > 4611686018427387904 by omega)]
  exact Ev.bind (rat_ev h h0) (Ev.now _)
theorem rAt_no {l : List St} {t : Int} (h : ¬ (Right l ∧ 0 ≤ t ∧ t ≤ Never)) : Ev (fun k => bailiwickref03_At.f k l t) 0 := by
  by_cases c : Right l
  · refine Ev.bind (rright_yes c) ?_
    have n : ¬ (0 ≤ t ∧ t ≤ 4611686018427387904) := fun e => h ⟨c, e⟩
    simp only [if_true]
    by_cases a : t < 0
    · simp only [if_pos a]; exact Ev.now _
    · simp only [if_neg a, if_pos (show t > 4611686018427387904 by omega)]; exact Ev.now _
  · refine Ev.bind (rright_no c) ?_
    simp only [Bool.false_eq_true, if_false]; exact Ev.now _
def IsMost (l : List St) (f t m : Int) : Prop := ∀ n, m ≤ n ↔ ∀ x, f ≤ x → x < t → val l x ≤ n
theorem rmost_loop {l : List St} (h : Right l) (f t : Int) : ∀ (d i : Nat) (a : Int), l.length - i = d → i ≤ l.length → ∃ m, Ev (fun k => bailiwickref03_Most.l0 k l f t a (i : Int)) m ∧ ∀ n, m ≤ n ↔ (a ≤ n ∧ ∀ j, i ≤ j → j < l.length → f < At l j → At l j < t → Vl l j ≤ n)
  | 0, i, a, hd, hi => by
    refine ⟨a, Ev.step (f := fun _ => some a) (fun k => ?_) (Ev.now _), fun n => ⟨fun hn => ⟨hn, fun j h1 h2 => by omega⟩, fun hn => hn.1⟩⟩
    simp only [bailiwickref03_Most.l0]
    rw [if_neg (by omega)]
  | d + 1, i, a, hd, hi => by
    have hlt : i < l.length := by omega
    have q1 : (i : Int) < (l.length : Int) := by omega
    have q2 : (0 : Int) ≤ (i : Int) := by omega
    by_cases c : At l i > f
    · by_cases c1 : At l i < t
      · by_cases c2 : Vl l i > a
        · obtain ⟨m, hev, hm⟩ := rmost_loop h f t d (i + 1) (Vl l i) (by omega) (by omega)
          refine ⟨m, Ev.step (fun k => ?_) hev, fun n => ?_⟩
          · simp only [bailiwickref03_Most.l0, if_pos q1, if_pos q2, at_, vl_, if_pos c, if_pos c1, if_pos c2, nx i (by have := h.len; omega)]
          · rw [hm n, all_step hlt]
            exact ⟨fun ⟨x, y⟩ => ⟨by omega, fun _ _ => x, y⟩, fun ⟨x, y, z⟩ => ⟨y c c1, z⟩⟩
        · obtain ⟨m, hev, hm⟩ := rmost_loop h f t d (i + 1) a (by omega) (by omega)
          refine ⟨m, Ev.step (fun k => ?_) hev, fun n => ?_⟩
          · simp only [bailiwickref03_Most.l0, if_pos q1, if_pos q2, at_, vl_, if_pos c, if_pos c1, if_neg c2, nx i (by have := h.len; omega)]
          · rw [hm n, all_step hlt]
            exact ⟨fun ⟨x, y⟩ => ⟨x, fun _ _ => by omega, y⟩, fun ⟨x, y, z⟩ => ⟨x, z⟩⟩
      · obtain ⟨m, hev, hm⟩ := rmost_loop h f t d (i + 1) a (by omega) (by omega)
        refine ⟨m, Ev.step (fun k => ?_) hev, fun n => ?_⟩
        · simp only [bailiwickref03_Most.l0, if_pos q1, if_pos q2, at_, vl_, if_pos c, if_neg c1, nx i (by have := h.len; omega)]
        · rw [hm n, all_step hlt]
          exact ⟨fun ⟨x, y⟩ => ⟨x, fun _ h' => absurd h' c1, y⟩, fun ⟨x, y, z⟩ => ⟨x, z⟩⟩
    · obtain ⟨m, hev, hm⟩ := rmost_loop h f t d (i + 1) a (by omega) (by omega)
      refine ⟨m, Ev.step (fun k => ?_) hev, fun n => ?_⟩
      · simp only [bailiwickref03_Most.l0, if_pos q1, if_pos q2, at_, vl_, if_neg c, nx i (by have := h.len; omega)]
      · rw [hm n, all_step hlt]
        exact ⟨fun ⟨x, y⟩ => ⟨x, fun h' => absurd h' c, y⟩, fun ⟨x, y, z⟩ => ⟨x, z⟩⟩
theorem rmost_ev {l : List St} (h : Right l) {f t : Int} (h0 : 0 ≤ f) (h1 : f < t) : ∃ m, Ev (fun k => bailiwickref03_Most.f k l f t) m ∧ IsMost l f t m := by
  obtain ⟨m, hev, hm⟩ := rmost_loop h f t l.length 0 (val l f) (by omega) (by omega)
  refine ⟨m, Ev.bind (rat_ev h h0) hev, fun n => ?_⟩
  rw [hm n, span_iff2 h.toNorm h0 h1 (fun v => v ≤ n)]
theorem give_over {l : List St} (h : Right l) {f t n : Int} (hn : amt n) : ∀ (d i : Nat), l.length - i = d → i ≤ l.length → (∃ j, i ≤ j ∧ j < l.length ∧ At l j < t ∧ 1048576 < Vl l j + n) → Ev (fun k => step_Give.l0 k l f t n (i : Int)) (l, 9)
  | 0, i, hd, hi, ⟨j, h1, h2, _⟩ => by omega
  | d + 1, i, hd, hi, ⟨j, h1, h2, h3, h4⟩ => by
    have hlt : i < l.length := by omega
    have q1 : (i : Int) < (l.length : Int) := by omega
    have q2 : (0 : Int) ≤ (i : Int) := by omega
    have hle := h.le h1 h2
    have c : At l i < t := by omega
    have hv := h.amts i hlt
    have hn' := hn
    unfold amt at hv hn'
    have e : wrap64 (Vl l i + n) = Vl l i + n := w64 (by omega) (by omega)
    by_cases c1 : Vl l i + n > 1048576
    · refine Ev.step (f := fun k => step_Give.j2 k l f t n (i : Int) true) (fun k => ?_) (Ev.step (f := fun _ => some (l, 9)) (fun k => ?_) (Ev.now _))
      · simp only [step_Give.l0, if_pos q1, if_pos q2, at_, decide_eq_true c]
      · simp only [step_Give.j2, if_true, if_pos q1, if_pos q2, vl_, e, if_pos c1, clone_ev (l := l) (by have := h.len; omega), Option.bind_some]
    · have hne : i ≠ j := fun e => by subst e; omega
      refine Ev.step (f := fun k => step_Give.j2 k l f t n (i : Int) true) (fun k => ?_) (Ev.step (fun k => ?_) (give_over (f := f) h hn d (i + 1) (by omega) (by omega) ⟨j, by omega, h2, h3, h4⟩))
      · simp only [step_Give.l0, if_pos q1, if_pos q2, at_, decide_eq_true c]
      · simp only [step_Give.j2, if_true, if_pos q1, if_pos q2, vl_, e, if_neg c1, nx i (by have := h.len; omega)]
theorem give_cases (l : List St) (f t n : Int) (hl : l.length ≤ 1000) :
    (¬ TakeOk l f t n ∧ Ev (fun k => step_Give.f k l f t n) (l, 1)) ∨
    (TakeOk l f t n ∧ (¬ ∀ x, f ≤ x → x < t → val l x + n ≤ 1048576) ∧ Ev (fun k => step_Give.f k l f t n) (l, 9)) ∨
    (TakeOk l f t n ∧ (∀ x, f ≤ x → x < t → val l x + n ≤ 1048576) ∧ Ev (fun k => step_Give.f k l f t n) (chg l f t n, 0)) := by
  have no : ∀ b, b = true → Ev (fun k => step_Give.j0 k l f t n b) (l, 1) := by
    rintro _ rfl
    exact Ev.step (f := fun _ => some (l, 1)) (fun k => by simp only [step_Give.j0, if_true, clone_ev (l := l) (by omega), Option.bind_some]) (Ev.now _)
  by_cases c0 : May l f t
  · by_cases c1 : amt n
    · by_cases c2 : ∀ x, f ≤ x → x < t → val l x + n ≤ 1048576
      · exact .inr (.inr ⟨⟨c0, c1⟩, c2, give_ev ⟨c0, c1⟩ c2 (by have := chg_len c0.1.toNorm c0.2.1 c0.2.2.1 (n := n); omega)⟩)
      · refine .inr (.inl ⟨⟨c0, c1⟩, c2, ?_⟩)
        refine Ev.bind (may_yes c0) ?_
        simp only [if_true, samt, Option.bind_some, decide_eq_true c1, Bool.not_true]
        refine Ev.step (f := fun k => (step_place.f k l f).bind fun i => step_Give.l0 k l f t n i) (fun k => ?_) (Ev.bind (place_ev c0.1 c0.2.1) ?_)
        · simp only [step_Give.j0, Bool.false_eq_true, if_false]
        · refine give_over c0.1 c1 _ (pl l f) rfl (by have := (pl_spec c0.1.toNorm c0.2.1).1; omega) ?_
          rw [span_iff c0.1.toNorm c0.2.1 c0.2.2.1 (fun v => v + n ≤ 1048576)] at c2
          refine Classical.byContradiction fun hc => c2 fun j h1 h2 h3 => ?_
          rcases Int.lt_or_le 1048576 (Vl l j + n) with q | q
          · exact absurd ⟨j, h1, h2, h3, q⟩ hc
          · exact q
    · refine .inl ⟨fun h => c1 h.2, Ev.bind (may_yes c0) ?_⟩
      simp only [if_true, samt, Option.bind_some, decide_eq_false c1, Bool.not_false]
      exact no _ rfl
  · refine .inl ⟨fun h => c0 h.1, Ev.bind (may_no c0) ?_⟩
    simp only [Bool.false_eq_true, if_false]
    exact no _ rfl
end Go.Proofs.Ytimllhflecippaa.StepR
end

section
namespace Go.Proofs.Ytimllhflecippaa.Ab
open Go.RowKit
set_option linter.unusedVariables false
set_option linter.unusedSimpArgs false

open Classical in
/-- What Take, and Give, come to. -/
noncomputable def takeL (p : List F.S45) (f t n : Int) : List F.S45 × Int :=
  if StepT.TakeOk p f t n then (if ∀ x, f ≤ x → x < t → n ≤ StepP.val p x then (StepT.chg p f t (-n), 0) else (p, 5)) else (p, 1)
open Classical in
noncomputable def giveL (p : List F.S45) (f t n : Int) : List F.S45 × Int :=
  if StepT.TakeOk p f t n then (if ∀ x, f ≤ x → x < t → StepP.val p x + n ≤ 1048576 then (StepT.chg p f t n, 0) else (p, 9)) else (p, 1)
theorem take_ev (p : List F.S45) (f t n : Int) (hl : p.length ≤ 1000) : Go.Proofs.YtimllhflecippaaW.PrintWords.Ev (fun k => F.step_Take.f k p f t n) (takeL p f t n) := by
  unfold takeL
  rcases StepT.take_cases p f t n hl with ⟨a, h⟩ | ⟨a, b, h⟩ | ⟨a, b, h⟩
  · rw [if_neg a]; exact h
  · rw [if_pos a, if_neg b]; exact h
  · rw [if_pos a, if_pos b]; exact h
theorem give_ev' (p : List F.S45) (f t n : Int) (hl : p.length ≤ 1000) : Go.Proofs.YtimllhflecippaaW.PrintWords.Ev (fun k => F.step_Give.f k p f t n) (giveL p f t n) := by
  unfold giveL
  rcases StepR.give_cases p f t n hl with ⟨a, h⟩ | ⟨a, b, h⟩ | ⟨a, b, h⟩
  · rw [if_neg a]; exact h
  · rw [if_pos a, if_neg b]; exact h
  · rw [if_pos a, if_pos b]; exact h
end Go.Proofs.Ytimllhflecippaa.Ab
end

section
namespace Go.Proofs.Ytimllhflecippaa.PoolQ
open Go.RowKit Go.Proofs.YtimllhflecippaaW.PrintWords Go.Proofs.YtimllhflecippaaW.PrintMore Go.Proofs.Ytimllhflecippaa.F Go.Proofs.Ytimllhflecippaa.Pk Go.Proofs.Ytimllhflecippaa.StepP Go.Proofs.Ytimllhflecippaa.StepQ Go.Proofs.Ytimllhflecippaa.PoolP
set_option linter.unusedSimpArgs false
set_option linter.unusedVariables false

def Short (L : List (List St)) : Prop := L.length ≤ 6 ∧ ∀ i, i < L.length → (lg L i).length ≤ 100
theorem short_loop (L : List (List St)) (hl : L.length ≤ 6) : ∀ (d i : Nat) (b : Bool), L.length - i = d → i ≤ L.length → (b = true ↔ ∀ j, i ≤ j → j < L.length → (lg L j).length ≤ 100) → Ev (fun k => bailiwicklaw04_short.l0 k L (i : Int)) b
  | 0, i, b, hd, hi, hb => by
    rw [bool_true hb (fun j h1 h2 => by omega)]
    refine Ev.step (f := fun _ => some true) (fun k => ?_) (Ev.now _)
    simp only [bailiwicklaw04_short.l0]
    rw [if_neg (by omega)]
  | d + 1, i, b, hd, hi, hb => by
    have hlt : i < L.length := by omega
    rw [all_step (P := fun j => (lg L j).length ≤ 100) hlt] at hb
    have q1 : (i : Int) < (L.length : Int) := by omega
    have q2 : (0 : Int) ≤ (i : Int) := by omega
    by_cases c : ((lg L i).length : Int) > 100
    · rw [bool_false hb (fun h => by have := h.1; omega)]
      refine Ev.step (f := fun _ => some false) (fun k => ?_) (Ev.now _)
      simp only [bailiwicklaw04_short.l0, if_pos q1, if_pos q2, if_pos c]
    · refine Ev.step (fun k => ?_) (short_loop L hl d (i + 1) b (by omega) (by omega) (hb.trans ⟨fun h => h.2, fun h => ⟨by omega, h⟩⟩))
      simp only [bailiwicklaw04_short.l0, if_pos q1, if_pos q2, if_neg c, nx i (by omega)]
theorem short_ev (L : List (List St)) (b : Bool) (hb : b = true ↔ Short L) : Ev (fun k => bailiwicklaw04_short.f k L) b := by
  by_cases c : (L.length : Int) > 6
  · rw [bool_false hb (fun h => by have := h.1; omega)]
    refine Ev.congr (f := fun _ => some false) (fun k => ?_) (Ev.now _)
    simp only [bailiwicklaw04_short.f, if_pos c]
  · refine Ev.congr (fun k => ?_) (short_loop L (by omega) L.length 0 b (by omega) (by omega) (hb.trans ⟨fun h j _ hj => h.2 j hj, fun h => ⟨by omega, fun j hj => h j (by omega) hj⟩⟩))
    simp only [bailiwicklaw04_short.f, if_neg c]; rfl
/-- So much of each pool. -/
abbrev ng (n : List Int) (i : Nat) : Int := rd n (i : Int)
def Goods (L : List (List St)) (n : List Int) : Prop := PRight L ∧ n.length = L.length
section
variable {L : List (List St)} {long : Int} {n : List Int} (hg : Goods L n)
include hg
end
end Go.Proofs.Ytimllhflecippaa.PoolQ
end

section
namespace Go.Proofs.Ytimllhflecippaa.PoolQ
open Go.RowKit Go.Proofs.YtimllhflecippaaW.PrintWords Go.Proofs.YtimllhflecippaaW.PrintMore Go.Proofs.Ytimllhflecippaa.F Go.Proofs.Ytimllhflecippaa.Pk Go.Proofs.Ytimllhflecippaa.StepP Go.Proofs.Ytimllhflecippaa.StepQ Go.Proofs.Ytimllhflecippaa.StepT Go.Proofs.Ytimllhflecippaa.PoolP
set_option linter.unusedSimpArgs false
set_option linter.unusedVariables false

theorem clone_loop {L : List (List St)} (h : Short L) : ∀ (d i : Nat), L.length - i = d → i ≤ L.length → Ev (fun k => pools_clone.l0 k (mk i (lg L)) L (L.length : Int) (i : Int)) L
  | 0, i, hd, hi => by
    have : i = L.length := by omega
    subst this
    refine Ev.step (f := fun _ => some L) (fun k => ?_) (Ev.now _)
    simp only [pools_clone.l0]
    rw [if_neg (by omega), mk_self]
  | d + 1, i, hd, hi => by
    have hlt : i < L.length := by omega
    have h1 := h.1
    have h2 := h.2 i hlt
    have q1 : (i : Int) < (L.length : Int) := by omega
    have q2 : (0 : Int) ≤ (i : Int) := by omega
    have q3 : (mk i (lg L)).length < 5864062014805 := by rw [mk_len]; omega
    have := clone_loop h d (i + 1) (by omega) (by omega)
    rw [mk_succ] at this
    refine Ev.step (fun k => ?_) this
    have hc := clone_ev (l := lg L i) (by omega)
    simp only [pools_clone.l0, if_pos q1, if_pos q2, hc, Option.bind_some, if_pos q3, nx i (by omega)]
theorem clone_ev {L : List (List St)} (h : Short L) : Ev (fun k => pools_clone.f k L) L := by
  exact clone_loop h L.length 0 (by omega) (by omega)
end Go.Proofs.Ytimllhflecippaa.PoolQ
end

section
namespace Go.Proofs.Ytimllhflecippaa.PoolQ
open Go.RowKit Go.Proofs.YtimllhflecippaaW.PrintWords Go.Proofs.YtimllhflecippaaW.PrintMore Go.Proofs.Ytimllhflecippaa.F Go.Proofs.Ytimllhflecippaa.Pk Go.Proofs.Ytimllhflecippaa.StepP Go.Proofs.Ytimllhflecippaa.StepQ Go.Proofs.Ytimllhflecippaa.StepT Go.Proofs.Ytimllhflecippaa.PoolP
set_option linter.unusedSimpArgs false
set_option linter.unusedVariables false

/-- One behind the other, till one can't be. -/
def eachN (L : List (List St)) (g : Nat → List St × Int) : Nat → Nat → List (List St) → List (List St) × Int
  | 0, _, out => (out, 0)
  | d + 1, i, out => if (g i).2 = 0 then eachN L g d (i + 1) (out ++ [(g i).1]) else (L, (g i).2)
open Classical in
noncomputable def changeL (L : List (List St)) (f t : Int) (n : List Int) (give : Bool) : List (List St) × Int :=
  if Goods L n then eachN L (fun i => if give = true then Ab.giveL (lg L i) f t (ng n i) else Ab.takeL (lg L i) f t (ng n i)) L.length 0 [] else (L, 1)
theorem takeL_len (p : List St) (f t n : Int) (hl : p.length ≤ 300) : (Ab.takeL p f t n).1.length ≤ p.length + 2 := by
  unfold Ab.takeL
  split
  · rename_i h
    split
    · have := chg_len h.1.1.toNorm h.1.2.1 h.1.2.2.1 (n := -n); simp only; omega
    · simp only; omega
  · simp only; omega
theorem giveL_len (p : List St) (f t n : Int) (hl : p.length ≤ 300) : (Ab.giveL p f t n).1.length ≤ p.length + 2 := by
  unfold Ab.giveL
  split
  · rename_i h
    split
    · have := chg_len h.1.1.toNorm h.1.2.1 h.1.2.2.1 (n := n); simp only; omega
    · simp only; omega
  · simp only; omega
/-- Rows that aren't too long. -/
def Fine (L : List (List St)) : Prop := L.length ≤ 10 ∧ ∀ p ∈ L, p.length ≤ 302
theorem short_fine {L : List (List St)} (h : Short L) : Fine L := ⟨by have := h.1; omega, fun p hp => by
  obtain ⟨i, hi, rfl⟩ := List.mem_iff_getElem.1 hp
  have := h.2 i hi
  rw [lg_eq L i hi] at this
  omega⟩
theorem eachN_fine {L : List (List St)} (hL : Fine L) {g : Nat → List St × Int} (hg : ∀ i, (g i).1.length ≤ 302) : ∀ (d i : Nat) (out : List (List St)), out.length + d ≤ 10 → (∀ p ∈ out, p.length ≤ 302) → Fine (eachN L g d i out).1
  | 0, i, out, h1, h2 => ⟨by simp only [eachN]; omega, h2⟩
  | d + 1, i, out, h1, h2 => by
    unfold eachN
    split
    · refine eachN_fine hL hg d (i + 1) _ (by simp; omega) fun p hp => ?_
      rcases List.mem_append.1 hp with hp | hp
      · exact h2 p hp
      · rw [List.mem_singleton.1 hp]; exact hg i
    · exact hL
theorem change_fine {L : List (List St)} (h : Short L) (f t : Int) (n : List Int) (give : Bool) : Fine (changeL L f t n give).1 := by
  unfold changeL
  split
  · refine eachN_fine (short_fine h) (fun i => ?_) _ _ _ (by have := h.1; simp; omega) (by simp)
    have hp : (lg L i).length ≤ 100 := by
      rcases Nat.lt_or_ge i L.length with c | c
      · exact h.2 i c
      · have : lg L i = [] := by
          show L.getD (i : Int).toNat [] = _
          rw [List.getD_eq_getElem?_getD]; simp [c]
        rw [this]; simp
    cases give with
    | true => have := giveL_len (lg L i) f t (ng n i) (by omega); simp only [if_true]; omega
    | false => have := takeL_len (lg L i) f t (ng n i) (by omega); simp only [Bool.false_eq_true, if_false]; omega
  · exact short_fine h
theorem each_take {L : List (List St)} (hs : Short L) {f t : Int} {n : List Int} (hn : n.length = L.length) : ∀ (d i : Nat) (out : List (List St)), L.length - i = d → i ≤ L.length → out.length ≤ i →
    Ev (fun k => pools_each_at_step_Take.l0 k L f t n out L (L.length : Int) (i : Int)) (eachN L (fun i => Ab.takeL (lg L i) f t (ng n i)) d i out)
  | 0, i, out, hd, hi, ho => by
    refine Ev.step (f := fun _ => some _) (fun k => ?_) (Ev.now _)
    simp only [pools_each_at_step_Take.l0, eachN]
    rw [if_neg (by omega)]
  | d + 1, i, out, hd, hi, ho => by
    have hlt : i < L.length := by omega
    have h1 := hs.1
    have h2 := hs.2 i hlt
    have q1 : (i : Int) < (L.length : Int) := by omega
    have q2 : (0 : Int) ≤ (i : Int) := by omega
    have q3 : out.length < 5864062014805 := by omega
    have q4 : (i : Int) < (n.length : Int) := by omega
    have e : ∀ k, pools_each_at_step_Take.l0 (k + 1) L f t n out L (L.length : Int) (i : Int) = (step_Take.f k (lg L i) f t (ng n i)).bind fun bt => if bt.2 = 0 then pools_each_at_step_Take.l0 k L f t n (out ++ [bt.1]) L (L.length : Int) ((i + 1 : Nat) : Int) else (pools_clone.f k L).bind fun t => some (t, bt.2) := by
      intro k
      simp only [pools_each_at_step_Take.l0, if_pos q1, if_pos q2, if_pos q3, if_pos q4, nx i (by omega)]
    refine Ev.step e (Ev.bind (Ab.take_ev (lg L i) f t (ng n i) (by omega)) ?_)
    unfold eachN
    by_cases c : (Ab.takeL (lg L i) f t (ng n i)).2 = 0
    · simp only [if_pos c]
      exact each_take hs hn d (i + 1) _ (by omega) (by omega) (by simp; omega)
    · simp only [if_neg c]
      exact Ev.bind (clone_ev hs) (Ev.now _)
theorem each_give {L : List (List St)} (hs : Short L) {f t : Int} {n : List Int} (hn : n.length = L.length) : ∀ (d i : Nat) (out : List (List St)), L.length - i = d → i ≤ L.length → out.length ≤ i →
    Ev (fun k => pools_each_at_step_Give.l0 k L f t n out L (L.length : Int) (i : Int)) (eachN L (fun i => Ab.giveL (lg L i) f t (ng n i)) d i out)
  | 0, i, out, hd, hi, ho => by
    refine Ev.step (f := fun _ => some _) (fun k => ?_) (Ev.now _)
    simp only [pools_each_at_step_Give.l0, eachN]
    rw [if_neg (by omega)]
  | d + 1, i, out, hd, hi, ho => by
    have hlt : i < L.length := by omega
    have h1 := hs.1
    have h2 := hs.2 i hlt
    have q1 : (i : Int) < (L.length : Int) := by omega
    have q2 : (0 : Int) ≤ (i : Int) := by omega
    have q3 : out.length < 5864062014805 := by omega
    have q4 : (i : Int) < (n.length : Int) := by omega
    have e : ∀ k, pools_each_at_step_Give.l0 (k + 1) L f t n out L (L.length : Int) (i : Int) = (step_Give.f k (lg L i) f t (ng n i)).bind fun bt => if bt.2 = 0 then pools_each_at_step_Give.l0 k L f t n (out ++ [bt.1]) L (L.length : Int) ((i + 1 : Nat) : Int) else (pools_clone.f k L).bind fun t => some (t, bt.2) := by
      intro k
      simp only [pools_each_at_step_Give.l0, if_pos q1, if_pos q2, if_pos q3, if_pos q4, nx i (by omega)]
    refine Ev.step e (Ev.bind (Ab.give_ev' (lg L i) f t (ng n i) (by omega)) ?_)
    unfold eachN
    by_cases c : (Ab.giveL (lg L i) f t (ng n i)).2 = 0
    · simp only [if_pos c]
      exact each_give hs hn d (i + 1) _ (by omega) (by omega) (by simp; omega)
    · simp only [if_neg c]
      exact Ev.bind (clone_ev hs) (Ev.now _)
theorem ptake_chg {L : List (List St)} (hs : Short L) (f t : Int) (n : List Int) (hn : n.length ≤ 1000) : Ev (fun k => pools_Take.f k L f t n) (changeL L f t n false) := by
  have fin : ∀ r : List (List St) × Int, Ev (fun k => pools_each_at_step_Take.f k L f t n) r → Ev (fun k => pools_Take.f k L f t n) r := fun r h => Ev.bind h (Ev.now _)
  refine fin _ ?_
  have no : ∀ b, b = true → Ev (fun k => pools_each_at_step_Take.j0 k L f t n b) (L, 1) := by
    rintro _ rfl
    refine Ev.step (f := fun k => (pools_clone.f k L).bind fun t => some (t, 1)) (fun k => ?_) (Ev.bind (clone_ev hs) (Ev.now _))
    simp only [pools_each_at_step_Take.j0, if_true]
  unfold changeL
  by_cases c : PRight L
  · refine Ev.bind (pright_yes c) ?_
    simp only [if_true]
    by_cases c1 : n.length = L.length
    · have e : ((n.length : Int) != (L.length : Int)) = false := by rw [c1]; simp
      rw [if_pos ⟨c, c1⟩, e]
      refine Ev.step (f := fun k => pools_each_at_step_Take.l0 k L f t n [] L (L.length : Int) ((0 : Nat) : Int)) (fun k => ?_) ?_
      · simp only [pools_each_at_step_Take.j0, Bool.false_eq_true, if_false]; rfl
      · simpa only [Bool.false_eq_true, if_false] using each_take hs c1 L.length 0 [] (by omega) (by omega) (by simp)
    · have e : ((n.length : Int) != (L.length : Int)) = true := by simp; omega
      rw [if_neg (fun h => c1 h.2), e]
      exact no _ rfl
  · rw [if_neg (fun h => c h.1)]
    refine Ev.bind (pright_no c) ?_
    simp only [Bool.false_eq_true, if_false]
    exact no _ rfl
theorem pgive_chg {L : List (List St)} (hs : Short L) (f t : Int) (n : List Int) (hn : n.length ≤ 1000) : Ev (fun k => pools_Give.f k L f t n) (changeL L f t n true) := by
  have fin : ∀ r : List (List St) × Int, Ev (fun k => pools_each_at_step_Give.f k L f t n) r → Ev (fun k => pools_Give.f k L f t n) r := fun r h => Ev.bind h (Ev.now _)
  refine fin _ ?_
  have no : ∀ b, b = true → Ev (fun k => pools_each_at_step_Give.j0 k L f t n b) (L, 1) := by
    rintro _ rfl
    refine Ev.step (f := fun k => (pools_clone.f k L).bind fun t => some (t, 1)) (fun k => ?_) (Ev.bind (clone_ev hs) (Ev.now _))
    simp only [pools_each_at_step_Give.j0, if_true]
  unfold changeL
  by_cases c : PRight L
  · refine Ev.bind (pright_yes c) ?_
    simp only [if_true]
    by_cases c1 : n.length = L.length
    · have e : ((n.length : Int) != (L.length : Int)) = false := by rw [c1]; simp
      rw [if_pos ⟨c, c1⟩, e]
      refine Ev.step (f := fun k => pools_each_at_step_Give.l0 k L f t n [] L (L.length : Int) ((0 : Nat) : Int)) (fun k => ?_) ?_
      · simp only [pools_each_at_step_Give.j0, Bool.false_eq_true, if_false]; rfl
      · simpa only [if_true] using each_give hs c1 L.length 0 [] (by omega) (by omega) (by simp)
    · have e : ((n.length : Int) != (L.length : Int)) = true := by simp; omega
      rw [if_neg (fun h => c1 h.2), e]
      exact no _ rfl
  · rw [if_neg (fun h => c h.1)]
    refine Ev.bind (pright_no c) ?_
    simp only [Bool.false_eq_true, if_false]
    exact no _ rfl
theorem fsame_loop {L : List (List St)} (h : Fine L) : ∀ (d i : Nat), L.length - i = d → i ≤ L.length → Ev (fun k => bailiwickref04_Same.l0 k L L (i : Int)) true
  | 0, i, hd, hi => by
    refine Ev.step (f := fun _ => some true) (fun k => ?_) (Ev.now _)
    simp only [bailiwickref04_Same.l0]
    rw [if_neg (by omega)]
  | d + 1, i, hd, hi => by
    have hlt : i < L.length := by omega
    have h1 := h.1
    have h2 : (lg L i).length ≤ 302 := by rw [lg_eq L i hlt]; exact h.2 _ (List.getElem_mem hlt)
    have q1 : (i : Int) < (L.length : Int) := by omega
    have q2 : (0 : Int) ≤ (i : Int) := by omega
    refine Ev.step (f := fun k => (bailiwickref03_Same.f k (lg L i) (lg L i)).bind fun t => if t = true then bailiwickref04_Same.l0 k L L ((i + 1 : Nat) : Int) else some false) (fun k => ?_) (Ev.bind (same_ev _ (by omega)) ?_)
    · simp only [bailiwickref04_Same.l0, if_pos q1, if_pos q2, nx i (by omega)]
    · simp only [if_true]
      exact fsame_loop h d (i + 1) (by omega) (by omega)
theorem fsame_ev {L : List (List St)} (h : Fine L) : Ev (fun k => bailiwickref04_Same.f k L L) true := by
  refine Ev.congr (fun k => ?_) (fsame_loop h L.length 0 (by omega) (by omega))
  simp only [bailiwickref04_Same.f, if_true]; rfl
theorem pat_none {L : List (List St)} (h : ¬ PRight L) (t : Int) : Ev (fun k => pools_At.f k L t) [] := by
  refine Ev.bind (pright_no h) ?_
  simp only [Bool.false_eq_true, if_false]
  exact Ev.now _
end Go.Proofs.Ytimllhflecippaa.PoolQ
end

section
namespace Go.Proofs.Ytimllhflecippaa.PoolR
open Go.RowKit Go.Proofs.YtimllhflecippaaW.PrintWords Go.Proofs.YtimllhflecippaaW.PrintMore Go.Proofs.Ytimllhflecippaa.F Go.Proofs.Ytimllhflecippaa.Pk Go.Proofs.Ytimllhflecippaa.StepP Go.Proofs.Ytimllhflecippaa.StepQ Go.Proofs.Ytimllhflecippaa.StepR Go.Proofs.Ytimllhflecippaa.PoolP
set_option linter.unusedSimpArgs false
set_option linter.unusedVariables false

theorem r4_loop (L : List (List St)) (hl : L.length ≤ 6) : ∀ (d i : Nat) (b : Bool), L.length - i = d → i ≤ L.length → (b = true ↔ 1 ≤ L.length ∧ ∀ j, i ≤ j → j < L.length → j ≤ 3 ∧ Right (lg L j)) → Ev (fun k => bailiwickref04_Right.l0 k L (i : Int)) b
  | 0, i, b, hd, hi, hb => by
    refine Ev.step (f := fun _ => some b) (fun k => ?_) (Ev.now _)
    have q : ¬ (i : Int) < (L.length : Int) := by omega
    simp only [bailiwickref04_Right.l0, if_neg q]
    congr 1
    rw [Bool.eq_iff_iff, hb, decide_eq_true_eq]
    exact ⟨fun h => ⟨by omega, fun j h1 h2 => by omega⟩, fun h => by omega⟩
  | d + 1, i, b, hd, hi, hb => by
    have hlt : i < L.length := by omega
    rw [all_step (P := fun j => j ≤ 3 ∧ Right (lg L j)) hlt] at hb
    have q1 : (i : Int) < (L.length : Int) := by omega
    have q2 : (0 : Int) ≤ (i : Int) := by omega
    by_cases c : (i : Int) > 3
    · rw [bool_false hb (fun h => by have := h.2.1.1; omega)]
      refine Ev.step (f := fun _ => some false) (fun k => ?_) (Ev.now _)
      simp only [bailiwickref04_Right.l0, if_pos q1, if_pos c]
    by_cases c1 : Right (lg L i)
    · refine Ev.step (f := fun k => (bailiwickref03_Right.f k (lg L i)).bind fun t => if t = true then bailiwickref04_Right.l0 k L ((i + 1 : Nat) : Int) else some false) (fun k => ?_) (Ev.bind (rright_yes c1) ?_)
      · simp only [bailiwickref04_Right.l0, if_pos q1, if_neg c, if_pos q2, nx i (by omega)]
      · simp only [if_true]
        exact r4_loop L hl d (i + 1) b (by omega) (by omega) (hb.trans ⟨fun h => ⟨h.1, h.2.2⟩, fun h => ⟨h.1, ⟨by omega, c1⟩, h.2⟩⟩)
    · rw [bool_false hb (fun h => c1 h.2.1.2)]
      refine Ev.step (f := fun k => (bailiwickref03_Right.f k (lg L i)).bind fun t => if t = true then bailiwickref04_Right.l0 k L ((i + 1 : Nat) : Int) else some false) (fun k => ?_) (Ev.bind (rright_no c1) ?_)
      · simp only [bailiwickref04_Right.l0, if_pos q1, if_neg c, if_pos q2, nx i (by omega)]
      · simp only [Bool.false_eq_true, if_false]; exact Ev.now _
theorem r4_ev (L : List (List St)) (hl : L.length ≤ 6) (b : Bool) (hb : b = true ↔ PRight L) : Ev (fun k => bailiwickref04_Right.f k L) b := by
  refine r4_loop L hl L.length 0 b (by omega) (by omega) (hb.trans ⟨fun h => ⟨h.1, fun j _ hj => ⟨by have := h.2.1; omega, h.2.2 j hj⟩⟩, fun h => ⟨h.1, ?_, fun i hi => (h.2 i (by omega) hi).2⟩⟩)
  rcases Nat.lt_or_ge 4 L.length with x | x
  · have := (h.2 4 (by omega) x).1; omega
  · exact x
end Go.Proofs.Ytimllhflecippaa.PoolR
end
