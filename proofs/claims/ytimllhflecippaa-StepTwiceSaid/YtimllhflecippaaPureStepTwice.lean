import Derived.Test.YtimllhflecippaaF10
import Derived.Test.YtimllhflecippaaStepT
import Derived.Test.YtimllhflecippaaStepA
namespace Go.Proofs.Ytimllhflecippaa.Pure
open Go.RowKit Go.Proofs.YtimllhflecippaaW.PrintWords Go.Proofs.YtimllhflecippaaW.PrintMore Go.Proofs.Ytimllhflecippaa.F Go.Proofs.Ytimllhflecippaa.Pk Go.Proofs.Ytimllhflecippaa.StepP Go.Proofs.Ytimllhflecippaa.StepQ Go.Proofs.Ytimllhflecippaa.StepA Go.Proofs.Ytimllhflecippaa.StepT
set_option linter.unusedSimpArgs false
set_option linter.unusedVariables false
def All (l : List St) (f t n : Int) : Prop := ∀ x, f ≤ x → x < t → n ≤ val l x
theorem take_res (l : List St) (f t n : Int) (hl : l.length ≤ 1000) : ∃ (a : List St) (e : Int), Ev (fun k => step_Take.f k l f t n) (a, e) ∧ ((e = 0 ∧ a = chg l f t (-n) ∧ TakeOk l f t n ∧ All l f t n) ∨ (e ≠ 0 ∧ a = l ∧ ¬ (TakeOk l f t n ∧ All l f t n))) := by
  rcases take_cases l f t n hl with ⟨a, h⟩ | ⟨_, a, h⟩ | ⟨a, b, h⟩
  · exact ⟨_, _, h, .inr ⟨by decide, rfl, fun x => a x.1⟩⟩
  · exact ⟨_, _, h, .inr ⟨by decide, rfl, fun x => a x.2⟩⟩
  · exact ⟨_, _, h, .inl ⟨rfl, rfl, a, b⟩⟩
theorem chg_facts {l : List St} {f t n : Int} (h : TakeOk l f t n) (hl : l.length ≤ 1000) (ha : All l f t n) : Right (chg l f t (-n)) ∧ (∀ x, 0 ≤ x → x ≤ Never → val (chg l f t (-n)) x = more f t (-n) x (val l x)) ∧ (chg l f t (-n)).length ≤ l.length + 2 := by
  have := take_give h hl ha
  exact ⟨this.1, this.2.1, chg_len h.1.1.toNorm h.1.2.1 h.1.2.2.1⟩
theorem part2 {l : List St} {f mid t n e : Int} (hl : l.length ≤ 200) (hn : amt n) (he : e = 0 ↔ (TakeOk l f t n ∧ All l f t n)) (b : Bool) (hb : b = false → f < mid ∧ mid < t) :
    Ev (fun k => bailiwicklaw03_StepTwice.j2 k l f mid t n e b) true := by
  cases b with
  | true => exact Ev.step (f := fun _ => some true) (fun k => by simp only [bailiwicklaw03_StepTwice.j2, if_true]) (Ev.now _)
  | false =>
    obtain ⟨m1, m2⟩ := hb rfl
    obtain ⟨c, h, hc, rc⟩ := take_res l f mid n (by omega)
    have lc : c.length ≤ 202 := by
      rcases rc with ⟨_, rfl, r1, r2⟩ | ⟨_, rfl, _⟩
      · have := (chg_facts r1 (by omega) r2).2.2; omega
      · omega
    obtain ⟨c', i, hc', rc'⟩ := take_res c mid t n (by omega)
    -- both, or none
    have both : (h = 0 ∧ i = 0) ↔ e = 0 := by
      rw [he]
      constructor
      · rintro ⟨x, y⟩
        rcases rc with ⟨_, e1, r1, r2⟩ | ⟨r0, _⟩
        · rcases rc' with ⟨_, e1', r1', r2'⟩ | ⟨r0', _⟩
          · have cf := chg_facts r1 (by omega) r2
            refine ⟨⟨⟨r1.1.1, r1.1.2.1, by omega, r1'.1.2.2.2⟩, hn⟩, fun z z1 z2 => ?_⟩
            rcases Int.lt_or_le z mid with z3 | z3
            · exact r2 z z1 z3
            · have z4 := r2' z z3 z2
              have z5 := r1.1.2.1
              have z6 := r1'.1.2.2.2
              rw [e1, cf.2.1 z (by omega) (by omega)] at z4
              unfold more at z4
              rwa [if_neg (by omega)] at z4
          · exact absurd y r0'
        · exact absurd x r0
      · rintro ⟨⟨⟨r0, r1, r2, r3⟩, _⟩, ha⟩
        rcases rc with ⟨x, e1, w1, w2⟩ | ⟨x, _, w⟩
        · have cf := chg_facts w1 (by omega) w2
          rcases rc' with ⟨x', _⟩ | ⟨x', _, w'⟩
          · exact ⟨x, x'⟩
          · refine absurd ⟨⟨⟨by rw [e1]; exact cf.1, by omega, m2, r3⟩, hn⟩, fun z z1 z2 => ?_⟩ w'
            rw [e1, cf.2.1 z (by omega) (by omega)]
            unfold more
            rw [if_neg (by omega)]
            exact ha z (by omega) z2
        · exact absurd ⟨⟨⟨r0, r1, m1, by omega⟩, hn⟩, fun z z1 z2 => ha z z1 (by omega)⟩ w
    have same : e = 0 → c' = chg l f t (-n) := by
      intro x
      obtain ⟨y, y'⟩ := both.2 x
      obtain ⟨r1, r2⟩ := he.1 x
      have cf := chg_facts r1 (by omega) r2
      rcases rc with ⟨_, e1, w1, w2⟩ | ⟨x, _⟩
      · rcases rc' with ⟨_, e1', w1', w2'⟩ | ⟨x, _⟩
        · have cf1 := chg_facts w1 (by omega) w2
          have cf2 := chg_facts w1' (by omega) w2'
          rw [e1']
          refine cf2.1.toNorm.ext cf.1.toNorm (fun z z1 z2 => ?_)
          rw [cf2.2.1 z z1 z2, e1, cf1.2.1 z z1 z2, cf.2.1 z z1 z2]
          unfold more
          have := r1.1.2.2.2
          by_cases a1 : mid ≤ z ∧ z < t
          · rw [if_pos a1, if_neg (by omega), if_pos (by omega)]
          · rw [if_neg a1]
            by_cases a2 : f ≤ z ∧ z < mid
            · rw [if_pos a2, if_pos (by omega)]
            · rw [if_neg a2, if_neg (by omega)]
        · exact absurd y' x
      · exact absurd y x
    refine Ev.step (f := fun k => (step_Take.f k l f mid n).bind fun bt239 => ((step_Take.f k bt239.1 mid t n).bind fun bt243 => (if bt239.2 = 0 then (if ((bt243.2 == 0) == (e == 0)) = true then (if e = 0 then ((bailiwicklaw03_take.f k l f t n).bind fun t247 => ((bailiwickref03_Same.f k bt243.1 t247).bind fun t250 => (some t250))) else (some true)) else (some false)) else (if (false == (e == 0)) = true then (if e = 0 then ((bailiwicklaw03_take.f k l f t n).bind fun t251 => ((bailiwickref03_Same.f k bt243.1 t251).bind fun t254 => (some t254))) else (some true)) else (some false))))) (fun k => ?_) (Ev.bind hc (Ev.bind hc' ?_))
    · simp only [bailiwicklaw03_StepTwice.j2, Bool.false_eq_true, if_false]
    by_cases x : e = 0
    · obtain ⟨y, y'⟩ := both.2 x
      have sm := same x
      obtain ⟨r1, r2⟩ := he.1 x
      subst y y' x
      simp only [beq_self_eq_true, if_true]
      rcases take_cases l f t n (by omega) with ⟨a, _⟩ | ⟨_, a, _⟩ | ⟨_, _, hev⟩
      · exact absurd r1 a
      · exact absurd r2 a
      · refine Ev.bind (Ev.bind hev (Ev.now _)) ?_
        rw [sm]
        exact Ev.bind (same_ev _ (by rw [← sm]; have := sm ▸ (chg_facts r1 (by omega) r2).2.2; omega)) (Ev.now _)
    · have ex : (e == 0) = false := beq_eq_false_iff_ne.2 x
      by_cases y : h = 0
      · have y' : ¬ i = 0 := fun y' => x (both.1 ⟨y, y'⟩)
        have ey : (i == 0) = false := beq_eq_false_iff_ne.2 y'
        simp only [if_pos y, ey, ex, beq_self_eq_true, if_true, if_neg x]
        exact Ev.now _
      · simp only [if_neg y, ex, beq_self_eq_true, if_true, if_neg x]
        exact Ev.now _
theorem StepTwice : bailiwicklaw03_StepTwice.Pure := by
  intro l f mid t n m _ _ _ _ _ _
  refine Ev.rounds (g := fun k => bailiwicklaw03_StepTwice.f k l f mid t n m) ?_
  refine Ev.bind awake_ev ?_
  simp only [if_true]
  have yes : ∀ b, b = true → Ev (fun k => bailiwicklaw03_StepTwice.j0 k l f mid t n m b) true := by
    rintro _ rfl
    exact Ev.step (f := fun _ => some true) (fun k => by simp only [bailiwicklaw03_StepTwice.j0, if_true]) (Ev.now _)
  by_cases c1 : (l.length : Int) > 200
  · simp only [if_pos c1]; exact yes _ rfl
  by_cases c2 : n < 0
  · simp only [if_neg c1, if_pos c2]; exact yes _ rfl
  by_cases c3 : m < 0
  · simp only [if_neg c1, if_neg c2, if_pos c3]; exact yes _ rfl
  by_cases c4 : n > 1048576
  · simp only [if_neg c1, if_neg c2, if_neg c3, if_pos c4]; exact yes _ rfl
  simp only [if_neg c1, if_neg c2, if_neg c3, if_neg c4]
  rw [w64 (n := 1048576 - n) (by omega) (by omega)]
  by_cases c5 : m > 1048576 - n
  · exact yes _ (decide_eq_true c5)
  rw [decide_eq_false c5]
  have hn : amt n := ⟨by omega, by omega⟩
  have hm : amt m := ⟨by omega, by omega⟩
  have hnm : amt (n + m) := ⟨by omega, by omega⟩
  obtain ⟨a, e, ha, ra⟩ := take_res l f t n (by omega)
  have la : a.length ≤ 202 := by
    rcases ra with ⟨_, rfl, r1, r2⟩ | ⟨_, rfl, _⟩
    · have := (chg_facts r1 (by omega) r2).2.2; omega
    · omega
  obtain ⟨a', e', ha', ra'⟩ := take_res a f t m (by omega)
  obtain ⟨b, g, hb, rb⟩ := take_res l f t (n + m) (by omega)
  have both : (e = 0 ∧ e' = 0) ↔ g = 0 := by
    constructor
    · rintro ⟨x, y⟩
      rcases ra with ⟨_, e1, r1, r2⟩ | ⟨r0, _⟩
      · rcases ra' with ⟨_, e1', r1', r2'⟩ | ⟨r0', _⟩
        · have cf := chg_facts r1 (by omega) r2
          rcases rb with ⟨z, _⟩ | ⟨_, _, w⟩
          · exact z
          · refine absurd ⟨⟨r1.1, hnm⟩, fun z z1 z2 => ?_⟩ w
            have z4 := r2' z z1 z2
            have z5 := r1.1.2.1
            have z6 := r1.1.2.2.2
            rw [e1, cf.2.1 z (by omega) (by omega)] at z4
            unfold more at z4
            rw [if_pos ⟨z1, z2⟩] at z4
            omega
        · exact absurd y r0'
      · exact absurd x r0
    · intro x
      rcases rb with ⟨_, _, w1, w2⟩ | ⟨w0, _⟩
      · rcases ra with ⟨y, e1, r1, r2⟩ | ⟨_, _, w⟩
        · have cf := chg_facts r1 (by omega) r2
          rcases ra' with ⟨y', _⟩ | ⟨_, _, w'⟩
          · exact ⟨y, y'⟩
          · refine absurd ⟨⟨⟨by rw [e1]; exact cf.1, r1.1.2.1, r1.1.2.2.1, r1.1.2.2.2⟩, hm⟩, fun z z1 z2 => ?_⟩ w'
            have z5 := r1.1.2.1
            have z6 := r1.1.2.2.2
            have z7 := w2 z z1 z2
            rw [e1, cf.2.1 z (by omega) (by omega)]
            unfold more
            rw [if_pos ⟨z1, z2⟩]
            omega
        · refine absurd ⟨⟨w1.1, hn⟩, fun z z1 z2 => ?_⟩ w
          have := w2 z z1 z2
          omega
      · exact absurd x w0
  have same : g = 0 → a' = b := by
    intro x
    obtain ⟨y, y'⟩ := both.2 x
    rcases ra with ⟨_, e1, r1, r2⟩ | ⟨w, _⟩
    · rcases ra' with ⟨_, e1', r1', r2'⟩ | ⟨w, _⟩
      · rcases rb with ⟨_, e2, w1, w2⟩ | ⟨w, _⟩
        · have cf := chg_facts r1 (by omega) r2
          have cf1 := chg_facts r1' (by omega) r2'
          have cf2 := chg_facts w1 (by omega) w2
          rw [e1', e2]
          refine cf1.1.toNorm.ext cf2.1.toNorm (fun z z1 z2 => ?_)
          rw [cf1.2.1 z z1 z2, e1, cf.2.1 z z1 z2, cf2.2.1 z z1 z2]
          unfold more
          split <;> omega
        · exact absurd x w
      · exact absurd y' w
    · exact absurd y w
  have he : e = 0 ↔ (TakeOk l f t n ∧ All l f t n) := by
    rcases ra with ⟨x, _, r1, r2⟩ | ⟨x, _, w⟩
    · exact ⟨fun _ => ⟨r1, r2⟩, fun _ => x⟩
    · exact ⟨fun y => absurd y x, fun y => absurd y w⟩
  have next : Ev (fun k => bailiwicklaw03_StepTwice.j1 k l f mid t n e false) true := by
    by_cases d1 : f ≥ mid
    · refine Ev.step (fun k => ?_) (part2 (mid := mid) (by omega) hn he true (fun h => Bool.noConfusion h))
      simp only [bailiwicklaw03_StepTwice.j1, Bool.false_eq_true, if_false, if_pos d1]
    · refine Ev.step (fun k => ?_) (part2 (mid := mid) (by omega) hn he (decide (mid ≥ t)) (fun h => ⟨by omega, by have := of_decide_eq_false h; omega⟩))
      simp only [bailiwicklaw03_StepTwice.j1, Bool.false_eq_true, if_false, if_neg d1]
  refine Ev.step (f := fun k => (step_Take.f k l f t n).bind fun bt225 => ((step_Take.f k bt225.1 f t m).bind fun bt229 => ((step_Take.f k l f t (n + m)).bind fun bt233 => (if bt225.2 = 0 then (if ((bt229.2 == 0) != (bt233.2 == 0)) = true then (bailiwicklaw03_StepTwice.j1 k l f mid t n bt225.2 true) else (if bt233.2 = 0 then ((bailiwickref03_Same.f k bt229.1 bt233.1).bind fun t237 => (bailiwicklaw03_StepTwice.j1 k l f mid t n bt225.2 (!t237))) else (bailiwicklaw03_StepTwice.j1 k l f mid t n bt225.2 false))) else (if (false != (bt233.2 == 0)) = true then (bailiwicklaw03_StepTwice.j1 k l f mid t n bt225.2 true) else (if bt233.2 = 0 then ((bailiwickref03_Same.f k bt229.1 bt233.1).bind fun t238 => (bailiwicklaw03_StepTwice.j1 k l f mid t n bt225.2 (!t238))) else (bailiwicklaw03_StepTwice.j1 k l f mid t n bt225.2 false))))))) (fun k => ?_) (Ev.bind ha (Ev.bind ha' (Ev.bind hb ?_)))
  · have ew : wrap64 (n + m) = n + m := w64 (by omega) (by omega)
    simp only [bailiwicklaw03_StepTwice.j0, Bool.false_eq_true, if_false, ew]
  by_cases x : g = 0
  · obtain ⟨y, y'⟩ := both.2 x
    have sm := same x
    have lb : b.length ≤ 202 := by
      rcases rb with ⟨_, rfl, r1, r2⟩ | ⟨_, rfl, _⟩
      · have := (chg_facts r1 (by omega) r2).2.2; omega
      · omega
    subst sm
    have q : ((e' == 0) != (g == 0)) = false := by rw [y', x]; rfl
    simp only [if_pos y, q, Bool.false_eq_true, if_false, if_pos x]
    refine Ev.bind (same_ev _ (by omega)) ?_
    exact next
  · have ex : (g == 0) = false := beq_eq_false_iff_ne.2 x
    by_cases y : e = 0
    · have y' : ¬ e' = 0 := fun y' => x (both.1 ⟨y, y'⟩)
      have ey : (e' == 0) = false := beq_eq_false_iff_ne.2 y'
      simp only [if_pos y, ey, ex, bne_self_eq_false, Bool.false_eq_true, if_false, if_neg x]
      exact next
    · simp only [if_neg y, ex, bne_self_eq_false, Bool.false_eq_true, if_false, if_neg x]
      exact next
end Go.Proofs.Ytimllhflecippaa.Pure
