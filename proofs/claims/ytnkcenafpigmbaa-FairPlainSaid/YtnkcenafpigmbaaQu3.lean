/- Jobs: the reference's Right. cmp.Compare, slices.BinarySearchFunc at []Job; queue.find; queue.Right. Insertion, plainly. -/
import Derived.Test.YtnkcenafpigmbaaQu2
import Derived.Test.YtnkcenafpigmbaaAx1
namespace Go.Proofs.Ytnkcenafpigmbaa.Ab
open Go.RowKit
set_option linter.unusedVariables false
set_option linter.unusedSimpArgs false

set_option maxHeartbeats 8000000 in
set_option maxRecDepth 100000 in
theorem jRight_c (j : Job) (hj : JobW j) : ACalls Try.prog 49 [jobSV j] (· = .one (.sv (bv (isJob j)))) := by
  refine ACalls.of_bodyS (fun _ _ => Try.call49 _ _) Try.func49 rfl Try.ntmps49 (by simp) ?_
  refine Tr.ex ?_
  have fs := sRight_c j.spec hj.1
  have fn := needs_c j hj
  have ft := times_c j
  unfold isJob
  by_cases c1 : 1 ≤ j.id
  case neg => simp [go_sem, c1]
  by_cases c2 : j.id ≤ 1073741824
  case neg => simp [go_sem, c1, c2]
  simp [go_sem, c1, c2]
  refine OpW.fn true fs rfl rfl (by simp [go_sem]) (by rintro _ r rfl; simp [go_sem]) ?_
  rintro r rfl
  cases h1 : isSpec j.spec with
  | false => simp [go_sem]
  | true =>
    simp [go_sem]
    refine OpW.fn true fn rfl rfl (by simp [go_sem]) (by rintro _ r rfl; simp [go_sem]) ?_
    rintro r rfl
    cases h2 : isNeeds j.id j.after with
    | false => simp [go_sem]
    | true =>
      simp [go_sem]
      refine OpW.fn true (wRight_c j.added) rfl rfl (by simp [go_sem]) (by rintro _ r rfl; simp [go_sem]) ?_
      rintro r rfl
      cases h3 : isWhen j.added with
      | false => simp [go_sem]
      | true =>
        simp [go_sem]
        refine OpW.fn true ft rfl rfl (by simp [go_sem]) (by rintro _ r rfl; simp [go_sem]) ?_
        rintro r rfl
        simp [go_sem]
def refTimes (j : Job) : Prop := (0 ≤ j.state ∧ j.state ≤ 6) ∧ (0 ≤ j.began ∧ j.began ≤ 4611686018427387904) ∧ (0 ≤ j.ended ∧ j.ended ≤ 4611686018427387904) ∧
  ((j.state = 0 ∨ j.state = 1 ∨ j.state = 6) → j.began = 0) ∧ (¬ (j.state = 0 ∨ j.state = 1 ∨ j.state = 6) → (¬ j.began < j.added ∨ (j.state = 5 ∧ j.began = 0))) ∧
  (j.state < 3 → j.ended = 0) ∧ (¬ j.state < 3 → j.added ≤ j.ended ∧ j.began ≤ j.ended)
theorem times_ref {j : Job} : isTimes j = true ↔ refTimes j := by
  unfold isTimes beganB endedB isWhen refTimes
  split
  · simp only [Bool.and_eq_true, decide_eq_true_eq]; omega
  · split
    · simp only [Bool.and_eq_true, decide_eq_true_eq]; omega
    · split
      · simp only [Bool.and_eq_true, decide_eq_true_eq]; omega
      · split
        · simp only [Bool.and_eq_true, Bool.or_eq_true, decide_eq_true_eq]; omega
        · simp only [Bool.and_eq_true, decide_eq_true_eq]; omega
theorem times_no {j : Job} (h : ¬ refTimes j) : isTimes j = false := by rw [← Bool.not_eq_true, times_ref]; exact h
set_option maxHeartbeats 16000000 in
set_option maxRecDepth 100000 in
theorem r11Right_c (j : Job) (hj : JobW j) : ACalls Try.prog 37 [jobSV j] (· = .one (.sv (bv (isJob j)))) := by
  refine ACalls.of_bodyS (fun _ _ => Try.call37 _ _) Try.func37 rfl Try.ntmps37 (by simp) ?_
  refine Tr.ex ?_
  have fs := rSpec_c j.spec hj.1
  have hal := hj.2
  by_cases c1 : 1 ≤ j.id
  case neg =>
    have e : isJob j = false := by unfold isJob; simp [c1]
    have c1' : j.id < 1 := by omega
    rw [e]; simp [go_sem, c1']
  have c1' : ¬ j.id < 1 := by omega
  by_cases c2 : j.id ≤ 1073741824
  case neg =>
    have e : isJob j = false := by unfold isJob; simp [c2]
    have c2' : 1073741824 < j.id := by omega
    rw [e]; simp [go_sem, c1', c2']
  have c2' : ¬ 1073741824 < j.id := by omega
  simp [go_sem, c1', c2']
  refine OpW.fn true fs rfl rfl (by simp [go_sem]) (by rintro _ r rfl; simp [go_sem]) ?_
  rintro r rfl
  cases h1 : isSpec j.spec with
  | false =>
    have e : isJob j = false := by unfold isJob; simp [h1]
    rw [e]; simp [go_sem]
  | true =>
    by_cases c3 : j.after.length ≤ 16
    case neg =>
      have e : isJob j = false := by unfold isJob isNeeds; simp [c3]
      have c3' : 16 < (j.after.length : Int) := by omega
      rw [e]; simp [go_sem, c3']
    have c3' : ¬ 16 < (j.after.length : Int) := by omega
    simp [go_sem, c3']
    refine OpW.fn true (rtime_c j.added) rfl rfl (by simp [go_sem]) (by rintro _ r rfl; simp [go_sem]) ?_
    rintro r rfl
    cases h2 : isWhen j.added with
    | false =>
      have e : isJob j = false := by unfold isJob; simp [h2]
      rw [e]; simp [go_sem]
    | true =>
      have hres : isJob j = (risesF j.id 0 j.after && isTimes j) := by
        unfold isJob isNeeds
        simp [c1, c2, c3, h1, h2]
      rw [hres]
      simp [go_sem]
      refine LoopW.of (fun z : Nat × Int => ⟨141, [(1, .box 1 0), (2, .sv (bv false)), (3, .sv (iv z.1))], [(1, .box ((jobCells j).map .sv))]⟩)
        (fun z => z.1 ≤ j.after.length ∧ risesF j.id z.2 (j.after.drop z.1) = risesF j.id 0 j.after ∧ (z.1 = 0 → z.2 = 0) ∧ (∀ k, z.1 = k + 1 → j.after[k]? = some z.2 ∧ 1 ≤ z.2)) (fun z => j.after.length - z.1) (0, 0) ⟨by simp, by simp, fun _ => rfl, fun k hk => by simp at hk⟩ (Ent.chk (by simp [go_sem])) ?_
      rintro ⟨i, last⟩ ⟨hi, hr, hz, hs⟩
      simp only at hi hr hz hs ⊢
      by_cases hlt : i < j.after.length
      · have hlt' : (i : Int) < j.after.length := by omega
        have hw : IntKind.i64.wrap ((i : Int) + 1) = (i : Int) + 1 := by rw [i64w] <;> omega
        obtain ⟨x, hx⟩ : ∃ x, j.after[i]? = some x := ⟨_, List.getElem?_eq_getElem hlt⟩
        have hdr : j.after.drop i = x :: j.after.drop (i + 1) := by rw [List.drop_eq_getElem_cons hlt, gE hx]
        rw [hdr, risesF_cons] at hr
        have hno : ¬ (last < x ∧ x < j.id) → risesF j.id 0 j.after = false := fun hc => by
          rw [← hr]
          by_cases q : last < x
          · have : ¬ x < j.id := fun q2 => hc ⟨q, q2⟩
            simp [this]
          · simp [q]
        have hlast : 0 ≤ last := by
          cases i with
          | zero => have := hz rfl; omega
          | succ k => have := (hs k rfl).2; omega
        simp [go_sem, hlt, hlt']
        refine DrawW.rd rfl ?_
        by_cases d1 : x < 1
        · rw [hno (by omega)]
          simp [go_sem, hlt, hlt', hx, gE hx, d1]
          show _ = true
          kernel_rfl
        by_cases d2 : j.id ≤ x
        · rw [hno (by omega)]
          simp [go_sem, hlt, hlt', hx, gE hx, d1, d2]
          show _ = true
          kernel_rfl
        cases i with
        | zero =>
          have hl0 := hz rfl
          subst hl0
          have e1 : decide (0 < x) = true := by simp; omega
          have e2 : decide (x < j.id) = true := by simp; omega
          rw [e1, e2] at hr
          simp only [Bool.and_self, Bool.true_and] at hr
          have hlt0 : 0 < j.after.length := hlt
          simp [go_sem, hlt0, hx, gE hx, d1, d2]
          refine ⟨by kernel_rfl, ?_⟩
          exact ⟨1, ⟨by omega, x, hr, fun h => by omega, fun k hk => ⟨by rw [show k = 0 by omega]; exact hx, by omega⟩⟩, by omega, Ent.chk (by simp [go_sem])⟩
        | succ k =>
          obtain ⟨hp, hp1⟩ := hs k rfl
          have hlk : k < j.after.length := by omega
          have hlk' : (k : Int) < j.after.length := by omega
          have hk0 : (0 : Int) < (k : Int) + 1 := by omega
          have hk1 : (0 : Int) ≤ (k : Int) + 1 := by omega
          have hlt2 : (k : Int) + 1 < j.after.length := by omega
          have hwk : IntKind.i64.wrap ((k : Int) + 1 - 1) = k := by rw [i64w] <;> omega
          have hwk2 : IntKind.i64.wrap (k : Int) = k := by rw [i64w] <;> omega
          have hwk3 : IntKind.i64.wrap ((k : Int) + 1 + 1) = (k : Int) + 2 := by rw [i64w] <;> omega
          have hwk4 : IntKind.i64.wrap ((k : Int) + 2) = (k : Int) + 2 := by rw [i64w] <;> omega
          by_cases d3 : x ≤ last
          · rw [hno (by omega)]
            simp [go_sem, hk1, hlt, hlt2, hlk, hlk', hk0, hx, gE hx, hp, gE hp, d1, d2, hwk, hwk2, d3]
            show _ = true
            kernel_rfl
          · have e1 : decide (last < x) = true := by simp; omega
            have e2 : decide (x < j.id) = true := by simp; omega
            rw [e1, e2] at hr
            simp only [Bool.and_self, Bool.true_and] at hr
            simp [go_sem, hk1, hlt, hlt2, hlk, hlk', hk0, hx, gE hx, hp, gE hp, d1, d2, hwk, hwk2, d3]
            refine ⟨by kernel_rfl, ?_⟩
            exact ⟨k + 2, ⟨by omega, x, hr, fun h => by omega, fun k2 hk => ⟨by rw [show k2 = k + 1 by omega]; exact hx, by omega⟩⟩, by omega, Ent.chk (by simp [go_sem, hwk3, hwk4]; try omega)⟩
      · have hil : i = j.after.length := by omega
        subst hil
        rw [List.drop_length, risesF_nil] at hr
        rw [← hr]
        simp only [Bool.true_and]
        have hA : 0 ≤ j.added ∧ j.added ≤ 4611686018427387904 := by
          unfold isWhen at h2; simpa using h2
        have hB : isWhen j.began = true ↔ 0 ≤ j.began ∧ j.began ≤ 4611686018427387904 := by unfold isWhen; simp
        have hE : isWhen j.ended = true ↔ 0 ≤ j.ended ∧ j.ended ≤ 4611686018427387904 := by unfold isWhen; simp
        by_cases s1 : j.state < 0
        · rw [times_no (by unfold refTimes; omega)]
          simp [go_sem, s1]
        by_cases s2 : 6 < j.state
        · rw [times_no (by unfold refTimes; omega)]
          simp [go_sem, s1, s2]
        simp [go_sem, s1, s2]
        refine OpW.fn true (rtime_c j.began) rfl rfl (by simp [go_sem]) (by rintro _ r rfl; simp [go_sem]) ?_
        rintro r rfl
        cases w1 : isWhen j.began with
        | false =>
          rw [w1] at hB
          rw [times_no (by unfold refTimes; simp at hB; omega)]
          simp [go_sem]
        | true =>
          rw [w1] at hB
          simp only [true_iff] at hB
          simp [go_sem]
          refine OpW.fn true (rtime_c j.ended) rfl rfl (by simp [go_sem]) (by rintro _ r rfl; simp [go_sem]) ?_
          rintro r rfl
          cases w2 : isWhen j.ended with
          | false =>
            rw [w2] at hE
            rw [times_no (by unfold refTimes; simp at hE; omega)]
            simp [go_sem]
          | true =>
            rw [w2] at hE
            simp only [true_iff] at hE
            have fin : ∀ b : Bool, (b = true ↔ refTimes j) → isTimes j = b := fun b hb => by rw [Bool.eq_iff_iff, times_ref]; exact hb.symm
            have hst : j.state = 0 ∨ j.state = 1 ∨ j.state = 2 ∨ j.state = 3 ∨ j.state = 4 ∨ j.state = 5 ∨ j.state = 6 := by omega
            rcases hst with h | h | h | h | h | h | h
            · by_cases b0 : j.began = 0
              · have b1 : (j.began == 0) = true := by simpa using b0
                by_cases e0 : j.ended = 0
                · have e1 : (j.ended == 0) = true := by simpa using e0
                  rw [fin true (by unfold refTimes; simp only [true_iff]; omega)]
                  simp [go_sem, bne, h, b0, b1, e0, e1]
                · have e1 : (j.ended == 0) = false := by simpa using e0
                  rw [fin false (by unfold refTimes; simp only [Bool.false_eq_true, false_iff]; omega)]
                  simp [go_sem, bne, h, b0, b1, e0, e1]
              · have b1 : (j.began == 0) = false := by simpa using b0
                rw [fin false (by unfold refTimes; simp only [Bool.false_eq_true, false_iff]; omega)]
                simp [go_sem, bne, h, b0, b1]
            · by_cases b0 : j.began = 0
              · have b1 : (j.began == 0) = true := by simpa using b0
                by_cases e0 : j.ended = 0
                · have e1 : (j.ended == 0) = true := by simpa using e0
                  rw [fin true (by unfold refTimes; simp only [true_iff]; omega)]
                  simp [go_sem, bne, h, b0, b1, e0, e1]
                · have e1 : (j.ended == 0) = false := by simpa using e0
                  rw [fin false (by unfold refTimes; simp only [Bool.false_eq_true, false_iff]; omega)]
                  simp [go_sem, bne, h, b0, b1, e0, e1]
              · have b1 : (j.began == 0) = false := by simpa using b0
                rw [fin false (by unfold refTimes; simp only [Bool.false_eq_true, false_iff]; omega)]
                simp [go_sem, bne, h, b0, b1]
            · by_cases ba : j.began < j.added
              · skip
                rw [fin false (by unfold refTimes; simp only [Bool.false_eq_true, false_iff]; omega)]
                simp [go_sem, bne, h, ba]
              · skip
                by_cases e0 : j.ended = 0
                · have e1 : (j.ended == 0) = true := by simpa using e0
                  rw [fin true (by unfold refTimes; simp only [true_iff]; omega)]
                  simp [go_sem, bne, h, ba, e0, e1]
                · have e1 : (j.ended == 0) = false := by simpa using e0
                  rw [fin false (by unfold refTimes; simp only [Bool.false_eq_true, false_iff]; omega)]
                  simp [go_sem, bne, h, ba, e0, e1]
            · by_cases ba : j.began < j.added
              · skip
                rw [fin false (by unfold refTimes; simp only [Bool.false_eq_true, false_iff]; omega)]
                simp [go_sem, bne, h, ba]
              · skip
                by_cases ea : j.added ≤ j.ended
                · skip
                  by_cases eb : j.began ≤ j.ended
                  · skip
                    rw [fin true (by unfold refTimes; simp only [true_iff]; omega)]
                    simp [go_sem, bne, h, ba, ea, eb]
                  · skip
                    rw [fin false (by unfold refTimes; simp only [Bool.false_eq_true, false_iff]; omega)]
                    simp [go_sem, bne, h, ba, ea, eb]
                · skip
                  rw [fin false (by unfold refTimes; simp only [Bool.false_eq_true, false_iff]; omega)]
                  simp [go_sem, bne, h, ba, ea]
            · by_cases ba : j.began < j.added
              · skip
                rw [fin false (by unfold refTimes; simp only [Bool.false_eq_true, false_iff]; omega)]
                simp [go_sem, bne, h, ba]
              · skip
                by_cases ea : j.added ≤ j.ended
                · skip
                  by_cases eb : j.began ≤ j.ended
                  · skip
                    rw [fin true (by unfold refTimes; simp only [true_iff]; omega)]
                    simp [go_sem, bne, h, ba, ea, eb]
                  · skip
                    rw [fin false (by unfold refTimes; simp only [Bool.false_eq_true, false_iff]; omega)]
                    simp [go_sem, bne, h, ba, ea, eb]
                · skip
                  rw [fin false (by unfold refTimes; simp only [Bool.false_eq_true, false_iff]; omega)]
                  simp [go_sem, bne, h, ba, ea]
            · by_cases ba : j.began < j.added
              · skip
                by_cases b0 : j.began = 0
                · have b1 : (j.began == 0) = true := by simpa using b0
                  by_cases ea : j.added ≤ j.ended
                  · skip
                    by_cases eb : j.began ≤ j.ended
                    · skip
                      rw [fin true (by unfold refTimes; simp only [true_iff]; omega)]
                      have ba0 : 0 < j.added := by omega
                      have eb0 : 0 ≤ j.ended := by omega
                      simp [go_sem, bne, h, ba, ba0, b0, b1, ea, eb, eb0]
                    · skip
                      exfalso; omega
                  · skip
                    rw [fin false (by unfold refTimes; simp only [Bool.false_eq_true, false_iff]; omega)]
                    have ba0 : 0 < j.added := by omega
                    simp [go_sem, bne, h, ba, ba0, b0, b1, ea]
                · have b1 : (j.began == 0) = false := by simpa using b0
                  rw [fin false (by unfold refTimes; simp only [Bool.false_eq_true, false_iff]; omega)]
                  have ba0 : 0 < j.added := by omega
                  simp [go_sem, bne, h, ba, ba0, b0, b1]
              · skip
                by_cases ea : j.added ≤ j.ended
                · skip
                  by_cases eb : j.began ≤ j.ended
                  · skip
                    rw [fin true (by unfold refTimes; simp only [true_iff]; omega)]
                    simp [go_sem, bne, h, ba, ea, eb]
                  · skip
                    rw [fin false (by unfold refTimes; simp only [Bool.false_eq_true, false_iff]; omega)]
                    simp [go_sem, bne, h, ba, ea, eb]
                · skip
                  rw [fin false (by unfold refTimes; simp only [Bool.false_eq_true, false_iff]; omega)]
                  simp [go_sem, bne, h, ba, ea]
            · by_cases b0 : j.began = 0
              · have b1 : (j.began == 0) = true := by simpa using b0
                by_cases ea : j.added ≤ j.ended
                · skip
                  by_cases eb : j.began ≤ j.ended
                  · skip
                    rw [fin true (by unfold refTimes; simp only [true_iff]; omega)]
                    have eb0 : 0 ≤ j.ended := by omega
                    simp [go_sem, bne, h, b0, b1, ea, eb, eb0]
                  · skip
                    exfalso; omega
                · skip
                  rw [fin false (by unfold refTimes; simp only [Bool.false_eq_true, false_iff]; omega)]
                  simp [go_sem, bne, h, b0, b1, ea]
              · have b1 : (j.began == 0) = false := by simpa using b0
                rw [fin false (by unfold refTimes; simp only [Bool.false_eq_true, false_iff]; omega)]
                simp [go_sem, bne, h, b0, b1]
end Go.Proofs.Ytnkcenafpigmbaa.Ab

namespace Go.Proofs.Ytnkcenafpigmbaa.Ab
open Go.RowKit
set_option linter.unusedVariables false
set_option linter.unusedSimpArgs false

theorem isNaN_c (n : Int) : ACalls Try.prog 74 [iv n] (· = .one (.sv (bv false))) := by
  refine ACalls.of_bodyS (fun _ _ => Try.call74 _ _) Try.func74 rfl Try.ntmps74 (by simp) ?_
  refine Tr.ex ?_
  simp [go_sem, bne]
def cmpI (a b : Int) : Int := if a < b then -1 else if b < a then 1 else 0
theorem Compare_c (a b : Int) : ACalls Try.prog 43 [iv a, iv b] (· = .one (.sv (iv (cmpI a b)))) := by
  refine ACalls.of_bodyS (fun _ _ => Try.call43 _ _) Try.func43 rfl Try.ntmps43 (by simp) ?_
  refine Tr.ex ?_
  unfold cmpI
  simp [go_sem]
  refine OpW.fn true (isNaN_c a) rfl rfl (by simp [go_sem]) (by rintro _ r rfl; simp [go_sem]) ?_
  rintro r rfl
  simp [go_sem]
  refine OpW.fn true (isNaN_c b) rfl rfl (by simp [go_sem]) (by rintro _ r rfl; simp [go_sem]) ?_
  rintro r rfl
  by_cases h : a < b
  · simp [go_sem, h]
  · by_cases h2 : b < a
    · simp [go_sem, h, h2]
    · simp [go_sem, h, h2]
theorem findJ1_c (h : Job) (id : Int) : ACalls Try.prog 78 [jobSV h, iv id] (· = .one (.sv (iv (cmpI h.id id)))) := by
  refine ACalls.of_bodyS (fun _ _ => Try.call78 _ _) Try.func78 rfl Try.ntmps78 (by simp) ?_
  refine Tr.ex ?_
  simp [go_sem]
  refine OpW.fn true (Compare_c h.id id) rfl rfl (by simp [go_sem]) (by rintro _ r rfl; simp [go_sem]) ?_
  rintro r rfl
  simp [go_sem]
/-- The first place whose number is no less. -/
def lowJ (l : List Job) (id : Int) : Nat := (l.filter fun h => decide (h.id < id)).length
def sortedJ (l : List Job) : Prop := l.Pairwise fun a b => a.id < b.id
theorem lowJ_le (l : List Job) (id : Int) : lowJ l id ≤ l.length := List.length_filter_le _ _
theorem lowJ_iff {id : Int} : ∀ {l : List Job}, sortedJ l → ∀ {i : Nat} {h : Job}, l[i]? = some h → (h.id < id ↔ i < lowJ l id)
  | [], _, i, h, hh => by simp at hh
  | x :: l, hs, 0, h, hh => by
    simp at hh; subst hh
    unfold lowJ
    rw [List.filter_cons]
    by_cases hx : x.id < id
    · simp [hx]
    · have : l.filter (fun h => decide (h.id < id)) = [] := by
        rw [List.filter_eq_nil_iff]
        intro y hy
        have := (List.pairwise_cons.1 hs).1 y hy
        simp; omega
      simp [hx, this]
  | x :: l, hs, i + 1, h, hh => by
    simp at hh
    have ih := lowJ_iff (id := id) (List.pairwise_cons.1 hs).2 hh
    have hxh := (List.pairwise_cons.1 hs).1 h (List.mem_of_getElem? hh)
    unfold lowJ at ih ⊢
    rw [List.filter_cons]
    by_cases hx : x.id < id
    · simp only [hx, decide_true, if_true, List.length_cons]; rw [ih]; omega
    · have : l.filter (fun h => decide (h.id < id)) = [] := by
        rw [List.filter_eq_nil_iff]
        intro y hy
        have := (List.pairwise_cons.1 hs).1 y hy
        simp; omega
      simp [hx, this]; omega
def isAtJ (l : List Job) (id : Int) : Bool := l.any fun h => h.id == id
theorem isAtJ_low {l : List Job} (hs : sortedJ l) {id : Int} : isAtJ l id = true ↔ ∃ h, l[lowJ l id]? = some h ∧ h.id = id := by
  unfold isAtJ
  rw [List.any_eq_true]
  constructor
  · rintro ⟨h, hm, he⟩
    simp at he
    obtain ⟨i, hi⟩ := List.getElem?_of_mem hm
    have h1 := lowJ_iff hs (id := id) hi
    have h2 : ¬ i < lowJ l id := by rw [← h1]; omega
    have hlt := (List.getElem?_eq_some_iff.1 hi).1
    by_cases e : i = lowJ l id
    · subst e; exact ⟨h, hi, he⟩
    · exfalso
      have hlt2 : lowJ l id < l.length := by omega
      have h3 := lowJ_iff hs (id := id) (List.getElem?_eq_getElem hlt2)
      have h4 : ¬ l[lowJ l id].id < id := by rw [h3]; omega
      have h5 := List.pairwise_iff_getElem.1 hs (lowJ l id) i hlt2 hlt (by omega)
      have h6 : l[i] = h := gE hi hlt
      rw [h6] at h5
      omega
  · rintro ⟨h, hi, he⟩
    exact ⟨h, List.mem_of_getElem? hi, by simpa using he⟩
set_option maxHeartbeats 4000000 in
set_option maxRecDepth 100000 in
theorem BinSearchJ_c (l : List Job) (id : Int) (hs : sortedJ l) (hl : l.length ≤ 256) : ACalls Try.prog 77 [jobs l, iv id, .fn 78 []] (· = .many [.sv (iv (lowJ l id)), .sv (bv (isAtJ l id))]) := by
  refine ACalls.of_bodyS (fun _ _ => Try.call77 _ _) Try.func77 rfl Try.ntmps77 (by simp) ?_
  refine Tr.ex ?_
  have hle := lowJ_le l id
  have hiff := fun {i : Nat} {h : Job} (hh : l[i]? = some h) => lowJ_iff hs (id := id) hh
  have hat := isAtJ_low hs (id := id)
  simp [go_sem]
  refine LoopW.of (fun z : Nat × Nat => ⟨49, [(0, .sv (jobs l)), (1, .sv (iv id)), (2, .sv (.fn 78 [])), (6, .sv (iv 0)), (7, .sv (bv false)), (8, .sv (iv l.length)), (9, .sv (iv z.1)), (10, .sv (iv z.2))], []⟩)
    (fun z => z.1 ≤ z.2 ∧ z.2 ≤ l.length ∧ z.1 ≤ lowJ l id ∧ lowJ l id ≤ z.2) (fun z => z.2 - z.1) (0, l.length) ⟨by simp, by simp, by simp, by simpa using hle⟩ (Ent.chk (by simp [go_sem])) ?_
  rintro ⟨i, j⟩ ⟨h1, h2, h3, h4⟩
  simp only at h1 h2 h3 h4 ⊢
  by_cases hij : i < j
  · have hij' : (i : Int) < j := by omega
    have hw1 : IntKind.i64.wrap ((i : Int) + j) = (i : Int) + j := by rw [i64w] <;> omega
    have hmid : IntKind.i64.wrap ((IntKind.u64.wrap ((i : Int) + j)).fdiv 2) = (((i + j) / 2 : Nat) : Int) := by
      rw [u64w _ (by omega) (by omega), Int.fdiv_eq_ediv_of_nonneg _ (by decide), i64w] <;> omega
    have hm1 : i ≤ (i + j) / 2 := by omega
    have hm2 : (i + j) / 2 < j := by omega
    generalize (i + j) / 2 = m at *
    have hml : m < l.length := by omega
    have hml' : (m : Int) < l.length := by omega
    obtain ⟨h, hx⟩ : ∃ h, l[m]? = some h := ⟨_, List.getElem?_eq_getElem hml⟩
    have hwm : IntKind.i64.wrap ((m : Int) + 1) = (m : Int) + 1 := by rw [i64w] <;> omega
    have hi2 := hiff hx
    simp [go_sem, hij, hij', hw1, hmid, hml, hml', hx, gE hx]
    refine OpW.call (g := 78) (caps := []) (ys := [jobSV h, iv id]) true (findJ1_c h id) rfl rfl (by simp [go_sem]) (by simp [go_sem]) (by rintro _ r rfl; simp [go_sem]) ?_
    rintro r rfl
    by_cases c1 : h.id < id
    · have hc : cmpI h.id id < 0 := by unfold cmpI; rw [if_pos c1]; decide
      have := hi2.1 c1
      simp [go_sem, hc]
      exact ⟨m + 1, j, ⟨by omega, by omega, by omega, by omega⟩, by omega, Ent.chk (by simp [go_sem, hwm])⟩
    · have hc : ¬ cmpI h.id id < 0 := by unfold cmpI; rw [if_neg c1]; split <;> decide
      have : ¬ m < lowJ l id := fun h => c1 (hi2.2 h)
      simp [go_sem, hc]
      exact ⟨i, m, ⟨by omega, by omega, by omega, by omega⟩, by omega, Ent.chk (by simp [go_sem])⟩
  · have hil : i = lowJ l id := by omega
    subst hil
    by_cases hlt : lowJ l id < l.length
    · have hlt' : (lowJ l id : Int) < l.length := by omega
      obtain ⟨h, hx⟩ : ∃ h, l[lowJ l id]? = some h := ⟨_, List.getElem?_eq_getElem hlt⟩
      have hr : isAtJ l id = (cmpI h.id id == 0) := by
        rw [Bool.eq_iff_iff, hat, hx]
        unfold cmpI
        by_cases e : h.id = id
        · simp [e]
        · rcases Int.lt_or_gt_of_ne e with q | q
          · simp [e, q]
          · have : ¬ h.id < id := by omega
            simp [e, this]; omega
      rw [hr]
      generalize lowJ l id = m at *
      have hij' : ¬ (m : Int) < j := by omega
      simp [go_sem, hij', hlt, hlt', hx, gE hx]
      refine OpW.call (g := 78) (caps := []) (ys := [jobSV h, iv id]) true (findJ1_c h id) rfl rfl (by simp [go_sem]) (by simp [go_sem]) (by rintro _ r rfl; simp [go_sem]) ?_
      rintro r rfl
      simp [go_sem]
    · have hlt' : ¬ (lowJ l id : Int) < l.length := by omega
      have hr : isAtJ l id = false := by
        rw [← Bool.not_eq_true, hat]
        rintro ⟨h, hx, _⟩
        exact hlt (List.getElem?_eq_some_iff.1 hx).1
      rw [hr]
      generalize lowJ l id = m at *
      have hij' : ¬ (m : Int) < j := by omega
      simp [go_sem, hij', hlt']
theorem findJ_c (l : List Job) (id : Int) (hs : sortedJ l) (hl : l.length ≤ 256) : ACalls Try.prog 50 [jobs l, iv id] (· = .many [.sv (iv (lowJ l id)), .sv (bv (isAtJ l id))]) := by
  refine ACalls.of_bodyS (fun _ _ => Try.call50 _ _) Try.func50 rfl Try.ntmps50 (by simp) ?_
  refine Tr.ex ?_
  simp [go_sem]
  refine OpW.fn true (BinSearchJ_c l id hs hl) rfl rfl (by simp [go_sem]) (by rintro _ r rfl; simp [go_sem]) ?_
  rintro r rfl
  simp [go_sem]

def jb (l : List Job) (i : Nat) : Job := l.getD i default
theorem jb_get {l : List Job} {i : Nat} {h : Job} (hh : l[i]? = some h) : jb l i = h := by unfold jb; rw [List.getD_eq_getElem?_getD, hh]; rfl
def ordQ (l : List Job) (i : Nat) : Bool := i == 0 || (decide ((jb l (i - 1)).id < (jb l i).id) && decide ((jb l (i - 1)).added ≤ (jb l i).added))
def rowQ (l : List Job) (i : Nat) : Bool := isJob (jb l i) && ordQ l i && (jb l i).after.all fun n => isAtJ (l.take i) n
def quTo (l : List Job) (i : Nat) : Bool := (List.range i).all (rowQ l)
/-- Is it a queue? -/
def isQ (l : List Job) : Bool := decide (l.length ≤ 64) && quTo l l.length
theorem quTo_succ (l : List Job) (i : Nat) : quTo l (i + 1) = (quTo l i && rowQ l i) := by unfold quTo; rw [List.range_succ, List.all_append]; simp
theorem quTo_bad {l : List Job} {i : Nat} (hi : i < l.length) (h : rowQ l i = false) : quTo l l.length = false := by
  unfold quTo
  rw [List.all_eq_false]
  exact ⟨i, List.mem_range.2 hi, by simp [h]⟩
theorem quTo_row {l : List Job} {i j : Nat} (h : quTo l i = true) (hj : j < i) : rowQ l j = true := List.all_eq_true.1 h j (List.mem_range.2 hj)
theorem quTo_sorted {l : List Job} : ∀ {i : Nat}, i ≤ l.length → quTo l i = true → (l.take i).Pairwise fun a b => a.id < b.id ∧ a.added ≤ b.added := by
  intro i
  induction i with
  | zero => intro _ _; simp
  | succ i ih =>
    intro hi hq
    have hlt : i < l.length := by omega
    obtain ⟨x, hx⟩ : ∃ x, l[i]? = some x := ⟨_, List.getElem?_eq_getElem hlt⟩
    have hr := quTo_row hq (Nat.lt_succ_self i)
    rw [quTo_succ, Bool.and_eq_true] at hq
    unfold rowQ ordQ at hr
    simp only [Bool.and_eq_true] at hr
    rw [List.take_succ_eq_append_getElem hlt, gE hx, List.pairwise_append]
    refine ⟨ih (by omega) hq.1, by simp, fun a ha b hb => ?_⟩
    rw [List.mem_singleton.1 hb]
    obtain ⟨j, hj⟩ := List.getElem?_of_mem ha
    rw [List.getElem?_take] at hj
    split at hj
    case isFalse => cases hj
    rename_i hji
    have h2 := hr.1.2
    rw [jb_get hx] at h2
    have hi0 : i ≠ 0 := by omega
    simp [hi0] at h2
    by_cases e : j = i - 1
    · subst e; rw [jb_get hj] at h2; exact h2
    · have hp := ih (by omega) hq.1
      have hlp : i - 1 < l.length := by omega
      have h3 : (l.take i)[j]? = some a := by rw [List.getElem?_take, if_pos hji]; exact hj
      have h4 : (l.take i)[i - 1]? = some (jb l (i - 1)) := by rw [List.getElem?_take, if_pos (by omega)]; rw [List.getElem?_eq_getElem hlp, jb_get (List.getElem?_eq_getElem hlp)]
      obtain ⟨q1, rfl⟩ := List.getElem?_eq_some_iff.1 h3
      obtain ⟨q2, q3⟩ := List.getElem?_eq_some_iff.1 h4
      have := List.pairwise_iff_getElem.1 hp j (i - 1) q1 q2 (by omega)
      rw [q3] at this; omega
theorem q_len {l : List Job} (h : isQ l = true) : l.length ≤ 64 := by unfold isQ at h; simp only [Bool.and_eq_true, decide_eq_true_eq] at h; exact h.1
theorem q_to {l : List Job} (h : isQ l = true) : quTo l l.length = true := by unfold isQ at h; simp only [Bool.and_eq_true, decide_eq_true_eq] at h; exact h.2
theorem q_rise {l : List Job} (h : isQ l = true) : l.Pairwise fun a b => a.id < b.id ∧ a.added ≤ b.added := by
  have := quTo_sorted (Nat.le_refl _) (q_to h)
  rwa [List.take_length] at this
theorem q_sorted {l : List Job} (h : isQ l = true) : sortedJ l := (q_rise h).imp fun h => h.1
set_option maxHeartbeats 4000000 in
set_option maxRecDepth 100000 in
theorem qRight_c (l : List Job) (hl : l.length ≤ 140737488355328) (hh : Jobs l) : ACalls Try.prog 20 [jobs l] (· = .one (.sv (bv (isQ l)))) := by
  refine ACalls.of_bodyS (fun _ _ => Try.call20 _ _) Try.func20 rfl Try.ntmps20 (by simp) ?_
  refine Tr.ex ?_
  unfold isQ
  by_cases hlen : l.length ≤ 64
  case neg =>
    have h1 : (64 : Int) < l.length := by omega
    simp [go_sem, hlen, h1]
  have h1 : ¬ (64 : Int) < l.length := by omega
  simp [go_sem, hlen, h1]
  refine LoopW.of (fun i : Nat => ⟨67, [(0, .sv (jobs l)), (2, .sv (bv false)), (12, .sv (jobs l)), (13, .sv (iv l.length)), (14, .sv (iv i))], []⟩)
    (fun i => i ≤ l.length ∧ quTo l i = true) (fun i => l.length - i) 0 ⟨by omega, rfl⟩ (Ent.chk (by simp [go_sem])) ?_
  rintro i ⟨hi, ht⟩
  by_cases hlt : i < l.length
  · have hlt' : (i : Int) < l.length := by omega
    have hle : (i : Int) ≤ l.length := by omega
    have hw : IntKind.i64.wrap ((i : Int) + 1) = (i : Int) + 1 := by rw [i64w] <;> omega
    obtain ⟨j, hx⟩ : ∃ h, l[i]? = some h := ⟨_, List.getElem?_eq_getElem hlt⟩
    have hjw := hh j (List.mem_of_getElem? hx)
    have hd1 := jb_get hx
    have hs := quTo_succ l i
    have hbad := quTo_bad hlt
    have hso : sortedJ (l.take i) := (quTo_sorted hi ht).imp fun h => h.1
    have hro : rowQ l i = (isJob j && ordQ l i && j.after.all fun n => isAtJ (l.take i) n) := by unfold rowQ; rw [hd1]
    have hor : ordQ l i = (i == 0 || (decide ((jb l (i - 1)).id < j.id) && decide ((jb l (i - 1)).added ≤ j.added))) := by unfold ordQ; rw [hd1]
    simp [go_sem, hlt, hlt', hx, gE hx]
    refine DrawW.rd rfl ?_
    simp [go_sem]
    refine OpD.call true (jRight_c j hjw) rfl rfl (by simp [go_sem]) (by intro _; simp [go_sem]) (by simp [go_sem]) (by simp [go_sem]) ?_
    cases hm : isJob j with
    | false =>
      rw [hbad (by rw [hro, hm]; rfl)]
      simp [go_sem]
      show _ = true
      kernel_rfl
    | true =>
      by_cases hi0 : i = 0
      case' pos =>
        have ho : ordQ l i = true := by rw [hor, hi0]; rfl
        have hi1' : ¬ (0 : Int) < i := by omega
        have hi1 : ¬ 0 < i := by omega
        simp [go_sem, hi1, hi1']
      case' neg =>
        have hi1 : 0 < i := by omega
        have hi1' : (0 : Int) < i := by omega
        have hw1 : IntKind.i64.wrap ((i : Int) - 1) = ((i - 1 : Nat) : Int) := by rw [i64w] <;> omega
        have hlt2 : i - 1 < l.length := by omega
        have hlt3 : ((i - 1 : Nat) : Int) < l.length := by omega
        obtain ⟨p, hp⟩ : ∃ h, l[i - 1]? = some h := ⟨_, List.getElem?_eq_getElem hlt2⟩
        have hd2 := jb_get hp
        rw [hd2] at hor
        have hi2 : (i == 0) = false := by simpa using hi0
        rw [hi2] at hor
        by_cases hid : j.id ≤ p.id
        · rw [hbad (by rw [hro, hor]; have : ¬ p.id < j.id := by omega
                       simp [this])]
          simp [go_sem, hlt, hlt', hx, gE hx, hi1, hi1', hw1, hlt2, hlt3, hp, gE hp, hid]
          show _ = true
          kernel_rfl
        by_cases had : j.added < p.added
        · rw [hbad (by rw [hro, hor]; have : ¬ p.added ≤ j.added := by omega
                       simp [this])]
          simp [go_sem, hlt, hlt', hx, gE hx, hi1, hi1', hw1, hlt2, hlt3, hp, gE hp, hid, had]
          show _ = true
          kernel_rfl
        have ho : ordQ l i = true := by
          rw [hor]
          have q1 : p.id < j.id := by omega
          have q2 : p.added ≤ j.added := by omega
          simp [q1, q2]
        simp [go_sem, hlt, hlt', hx, gE hx, hi1, hi1', hw1, hlt2, hlt3, hp, gE hp, hid, had]
      all_goals
        refine ⟨by kernel_rfl, ?_⟩
        refine LoopW.of (fun k : Nat => ⟨67, [(0, .sv (jobs l)), (2, .sv (bv false)), (3, .sv (iv i)), (12, .sv (jobs l)), (13, .sv (iv l.length)), (14, .sv (iv i)), (49, .sv (ints j.after)), (50, .sv (iv j.after.length)), (51, .sv (iv k))], []⟩)
          (fun k => k ≤ j.after.length ∧ ∀ n ∈ j.after.take k, isAtJ (l.take i) n = true) (fun k => j.after.length - k) 0 ⟨by omega, by simp⟩ (Ent.chk (by simp [go_sem])) ?_
        rintro k ⟨hk, ha⟩
        by_cases hkl : k < j.after.length
        · have hkl' : (k : Int) < j.after.length := by omega
          have hal := hjw.2
          have hwk : IntKind.i64.wrap ((k : Int) + 1) = (k : Int) + 1 := by rw [i64w] <;> omega
          obtain ⟨x, hxk⟩ : ∃ h, j.after[k]? = some h := ⟨_, List.getElem?_eq_getElem hkl⟩
          simp [go_sem, hkl, hkl', hxk, gE hxk, hlt, hle, hi]
          refine OpW.fn true (findJ_c (l.take i) x hso (by rw [List.length_take]; omega)) rfl rfl (by simp [go_sem]) (by rintro _ r rfl; simp [go_sem]) ?_
          rintro r rfl
          cases hat : isAtJ (l.take i) x with
          | false =>
            rw [hbad (by rw [hro, (List.all_eq_false.2 ⟨x, List.mem_of_getElem? hxk, by simp [hat]⟩ : (j.after.all fun n => isAtJ (l.take i) n) = false)]; simp)]
            simp [go_sem]
          | true =>
            simp [go_sem]
            exact ⟨k + 1, ⟨by omega, fun n hn => by
              rw [List.take_succ_eq_append_getElem hkl, gE hxk, List.mem_append, List.mem_singleton] at hn
              rcases hn with hn | rfl
              · exact ha n hn
              · exact hat⟩, by omega, Ent.chk (by simp [go_sem, hwk])⟩
        · have hkl2 : k = j.after.length := by omega
          subst hkl2
          rw [List.take_length] at ha
          simp [go_sem]
          exact ⟨i + 1, ⟨by omega, by rw [hs, ht, hro, hm, ho, (List.all_eq_true.2 ha : (j.after.all fun n => isAtJ (l.take i) n) = true)]; rfl⟩, by omega, Ent.chk (by simp [go_sem, hw])⟩
  · have hil : i = l.length := by omega
    subst hil
    simp [go_sem, ht]
end Go.Proofs.Ytnkcenafpigmbaa.Ab

namespace Go.Proofs.Ytnkcenafpigmbaa.Ab
set_option linter.unusedVariables false
set_option linter.unusedSimpArgs false

section
variable {α : Type}
/-- Into a list that stands the other way round: x goes ahead of the first that it is not less than. -/
def insR (lt : α → α → Bool) (x : α) : List α → List α
  | [] => [x]
  | y :: ys => if lt x y = true then y :: insR lt x ys else x :: y :: ys
def srtR (lt : α → α → Bool) (l : List α) : List α := l.foldl (fun r x => insR lt x r) []
/-- Sorted by insertion. -/
def srt (lt : α → α → Bool) (l : List α) : List α := (srtR lt l).reverse
theorem insR_perm (lt : α → α → Bool) (x : α) : ∀ l : List α, (insR lt x l).Perm (x :: l)
  | [] => List.Perm.refl _
  | y :: ys => by
    unfold insR
    split
    · exact ((insR_perm lt x ys).cons y).trans (List.Perm.swap x y ys)
    · exact List.Perm.refl _
theorem insR_len (lt : α → α → Bool) (x : α) (l : List α) : (insR lt x l).length = l.length + 1 := by rw [(insR_perm lt x l).length_eq]; rfl
theorem srtR_snoc (lt : α → α → Bool) (l : List α) (x : α) : srtR lt (l ++ [x]) = insR lt x (srtR lt l) := by unfold srtR; rw [List.foldl_append]; rfl
theorem srtR_perm (lt : α → α → Bool) (l : List α) : (srtR lt l).Perm l := by
  have key : ∀ (l r : List α), (l.foldl (fun r x => insR lt x r) r).Perm (l ++ r) := by
    intro l
    induction l with
    | nil => intro r; exact List.Perm.refl _
    | cons x l ih =>
      intro r
      rw [List.foldl_cons]
      refine (ih _).trans ?_
      refine ((insR_perm lt x r).append_left l).trans ?_
      rw [List.cons_append]; exact List.perm_middle
  have := key l []
  rwa [List.append_nil] at this
theorem srtR_len (lt : α → α → Bool) (l : List α) : (srtR lt l).length = l.length := (srtR_perm lt l).length_eq
theorem srt_perm (lt : α → α → Bool) (l : List α) : (srt lt l).Perm l := (List.reverse_perm _).trans (srtR_perm lt l)
theorem srt_len (lt : α → α → Bool) (l : List α) : (srt lt l).length = l.length := (srt_perm lt l).length_eq
/-- What comes of it, where the order is one and what is equal stands as it came. -/
theorem insR_sorted {lt : α → α → Bool} {R : α → α → Prop} {x : α} : ∀ {l : List α}, l.Pairwise (fun a b => R b a) → (∀ y ∈ l, lt x y = true → R x y) → (∀ y ∈ l, lt x y = false → R y x) → (∀ a b c, R a b → R b c → R a c) → (insR lt x l).Pairwise (fun a b => R b a)
  | [], _, _, _, _ => by simp [insR]
  | y :: ys, hp, h1, h2, ht => by
    unfold insR
    rw [List.pairwise_cons] at hp
    split
    · rename_i h
      rw [List.pairwise_cons]
      refine ⟨fun z hz => ?_, insR_sorted hp.2 (fun z hz => h1 z (List.mem_cons_of_mem _ hz)) (fun z hz => h2 z (List.mem_cons_of_mem _ hz)) ht⟩
      rcases List.mem_cons.1 ((insR_perm lt x ys).mem_iff.1 hz) with rfl | hz
      · exact h1 y List.mem_cons_self h
      · exact hp.1 z hz
    · rename_i h
      have hyx := h2 y List.mem_cons_self (by simpa using h)
      rw [List.pairwise_cons]
      refine ⟨fun z hz => ?_, List.pairwise_cons.2 hp⟩
      rcases List.mem_cons.1 hz with rfl | hz
      · exact hyx
      · exact ht _ _ _ (hp.1 z hz) hyx
theorem srt_sorted {lt : α → α → Bool} {R : α → α → Prop} {l : List α} (hl : l.Pairwise fun a b => (lt b a = true → R b a) ∧ (lt b a = false → R a b)) (ht : ∀ a b c, R a b → R b c → R a c) : (srt lt l).Pairwise R := by
  have key : ∀ (l r : List α), l.Pairwise (fun a b => (lt b a = true → R b a) ∧ (lt b a = false → R a b)) → r.Pairwise (fun a b => R b a) → (∀ a ∈ r, ∀ b ∈ l, (lt b a = true → R b a) ∧ (lt b a = false → R a b)) → (l.foldl (fun r x => insR lt x r) r).Pairwise (fun a b => R b a) := by
    intro l
    induction l with
    | nil => intro r _ hr _; exact hr
    | cons x l ih =>
      intro r hl hr hx
      rw [List.foldl_cons]
      rw [List.pairwise_cons] at hl
      refine ih _ hl.2 (insR_sorted hr (fun y hy => (hx y hy x List.mem_cons_self).1) (fun y hy => (hx y hy x List.mem_cons_self).2) ht) fun a ha b hb => ?_
      rcases List.mem_cons.1 ((insR_perm lt x r).mem_iff.1 ha) with rfl | ha
      · exact hl.1 b hb
      · exact hx a ha b (List.mem_cons_of_mem _ hb)
  unfold srt srtR
  rw [List.pairwise_reverse]
  exact key l [] hl List.Pairwise.nil (fun a ha => by cases ha)
/-- Two lists of the same, that stand in the same strict order, are one. -/
theorem sorted_unique {R : α → α → Prop} (hirr : ∀ a, ¬ R a a) (hasym : ∀ a b, R a b → ¬ R b a) : ∀ {l m : List α}, l.Perm m → l.Pairwise R → m.Pairwise R → l = m
  | [], m, hp, _, _ => (List.nil_perm.1 hp).symm
  | x :: l, [], hp, _, _ => by cases List.perm_nil.1 hp
  | x :: l, y :: m, hp, hl, hm => by
    rw [List.pairwise_cons] at hl hm
    have hxy : x = y := by
      rcases List.mem_cons.1 (hp.mem_iff.1 List.mem_cons_self) with h | h
      · exact h
      · rcases List.mem_cons.1 (hp.mem_iff.2 (List.mem_cons_self (a := y) (l := m))) with h2 | h2
        · exact h2.symm
        · exact (hasym _ _ (hl.1 y h2) (hm.1 x h)).elim
    subst hxy
    rw [sorted_unique hirr hasym (List.Perm.cons_inv hp) hl.2 hm.2]

/-! ### One insertion, step by step -/
def midL (A rp : List α) (x : α) (k : Nat) (C : List α) : List α := A ++ (rp.drop k).reverse ++ x :: ((rp.take k).reverse ++ C)
theorem set2 (B D : List α) (x y : α) {i j : Nat} (hi : i = B.length + 1) (hj : j = B.length) : ((B ++ y :: x :: D).set i y).set j x = B ++ x :: y :: D := by
  subst hi; subst hj
  rw [List.set_append_right _ _ (by omega), List.set_append_right _ _ (by omega)]
  simp
theorem midL_len (A rp : List α) (x : α) (k : Nat) (C : List α) (hk : k ≤ rp.length) : (midL A rp x k C).length = A.length + rp.length + 1 + C.length := by
  unfold midL; simp; omega
theorem midL_split {A rp : List α} {x y : α} {k : Nat} {C : List α} (hy : rp[k]? = some y) : midL A rp x k C = (A ++ (rp.drop (k + 1)).reverse) ++ y :: x :: ((rp.take k).reverse ++ C) := by
  obtain ⟨hk, rfl⟩ := List.getElem?_eq_some_iff.1 hy
  unfold midL
  rw [List.drop_eq_getElem_cons hk]
  generalize rp[k] = y
  generalize rp.drop (k + 1) = D
  simp
theorem midL_split2 {A rp : List α} {x y : α} {k : Nat} {C : List α} (hy : rp[k]? = some y) : midL A rp x (k + 1) C = (A ++ (rp.drop (k + 1)).reverse) ++ x :: y :: ((rp.take k).reverse ++ C) := by
  obtain ⟨hk, rfl⟩ := List.getElem?_eq_some_iff.1 hy
  unfold midL
  rw [List.take_succ_eq_append_getElem hk]
  generalize rp[k] = y
  generalize rp.take k = D
  simp
theorem midL_at {A rp : List α} {x : α} {k i : Nat} {C : List α} (hk : k ≤ rp.length) (hi : i = A.length + (rp.length - k)) : (midL A rp x k C)[i]? = some x := by
  unfold midL
  rw [List.getElem?_append_right (by simp; omega)]
  have : i - (A ++ (rp.drop k).reverse).length = 0 := by simp; omega
  rw [this]; rfl
theorem midL_pre {A rp : List α} {x y : α} {k i : Nat} {C : List α} (hy : rp[k]? = some y) (hi : i + 1 = A.length + (rp.length - k)) : (midL A rp x k C)[i]? = some y := by
  have hk := (List.getElem?_eq_some_iff.1 hy).1
  rw [midL_split hy, List.getElem?_append_right (by simp; omega)]
  have : i - (A ++ (rp.drop (k + 1)).reverse).length = 0 := by simp; omega
  rw [this]; rfl
theorem midL_step {A rp : List α} {x y : α} {k i j : Nat} {C : List α} (hy : rp[k]? = some y) (hi : i = A.length + (rp.length - k)) (hj : j + 1 = i) : ((midL A rp x k C).set i y).set j x = midL A rp x (k + 1) C := by
  have hk := (List.getElem?_eq_some_iff.1 hy).1
  rw [midL_split hy, midL_split2 hy]
  exact set2 _ _ _ _ (by simp; omega) (by simp; omega)
theorem insR_step {lt : α → α → Bool} {x y : α} {rp : List α} {k : Nat} (hy : rp[k]? = some y) (h : insR lt x rp = rp.take k ++ insR lt x (rp.drop k)) : (lt x y = true → insR lt x rp = rp.take (k + 1) ++ insR lt x (rp.drop (k + 1))) ∧ (lt x y = false → insR lt x rp = rp.take k ++ x :: rp.drop k) := by
  obtain ⟨hk, rfl⟩ := List.getElem?_eq_some_iff.1 hy
  rw [List.drop_eq_getElem_cons hk] at h ⊢
  have e : insR lt x (rp[k] :: rp.drop (k + 1)) = if lt x rp[k] = true then rp[k] :: insR lt x (rp.drop (k + 1)) else x :: rp[k] :: rp.drop (k + 1) := rfl
  rw [e] at h
  constructor
  · intro hl
    rw [if_pos hl] at h
    rw [List.take_succ_eq_append_getElem hk, List.append_assoc]
    exact h
  · intro hl
    rw [if_neg (by simp [hl])] at h
    exact h
/-- Where the loop is: so many are sorted. -/
def srtL (lt : α → α → Bool) (A l C : List α) (m : Nat) : List α := A ++ (srtR lt (l.take m)).reverse ++ (l.drop m ++ C)
theorem srtL_one (lt : α → α → Bool) (A l C : List α) : srtL lt A l C 1 = A ++ l ++ C := by
  unfold srtL
  cases l with
  | nil => rfl
  | cons x l => simp [srtR, insR]
theorem srtL_mid {lt : α → α → Bool} {A l C : List α} {m : Nat} {x : α} (hx : l[m]? = some x) : srtL lt A l C m = midL A (srtR lt (l.take m)) x 0 (l.drop (m + 1) ++ C) := by
  obtain ⟨hm, rfl⟩ := List.getElem?_eq_some_iff.1 hx
  unfold srtL midL
  rw [List.drop_eq_getElem_cons hm]
  generalize l.drop (m + 1) = D
  generalize l[m] = y
  simp
theorem srtL_end {lt : α → α → Bool} {A l C : List α} {m k : Nat} {x : α} (hx : l[m]? = some x) (h : insR lt x (srtR lt (l.take m)) = (srtR lt (l.take m)).take k ++ x :: (srtR lt (l.take m)).drop k) :
    midL A (srtR lt (l.take m)) x k (l.drop (m + 1) ++ C) = srtL lt A l C (m + 1) := by
  obtain ⟨hm, rfl⟩ := List.getElem?_eq_some_iff.1 hx
  unfold srtL midL
  rw [List.take_succ_eq_append_getElem hm, srtR_snoc, h]
  simp
theorem srtL_all {lt : α → α → Bool} {A l C : List α} {m : Nat} (h : l.length ≤ m) : srtL lt A l C m = A ++ srt lt l ++ C := by
  unfold srtL srt
  rw [List.take_of_length_le h, List.drop_eq_nil_of_le h]
  simp
theorem srtL_len (lt : α → α → Bool) (A l C : List α) (m : Nat) : (srtL lt A l C m).length = A.length + l.length + C.length := by
  unfold srtL; simp [srtR_len]; omega
end
end Go.Proofs.Ytnkcenafpigmbaa.Ab
