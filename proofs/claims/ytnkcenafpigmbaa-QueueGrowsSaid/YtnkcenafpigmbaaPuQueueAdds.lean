/- What comes of a queue to which a job is added. The law QueueAdds. -/
import Derived.Test.YtnkcenafpigmbaaPuQueueOrder
namespace Go.Proofs.Ytnkcenafpigmbaa.Ab
open Go.RowKit
set_option linter.unusedVariables false
set_option linter.unusedSimpArgs false

theorem upF_rises {id : Int} : ∀ {l : List Int} {last : Int}, upF last l = true → (∀ n ∈ l, n < id) → risesF id last l = true
  | [], _, _, _ => rfl
  | x :: r, last, h, hn => by
    rw [upF_cons, Bool.and_eq_true] at h
    rw [risesF_cons, h.1, decide_eq_true (hn x List.mem_cons_self), upF_rises h.2 fun n hm => hn n (List.mem_cons_of_mem _ hm)]
    rfl
def newJ (l : List Job) (s : Spec) (needs : List Int) (now : Int) : Job := ⟨(lastJ l).id + 1, s, needs, 0, now, 0, 0⟩
def canAdd (l : List Job) (s : Spec) (needs : List Int) (now : Int) : Prop := isQ l = true ∧ isSpec s = true ∧ risingB needs = true ∧ isWhen now = true ∧ (lastJ l).added ≤ now ∧ (∀ n ∈ needs, isAtJ l n = true) ∧ l.length ≠ 64 ∧ (lastJ l).id ≠ 1073741824
theorem addQ_cases (l : List Job) (s : Spec) (needs : List Int) (now : Int) : (canAdd l s needs now ∧ addQ l s needs now = (l ++ [newJ l s needs now], (newJ l s needs now).id, 0)) ∨ (∃ e, e ≠ 0 ∧ addQ l s needs now = (l, 0, e)) := by
  unfold addQ canAdd newJ
  split
  · rename_i h
    split
    · rename_i h2
      rw [List.all_eq_true] at h2
      split
      · exact .inr ⟨5, by decide, rfl⟩
      · split
        · exact .inr ⟨9, by decide, rfl⟩
        · exact .inl ⟨⟨h.1, h.2.1, h.2.2.1, h.2.2.2.1, h.2.2.2.2, h2, by assumption, by assumption⟩, rfl⟩
    · exact .inr ⟨6, by decide, rfl⟩
  · exact .inr ⟨1, by decide, rfl⟩
theorem jb_app {l : List Job} {j : Job} {i : Nat} (h : i < l.length) : jb (l ++ [j]) i = jb l i := by
  rw [jb_get (by rw [List.getElem?_append_left h]; exact List.getElem?_eq_getElem h), jb_get (List.getElem?_eq_getElem h)]
theorem jb_last (l : List Job) (j : Job) : jb (l ++ [j]) l.length = j := jb_get (by simp)
theorem rowQ_app {l : List Job} {j : Job} {i : Nat} (h : i < l.length) : rowQ (l ++ [j]) i = rowQ l i := by
  unfold rowQ ordQ
  rw [jb_app h, jb_app (show i - 1 < l.length by omega), List.take_append_of_le_length (by omega)]
theorem lastJ_max {l : List Job} (hq : isQ l = true) {x : Job} (hx : x ∈ l) : x.id ≤ (lastJ l).id ∧ x.added ≤ (lastJ l).added := by
  obtain ⟨i, hi⟩ := List.getElem?_of_mem hx
  obtain ⟨h1, h2⟩ := List.getElem?_eq_some_iff.1 hi
  have hl : l[l.length - 1]? = some (lastJ l) := by
    unfold lastJ
    rw [List.getLast?_eq_getElem?, List.getElem?_eq_getElem (by omega)]
    rfl
  by_cases e : i = l.length - 1
  · subst e; rw [hl] at hi; cases hi; exact ⟨Int.le_refl _, Int.le_refl _⟩
  · have := List.pairwise_iff_getElem.1 (q_rise hq) i (l.length - 1) h1 (by omega) (by omega)
    rw [h2, gE hl] at this
    omega
theorem isAtJ_mem {l : List Job} {n : Int} (h : isAtJ l n = true) : ∃ x ∈ l, x.id = n := by
  unfold isAtJ at h
  obtain ⟨x, h1, h2⟩ := List.any_eq_true.1 h
  exact ⟨x, h1, by simpa using h2⟩
theorem add_isQ {l : List Job} {s : Spec} {needs : List Int} {now : Int} (h : canAdd l s needs now) : isQ (l ++ [newJ l s needs now]) = true := by
  obtain ⟨hq, hs, hr, hw, ha, hn, h64, hid⟩ := h
  have hle := q_len hq
  have hid2 := lastJ_id hq
  have hlt : ∀ n ∈ needs, n < (lastJ l).id + 1 := fun n hm => by
    obtain ⟨x, hx, rfl⟩ := isAtJ_mem (hn n hm)
    have := (lastJ_max hq hx).1; omega
  unfold risingB at hr
  rw [Bool.and_eq_true, decide_eq_true_eq] at hr
  unfold isQ
  rw [Bool.and_eq_true, decide_eq_true_eq, List.length_append]
  refine ⟨by simp; omega, ?_⟩
  unfold quTo
  rw [List.all_eq_true]
  intro i hi
  rw [List.mem_range] at hi
  by_cases hil : i < l.length
  · rw [rowQ_app hil]
    exact quTo_row (q_to hq) hil
  · have hie : i = l.length := by simp at hi; omega
    subst hie
    unfold rowQ
    rw [jb_last, Bool.and_eq_true, Bool.and_eq_true]
    refine ⟨⟨?_, ?_⟩, ?_⟩
    · unfold isJob isNeeds newJ
      simp only [Bool.and_eq_true, decide_eq_true_eq]
      refine ⟨⟨⟨⟨⟨by omega, by omega⟩, hs⟩, hr.2, upF_rises hr.1 hlt⟩, hw⟩, ?_⟩
      unfold isTimes
      simp
    · unfold ordQ
      rw [jb_last]
      by_cases h0 : l.length = 0
      · rw [h0]; rfl
      · rw [jb_app (by omega), Bool.or_eq_true]
        right
        have hl : l[l.length - 1]? = some (lastJ l) := by
          unfold lastJ
          rw [List.getLast?_eq_getElem?, List.getElem?_eq_getElem (by omega)]
          rfl
        rw [jb_get hl]
        unfold newJ
        simp only [Bool.and_eq_true, decide_eq_true_eq]
        omega
    · rw [List.all_eq_true]
      intro n hm
      rw [List.take_left]
      exact hn n hm
theorem new_get {l : List Job} {s : Spec} {needs : List Int} {now : Int} (h : canAdd l s needs now) : getJ (l ++ [newJ l s needs now]) (newJ l s needs now).id = (newJ l s needs now, true) := get_mem (add_isQ h) (by simp)
/-- Is all that it needs done? -/
theorem new_ready {l : List Job} {s : Spec} {needs : List Int} {now : Int} (h : canAdd l s needs now) : ((newJ l s needs now).id ∈ readyL (l ++ [newJ l s needs now])) ↔ ∀ n ∈ needs, (getJ l n).2 = true ∧ (getJ l n).1.state = 3 := by
  have hQ := add_isQ h
  obtain ⟨hq, hs, hr, hw, ha, hn, h64, hid⟩ := h
  have hget : ∀ n ∈ needs, ∃ x, getJ l n = (x, true) ∧ jb (l ++ [newJ l s needs now]) (lowJ (l ++ [newJ l s needs now]) n) = x := fun n hm => by
    obtain ⟨x, hx, rfl⟩ := isAtJ_mem (hn n hm)
    refine ⟨x, get_mem hq hx, ?_⟩
    obtain ⟨k, hk⟩ := List.getElem?_of_mem hx
    have hk2 : (l ++ [newJ l s needs now])[k]? = some x := by rw [List.getElem?_append_left (List.getElem?_eq_some_iff.1 hk).1]; exact hk
    rw [(low_of (q_sorted hQ) hk2).2, jb_get hk2]
  unfold readyL
  rw [if_pos hQ, List.mem_map]
  have hB : readyB (l ++ [newJ l s needs now]) (newJ l s needs now) = true ↔ ∀ n ∈ needs, (getJ l n).2 = true ∧ (getJ l n).1.state = 3 := by
    unfold readyB
    simp only [Bool.and_eq_true, decide_eq_true_eq, List.all_eq_true]
    constructor
    · rintro ⟨_, h⟩ n hm
      obtain ⟨x, h1, h2⟩ := hget n hm
      have := h n hm
      rw [h2] at this
      rw [h1]; exact ⟨rfl, this⟩
    · intro h
      refine ⟨rfl, fun n hm => ?_⟩
      obtain ⟨x, h1, h2⟩ := hget n hm
      have := (h n hm).2
      rw [h1] at this
      rw [h2]; exact this
  rw [← hB]
  constructor
  · rintro ⟨x, hx, he⟩
    obtain ⟨h1, h2⟩ := ready_mem hx
    obtain ⟨k, hk⟩ := List.getElem?_of_mem h1
    have hk2 : (l ++ [newJ l s needs now])[l.length]? = some (newJ l s needs now) := by simp
    have e1 := (low_of (q_sorted hQ) hk).2
    have e2 := (low_of (q_sorted hQ) hk2).2
    rw [he, e2] at e1
    subst e1
    rw [hk2] at hk
    cases hk
    exact h2
  · intro h2
    exact ⟨_, (readyJ_perm _).mem_iff.2 (List.mem_filter.2 ⟨by simp, h2⟩), rfl⟩
end Go.Proofs.Ytnkcenafpigmbaa.Ab

namespace Go.Proofs.Ytnkcenafpigmbaa.Ab
open Go.RowKit
set_option linter.unusedVariables false
set_option linter.unusedSimpArgs false

set_option maxHeartbeats 16000000 in
set_option maxRecDepth 100000 in
theorem law_QueueAdds (y0 : List Job) (y1 : Spec) (y2 : List Int) (y3 : Int) (G0 : y0.length * 128 ≤ 140737488351232 ∧ y0.length ≤ maxLen ∧ ∀ x ∈ y0, JobOk x) (G1 : SpecOk y1) (G2 : y2.length * 8 ≤ 140737488351232 ∧ y2.length ≤ maxLen ∧ ∀ x ∈ y2, (Lit.int .i64 x).wf = true) (G3 : (Lit.int .i64 y3).wf = true) :
    ACalls Try.prog 6 [jobs y0, specSV y1, ints y2, iv y3] (· = .one (.sv (bv true))) := by
  refine ACalls.of_bodyS (fun _ _ => Try.call6 _ _) Try.func6 rfl Try.ntmps6 (by simp) ?_
  refine Tr.ex ?_
  simp [go_sem]
  refine OpW.fn true awake12_c rfl rfl (by simp [go_sem]) (by rintro _ r rfl; simp [go_sem]) ?_
  rintro r rfl
  simp [go_sem]
  refine OpW.fn true (r12Short_c y0 (by have := G0.1; omega)) rfl rfl (by simp [go_sem]) (by rintro _ r rfl; simp [go_sem]) ?_
  rintro r rfl
  cases hs : shortJ y0 with
  | false => simp [go_sem]
  | true =>
    obtain ⟨hl, hl20⟩ := shortJ_len hs
    have hh := shortJ_jobs hs G0.2.2
    by_cases hn : (20 : Int) < y2.length
    · simp [go_sem, hn]
    have fA := qAdd_c y0 y1 y2 y3 (by omega) hh G1.2.2.2.1 (by omega)
    simp [go_sem, hn]
    rcases addQ_cases y0 y1 y2 y3 with ⟨hc, he⟩ | ⟨e, he0, he⟩
    case inr =>
      rw [he] at fA
      have he1 : (e == 0) = false := by simpa using he0
      refine OpW.fn false fA rfl rfl (by simp [go_sem]) (fun h => by cases h) ?_
      rintro r rfl
      simp [go_sem, bne, he1]
      refine OpW.fn true (sameJ_c y0 y0 (by omega) (by omega) hh hh) rfl rfl (by simp [go_sem]) (by rintro _ r rfl; simp [go_sem]) ?_
      rintro r rfl
      simp [go_sem]
    case inl =>
      rw [he] at fA
      have hQ := add_isQ hc
      have hG := new_get hc
      have hR := new_ready hc
      have hhN : Jobs (y0 ++ [newJ y0 y1 y2 y3]) := fun j hj => by
        rcases List.mem_append.1 hj with hj | hj
        · exact hh j hj
        · rw [List.mem_singleton.1 hj]; exact ⟨G1.2.2.2.1, by show y2.length ≤ _; omega⟩
      have eS : (newJ y0 y1 y2 y3).spec = y1 := rfl
      have eA : (newJ y0 y1 y2 y3).after = y2 := rfl
      have eT : (newJ y0 y1 y2 y3).state = 0 := rfl
      have eC : (newJ y0 y1 y2 y3).added = y3 := rfl
      have hwl : IntKind.i64.wrap ((y0.length : Int) + 1) = (y0.length : Int) + 1 := by rw [i64w] <;> omega
      have htk : (y0 ++ [newJ y0 y1 y2 y3]).take y0.length = y0 := List.take_left
      have hln : (y0 ++ [newJ y0 y1 y2 y3]).length = y0.length + 1 := by simp
      have hrl := readyL_len (y0 ++ [newJ y0 y1 y2 y3])
      have fRt := qRight_c (y0 ++ [newJ y0 y1 y2 y3]) (by omega) hhN
      have fG := qGet_c (y0 ++ [newJ y0 y1 y2 y3]) (newJ y0 y1 y2 y3).id (by omega) hhN
      have fRd := qReady_c (y0 ++ [newJ y0 y1 y2 y3]) (by omega) hhN
      have fS := sameJ_c y0 y0 (by omega) (by omega) hh hh
      rw [hQ] at fRt
      rw [hG] at fG
      generalize newJ y0 y1 y2 y3 = J at *
      generalize hN : y0 ++ [J] = Nn at *
      have hll : y0.length < Nn.length := by omega
      have hlle : y0.length ≤ Nn.length := by omega
      have hlle' : (y0.length : Int) ≤ Nn.length := by omega
      have htk2 : (Nn.map jobSV).take y0.length = y0.map jobSV := by rw [← List.map_take, htk]
      have e1 : ((Nn.length : Int) == (y0.length : Int) + 1) = true := by simp; omega
      refine OpW.fn false fA rfl rfl (by simp [go_sem]) (fun h => by cases h) ?_
      rintro r rfl
      simp [go_sem, bne, hwl, e1, hlle, hlle', htk2]
      refine OpW.fn true fS rfl rfl (by simp [go_sem]) (by rintro _ r rfl; simp [go_sem]) ?_
      rintro r rfl
      simp [go_sem]
      refine OpW.fn true fRt rfl rfl (by simp [go_sem]) (by rintro _ r rfl; simp [go_sem]) ?_
      rintro r rfl
      simp [go_sem]
      refine OpW.fn false fG rfl rfl (by simp [go_sem]) (fun h => by cases h) ?_
      rintro r rfl
      simp [go_sem]
      generalize hD : (fun n => (getJ y0 n).2 && decide ((getJ y0 n).1.state = 3)) = D at *
      have hDn : ∀ n, D n = ((getJ y0 n).2 && decide ((getJ y0 n).1.state = 3)) := fun n => by rw [← hD]
      refine LoopW.of (fun i : Nat => ⟨145, [(0, .sv (jobs y0)), (2, .sv (ints y2)), (3, .sv (iv y3)), (5, .box 5 0), (8, .sv (bv false)), (9, .sv (jobs Nn)), (10, .sv (iv J.id)), (12, .box 12 0), (13, .sv (bv true)), (14, .sv (bv ((y2.take i).all D))), (15, .sv (iv i))], [(5, .box ((specCells y1).map .sv)), (12, .box ((jobCells J).map .sv))]⟩)
        (fun i => i ≤ y2.length) (fun i => y2.length - i) 0 (by omega) (Ent.chk (by simp [go_sem])) ?_
      intro i hi
      by_cases hlt : i < y2.length
      · have hlt' : (i : Int) < y2.length := by omega
        have hw : IntKind.i64.wrap ((i : Int) + 1) = (i : Int) + 1 := by rw [i64w] <;> omega
        obtain ⟨n, hx⟩ : ∃ v, y2[i]? = some v := ⟨_, List.getElem?_eq_getElem hlt⟩
        have htk3 : (y2.take (i + 1)).all D = ((y2.take i).all D && D n) := by rw [List.take_succ_eq_append_getElem hlt, gE hx, List.all_append]; simp
        have hDn1 := hDn n
        generalize (y2.take i).all D = d at *
        generalize hd' : (y2.take (i + 1)).all D = d' at *
        simp [go_sem, hlt, hlt', hx, gE hx]
        refine OpW.fn false (qGet_c y0 n (by omega) hh) rfl rfl (by simp [go_sem]) (fun h => by cases h) ?_
        rintro r rfl
        generalize (getJ y0 n).2 = ok at *
        generalize (getJ y0 n).1 = x at *
        cases d with
        | false =>
          simp at htk3
          subst htk3
          simp [go_sem]
          exact ⟨i + 1, by omega, by omega, Ent.chk (by simp [go_sem, hw, hd'])⟩
        | true =>
          cases ok with
          | false =>
            simp at hDn1
            simp [hDn1] at htk3
            subst htk3
            simp [go_sem]
            exact ⟨i + 1, by omega, by omega, Ent.chk (by simp [go_sem, hw, hd'])⟩
          | true =>
            have : (x.state == 3) = d' := by rw [htk3, hDn1, Bool.eq_iff_iff]; simp
            simp [go_sem, this]
            exact ⟨i + 1, by omega, by omega, Ent.chk (by simp [go_sem, hw, hd'])⟩
      · have hil : i = y2.length := by omega
        subst hil
        rw [List.take_length]
        have hR2 : (J.id ∈ readyL Nn) ↔ y2.all D = true := by
          rw [hR, List.all_eq_true]
          refine forall_congr' fun n => forall_congr' fun _ => ?_
          rw [hDn, Bool.and_eq_true, decide_eq_true_eq]
        generalize y2.all D = d at *
        simp [go_sem]
        refine OpW.fn false fRd rfl rfl (by simp [go_sem]) (fun h => by cases h) ?_
        rintro r rfl
        generalize readyL Nn = L at *
        simp [go_sem]
        refine LoopW.of (fun k : Nat => ⟨145, [(2, .sv (ints y2)), (3, .sv (iv y3)), (5, .box 5 0), (8, .sv (bv false)), (10, .sv (iv J.id)), (12, .box 12 0), (13, .sv (bv true)), (14, .sv (bv d)), (18, .sv (ints L)), (19, .sv (bv (decide (J.id ∈ L.take k)))), (20, .sv (iv k))], [(5, .box ((specCells y1).map .sv)), (12, .box ((jobCells J).map .sv))]⟩)
          (fun k => k ≤ L.length) (fun k => L.length - k) 0 (by omega) (Ent.chk (by simp [go_sem])) ?_
        intro k hk
        by_cases hkl : k < L.length
        · have hkl' : (k : Int) < L.length := by omega
          have hwk : IntKind.i64.wrap ((k : Int) + 1) = (k : Int) + 1 := by rw [i64w] <;> omega
          obtain ⟨v, hv⟩ : ∃ v, L[k]? = some v := ⟨_, List.getElem?_eq_getElem hkl⟩
          have hmem : decide (J.id ∈ L.take (k + 1)) = (decide (J.id ∈ L.take k) || (v == J.id)) := by
            rw [List.take_succ_eq_append_getElem hkl, gE hv, Bool.eq_iff_iff]
            simp only [decide_eq_true_eq, Bool.or_eq_true, beq_iff_eq, List.mem_append, List.mem_singleton]
            constructor
            · rintro (h | h)
              · exact .inl h
              · exact .inr h.symm
            · rintro (h | h)
              · exact .inl h
              · exact .inr h.symm
          generalize decide (J.id ∈ L.take k) = b1 at *
          generalize hb2 : decide (J.id ∈ L.take (k + 1)) = b2 at *
          subst hmem
          cases b1 <;> simp [go_sem, hkl, hkl', hv, gE hv]
          · exact ⟨k + 1, by omega, by omega, Ent.chk (by simp [go_sem, hwk, hb2])⟩
          · exact ⟨k + 1, by omega, by omega, Ent.chk (by simp [go_sem, hwk, hb2])⟩
        · have hkl2 : k = L.length := by omega
          subst hkl2
          rw [List.take_length]
          have hd2 : decide (J.id ∈ L) = d := by rw [Bool.eq_iff_iff, ← hR2]; simp
          rw [hd2]
          simp [go_sem, eS, eA, eT, eC]
          refine OpW.fn true (Same_c y2 y2 (by omega) (by omega)) rfl rfl (by simp [go_sem]) (by rintro _ r rfl; simp [go_sem]) ?_
          rintro r rfl
          simp [go_sem]
end Go.Proofs.Ytnkcenafpigmbaa.Ab
