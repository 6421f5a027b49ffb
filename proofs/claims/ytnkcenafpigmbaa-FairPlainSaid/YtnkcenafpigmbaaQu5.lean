/- queue: Lost, Counts, Get. The reference's queue: At, Short, Right, IsReady, IsLost, Lost. The reference's queue: IsReady, IsLost, Lost, Ready. -/
import Derived.Test.YtnkcenafpigmbaaQu4
import Derived.Test.YtnkcenafpigmbaaTy2
namespace Go.Proofs.Ytnkcenafpigmbaa.Ab
open Go.RowKit
set_option linter.unusedVariables false
set_option linter.unusedSimpArgs false

def overB (n : Int) : Bool := decide (3 ≤ n) && decide (n ≤ 6)
def badL (l : List Job) (lost : List Bool) (k : Nat) : Bool := lost.getD k false || (overB (jb l k).state && !decide ((jb l k).state = 3))
def stepLost (l : List Job) (lost : List Bool) (j : Job) : Bool := decide (j.state ≤ 1) && j.after.any fun n => badL l lost (lowJ l n)
/-- Which of the first k are lost. -/
def lostTo (l : List Job) : Nat → List Bool
  | 0 => []
  | k + 1 => lostTo l k ++ [stepLost l (lostTo l k) (jb l k)]
theorem lostTo_len (l : List Job) : ∀ k, (lostTo l k).length = k
  | 0 => rfl
  | k + 1 => by rw [lostTo, List.length_append, lostTo_len l k]; rfl
/-- Is the one at a place lost? -/
def lostI (l : List Job) (i : Nat) : Bool := stepLost l (lostTo l i) (jb l i)
theorem lostTo_get (l : List Job) : ∀ {k i : Nat}, i < k → (lostTo l k)[i]? = some (lostI l i)
  | 0, i, h => by omega
  | k + 1, i, h => by
    rw [lostTo]
    by_cases e : i = k
    · subst e
      rw [List.getElem?_append_right (by rw [lostTo_len]; omega), lostTo_len]
      simp [lostI]
    · rw [List.getElem?_append_left (by rw [lostTo_len]; omega)]
      exact lostTo_get l (by omega)
def lostIds (l : List Job) (k : Nat) : List Int := ((List.range k).filter (lostI l)).map fun i => (jb l i).id
theorem lostIds_succ (l : List Job) (k : Nat) : lostIds l (k + 1) = lostIds l k ++ (if lostI l k = true then [(jb l k).id] else []) := by
  unfold lostIds
  rw [List.range_succ, List.filter_append, List.map_append]
  congr 1
  by_cases h : lostI l k = true <;> simp [List.filter_cons, h]
theorem lostIds_len (l : List Job) (k : Nat) : (lostIds l k).length ≤ k := by
  unfold lostIds
  rw [List.length_map]
  have := List.length_filter_le (lostI l) (List.range k)
  rwa [List.length_range] at this
def lostL (l : List Job) : List Int := if isQ l = true then lostIds l l.length else []
/-- The slice of marks, when so many have been looked at. -/
def marks (l : List Job) (k : Nat) : List Bool := lostTo l k ++ List.replicate (l.length - k) false
theorem marks_len {l : List Job} {k : Nat} (h : k ≤ l.length) : (marks l k).length = l.length := by unfold marks; rw [List.length_append, lostTo_len, List.length_replicate]; omega
theorem marks_at {l : List Job} {k i : Nat} (h : i < k) : (marks l k)[i]? = some (lostI l i) := by
  unfold marks
  rw [List.getElem?_append_left (by rw [lostTo_len]; exact h)]
  exact lostTo_get l h
theorem marks_set {l : List Job} {k : Nat} (h : k < l.length) : marks l (k + 1) = if lostI l k = true then (marks l k).set k true else marks l k := by
  unfold marks
  rw [show l.length - k = (l.length - (k + 1)) + 1 by omega, List.replicate_succ, List.set_append_right _ _ (by rw [lostTo_len]; omega), lostTo_len, Nat.sub_self, List.set_cons_zero, lostTo]
  show lostTo l k ++ [lostI l k] ++ _ = _
  rw [List.append_assoc]
  cases lostI l k <;> simp
set_option maxRecDepth 100000 in
theorem lost1_c (l : List Job) (lost : List Bool) (i : Nat) (j : Job) (b : Bool) (hx : l[i]? = some j) (hb : lost[i]? = some b) (hl : l.length ≤ 140737488355328) (hl2 : lost.length ≤ 140737488355328) : ACalls Try.prog 46 [iv i, .ref (.agg [.lst (lost.map bv)]) 0, .ref (.agg [jobs l]) 0] (· = .one (.sv (bv (b || (overB j.state && !decide (j.state = 3)))))) := by
  refine ACalls.of_bodyS (fun _ _ => Try.call46 _ _) Try.func46 rfl Try.ntmps46 (by simp) ?_
  refine Tr.ex ?_
  have hlt := (List.getElem?_eq_some_iff.1 hx).1
  have hlt' : (i : Int) < l.length := by omega
  have hlt2 := (List.getElem?_eq_some_iff.1 hb).1
  have hlt2' : (i : Int) < lost.length := by omega
  unfold overB
  cases b with
  | true => simp [go_sem, hlt, hlt', hlt2, hlt2', hb, gE hb]
  | false =>
    simp [go_sem, hlt, hlt', hlt2, hlt2', hb, gE hb, hx, gE hx]
    refine OpW.fn true (Over_c j.state) rfl rfl (by simp [go_sem]) (by rintro _ r rfl; simp [go_sem]) ?_
    rintro r rfl
    by_cases h3 : j.state = 3
    · by_cases h1 : 3 ≤ j.state <;> by_cases h2 : j.state ≤ 6 <;> simp [go_sem, bne, hlt, hlt', hlt2, hlt2', hb, gE hb, hx, gE hx, h1, h2, h3]
    · have h3' : (j.state == 3) = false := by simpa using h3
      by_cases h1 : 3 ≤ j.state <;> by_cases h2 : j.state ≤ 6 <;> simp [go_sem, bne, hlt, hlt', hlt2, hlt2', hb, gE hb, hx, gE hx, h1, h2, h3, h3']
theorem lost2_c (i : Nat) (f : FuncId) (caps : List SV) (b : Bool) (hc : ACalls Try.prog f ([iv i] ++ caps) (· = .one (.sv (bv b)))) : ACalls Try.prog 47 [iv i, .ref (.agg [.fn f caps]) 0] (· = .one (.sv (bv (!b)))) := by
  refine ACalls.of_bodyS (fun _ _ => Try.call47 _ _) Try.func47 rfl Try.ntmps47 (by simp) ?_
  refine Tr.ex ?_
  simp [go_sem]
  refine OpW.call (g := f) (caps := caps) (ys := [iv i]) true hc rfl rfl (by simp [go_sem]) (by simp [go_sem]) (by rintro _ r rfl; simp [go_sem]) ?_
  rintro r rfl
  simp [go_sem]
set_option maxHeartbeats 8000000 in
set_option maxRecDepth 100000 in
theorem qLost_c (l : List Job) (hl : l.length ≤ 1000000000) (hh : Jobs l) : ACalls Try.prog 17 [jobs l] (· = .one (.sv (ints (lostL l)))) := by
  refine ACalls.of_bodyS (fun _ _ => Try.call17 _ _) Try.func17 rfl Try.ntmps17 (by simp) ?_
  refine Tr.ex ?_
  unfold lostL
  simp [go_sem]
  refine OpW.fn true (qRight_c l (by omega) hh) rfl rfl (by simp [go_sem]) (by rintro _ r rfl; simp [go_sem]) ?_
  rintro r rfl
  cases hq : isQ l with
  | false => simp [go_sem]
  | true =>
    have hso := q_sorted hq
    have hle := q_len hq
    have hn0 : (0 : Int) ≤ l.length := by omega
    have hm0 : marks l 0 = List.replicate l.length false := by unfold marks lostTo; simp
    have hm0' := congrArg (List.map bv) hm0
    rw [List.map_replicate] at hm0'
    simp only [bv] at hm0'
    simp [go_sem, hn0]
    refine ⟨by omega, ?_⟩
    refine LoopW.of (fun i : Nat => ⟨42, [(1, .box 1 0), (2, .nil), (3, .box 3 0), (4, .own 4), (14, .sv (jobs l)), (15, .sv (iv l.length)), (16, .sv (iv i))], [(1, .box [.sv (jobs l)]), (3, .box [.own 13]), (13, .row 1 ((marks l i).map bv)), (4, .row 1 ((lostIds l i).map iv))]⟩)
      (fun i => i ≤ l.length) (fun i => l.length - i) 0 (by omega) (Ent.thaw 4 4 1 (by simp [go_sem]) (by simp [go_sem]) (by decide) (Ent.chk (by simp [go_sem, hm0', lostIds]))) ?_
    intro i hi
    by_cases hlt : i < l.length
    · have hlt' : (i : Int) < l.length := by omega
      have hw : IntKind.i64.wrap ((i : Int) + 1) = (i : Int) + 1 := by rw [i64w] <;> omega
      obtain ⟨j, hx⟩ : ∃ h, l[i]? = some h := ⟨_, List.getElem?_eq_getElem hlt⟩
      have hjw := (hh j (List.mem_of_getElem? hx)).2
      have hjb := jb_get hx
      have hml := marks_len (l := l) (k := i) (by omega)
      have hset := marks_set (l := l) (k := i) hlt
      have hsu := lostIds_succ l i
      have hsl := lostIds_len l i
      have hI : lostI l i = (decide (j.state ≤ 1) && j.after.any fun n => badL l (lostTo l i) (lowJ l n)) := by unfold lostI stepLost; rw [hjb]
      rw [hjb] at hsu
      have hbad : ∀ n ∈ j.after, badL l (lostTo l i) (lowJ l n) = (lostI l (lowJ l n) || (overB (jb l (lowJ l n)).state && !decide ((jb l (lowJ l n)).state = 3))) := fun n hn => by
        obtain ⟨h1, _⟩ := q_need hq hx hn
        unfold badL
        rw [List.getD_eq_getElem?_getD, lostTo_get l h1]
        rfl
      have hcl : ∀ n ∈ j.after, ACalls Try.prog 47 ([iv (lowJ l n)] ++ [.ref (.agg [.fn 46 [.ref (.agg [.lst ((marks l i).map bv)]) 0, .ref (.agg [jobs l]) 0]]) 0]) (· = .one (.sv (bv ((fun k => !badL l (lostTo l i) k) (lowJ l n))))) := fun n hn => by
        obtain ⟨h1, x, h2, _⟩ := q_need hq hx hn
        have := lost2_c (lowJ l n) _ _ _ (lost1_c l (marks l i) (lowJ l n) x (lostI l (lowJ l n)) h2 (marks_at h1) (by omega) (by omega))
        simp only [hbad n hn, jb_get h2]
        exact this
      have hev := every_c l j hso (by omega) hjw _ _ (fun k => !badL l (lostTo l i) k) hcl
      have hall : (j.after.all fun n => !badL l (lostTo l i) (lowJ l n)) = !(j.after.any fun n => badL l (lostTo l i) (lowJ l n)) := by rw [List.any_eq_not_all_not, Bool.not_not]
      rw [hall] at hev
      have hms := congrArg (List.map bv) hset
      generalize hM : marks l i = M at *
      generalize hM' : marks l (i + 1) = M' at *
      generalize hL : lostIds l i = L at *
      generalize hL' : lostIds l (i + 1) = L' at *
      by_cases hst : j.state ≤ 1
      case neg =>
        have e : lostI l i = false := by rw [hI]; simp [hst]
        rw [e] at hset hsu
        simp at hset hsu
        subst hset
        subst hsu
        simp [go_sem, hlt, hlt', hx, gE hx, hst]
        exact ⟨i + 1, by omega, by omega, Ent.chk (by simp [go_sem, hw, hM, hM', hL, hL'])⟩
      case pos =>
        have e : lostI l i = j.after.any fun n => badL l (lostTo l i) (lowJ l n) := by rw [hI]; simp [hst]
        rw [e] at hset hsu
        simp [go_sem, hlt, hlt', hx, gE hx, hst]
        refine OpW.fnD 5 hev rfl rfl (by simp [go_sem]) (by rintro r rfl; simp [go_sem]) ?_
        rintro r rfl
        cases hb : j.after.any fun n => badL l (lostTo l i) (lowJ l n) with
        | false =>
          rw [hb] at hset hsu
          simp at hset hsu
          subst hset
          subst hsu
          simp [go_sem]
          exact ⟨i + 1, by omega, by omega, Ent.chk (by simp [go_sem, hw, hM, hM', hL, hL'])⟩
        | true =>
          rw [hb] at hset hsu
          simp only [if_true] at hset hsu
          have hMl : i < M.length := by omega
          have hMl' : (i : Int) < M.length := by omega
          have hm1 : M'.map bv = (M.map bv).set i (SV.val (Value.bool true)) := by rw [hset, List.map_set]; rfl
          have hm2 : L'.map iv = L.map iv ++ [SV.val (Value.int .i64 j.id)] := by rw [hsu, List.map_append]; rfl
          simp [go_sem, hMl, hMl']
          exact ⟨by omega, i + 1, by omega, by omega, Ent.rename2 39 4 (by simp [go_sem]) (Ent.chk (by simp [go_sem, hw, hM, hM', hL, hL', hm1, hm2]))⟩
    · have hil : i = l.length := by omega
      subst hil
      simp [go_sem]

/-! ### Get, Counts -/
def noJ : Job := ⟨0, ⟨0, 0, 0, ⟨#[]⟩, false, 0, 0⟩, [], 0, 0, 0, 0⟩
def getJ (l : List Job) (id : Int) : Job × Bool := if isQ l = true ∧ isAtJ l id = true then (jb l (lowJ l id), true) else (noJ, false)
theorem isAtJ_get {l : List Job} (hs : sortedJ l) {id : Int} (ha : isAtJ l id = true) : lowJ l id < l.length ∧ l[lowJ l id]? = some (jb l (lowJ l id)) ∧ (jb l (lowJ l id)).id = id := by
  obtain ⟨h, h1, h2⟩ := (isAtJ_low hs).1 ha
  have := jb_get h1
  rw [this]
  exact ⟨(List.getElem?_eq_some_iff.1 h1).1, h1, h2⟩
set_option maxHeartbeats 8000000 in
set_option maxRecDepth 100000 in
theorem qGet_c (l : List Job) (id : Int) (hl : l.length ≤ 1000000000) (hh : Jobs l) : ACalls Try.prog 21 [jobs l, iv id] (· = .many [.sv (jobSV (getJ l id).1), .sv (bv (getJ l id).2)]) := by
  refine ACalls.of_bodyS (fun _ _ => Try.call21 _ _) Try.func21 rfl Try.ntmps21 (by simp) ?_
  refine Tr.ex ?_
  unfold getJ
  simp [go_sem]
  refine OpW.fn true (qRight_c l (by omega) hh) rfl rfl (by simp [go_sem]) (by rintro _ r rfl; simp [go_sem]) ?_
  rintro r rfl
  cases hq : isQ l with
  | false => simp [go_sem, noJ]
  | true =>
    have hso := q_sorted hq
    have hle := q_len hq
    simp [go_sem]
    refine OpW.fn true (findJ_c l id hso (by omega)) rfl rfl (by simp [go_sem]) (by rintro _ r rfl; simp [go_sem]) ?_
    rintro r rfl
    cases hat : isAtJ l id with
    | false => simp [go_sem, noJ]
    | true =>
      obtain ⟨hlt, hx, hid⟩ := isAtJ_get hso hat
      have hlt' : (lowJ l id : Int) < l.length := by omega
      have hjw := (hh _ (List.mem_of_getElem? hx)).2
      generalize jb l (lowJ l id) = j at *
      generalize lowJ l id = m at *
      simp [go_sem, hlt, hlt', hx, gE hx]
      refine OpW.fn false (copiedJ_c j hjw) rfl rfl (by simp [go_sem]) (fun h => by cases h) ?_
      rintro r rfl
      simp [go_sem]
def cntTo (l : List Job) (k : Nat) (s : Int) : Int := (((l.take k).filter fun j => decide (j.state = s)).length : Int)
def cnts (l : List Job) (k : Nat) : List Int := [cntTo l k 0, cntTo l k 1, cntTo l k 2, cntTo l k 3, cntTo l k 4, cntTo l k 5, cntTo l k 6]
def countsL (l : List Job) : List Int := if isQ l = true then cnts l l.length else [0, 0, 0, 0, 0, 0, 0]
theorem cntTo_succ {l : List Job} {k : Nat} {j : Job} (hx : l[k]? = some j) (s : Int) : cntTo l (k + 1) s = cntTo l k s + (if j.state = s then 1 else 0) := by
  unfold cntTo
  obtain ⟨h, rfl⟩ := List.getElem?_eq_some_iff.1 hx
  rw [List.take_succ_eq_append_getElem h, List.filter_append, List.length_append]
  by_cases e : (l[k]).state = s <;> simp [List.filter_cons, e]
theorem cntTo_le (l : List Job) (k : Nat) (s : Int) : 0 ≤ cntTo l k s ∧ cntTo l k s ≤ k := by
  unfold cntTo
  have := List.length_filter_le (fun j : Job => decide (j.state = s)) (l.take k)
  rw [List.length_take] at this
  omega
theorem job_state {j : Job} (h : isJob j = true) : 0 ≤ j.state ∧ j.state ≤ 6 := by
  unfold isJob at h
  simp only [Bool.and_eq_true] at h
  have := times_ref.1 h.2
  exact this.1
set_option maxHeartbeats 8000000 in
set_option maxRecDepth 100000 in
theorem qCounts_c (l : List Job) (hl : l.length ≤ 1000000000) (hh : Jobs l) : ACalls Try.prog 19 [jobs l] (· = .one (.sv (.agg ((countsL l).map iv)))) := by
  refine ACalls.of_bodyS (fun _ _ => Try.call19 _ _) Try.func19 rfl Try.ntmps19 (by simp) ?_
  refine Tr.ex ?_
  unfold countsL
  simp [go_sem]
  refine OpW.fn true (qRight_c l (by omega) hh) rfl rfl (by simp [go_sem]) (by rintro _ r rfl; simp [go_sem]) ?_
  rintro r rfl
  cases hq : isQ l with
  | false => simp [go_sem]
  | true =>
    have hle := q_len hq
    simp [go_sem]
    refine LoopW.of (fun i : Nat => ⟨24, [(2, .box 2 0), (3, .box 3 0), (10, .sv (jobs l)), (11, .sv (iv l.length)), (12, .sv (iv i))], [(2, .box (List.replicate 7 (.sv (iv 0)))), (3, .box ((cnts l i).map fun n => .sv (iv n)))]⟩)
      (fun i => i ≤ l.length) (fun i => l.length - i) 0 (by omega) (Ent.chk (by simp [go_sem, cnts, cntTo])) ?_
    intro i hi
    by_cases hlt : i < l.length
    · have hlt' : (i : Int) < l.length := by omega
      have hw : IntKind.i64.wrap ((i : Int) + 1) = (i : Int) + 1 := by rw [i64w] <;> omega
      obtain ⟨j, hx⟩ : ∃ h, l[i]? = some h := ⟨_, List.getElem?_eq_getElem hlt⟩
      have hs := job_state (q_row hq hx).1
      have hcs := cntTo_succ hx
      have hcl := cntTo_le l i
      have hst : j.state = 0 ∨ j.state = 1 ∨ j.state = 2 ∨ j.state = 3 ∨ j.state = 4 ∨ j.state = 5 ∨ j.state = 6 := by omega
      rcases hst with h | h | h | h | h | h | h
      all_goals
        have hwc : ∀ s, IntKind.i64.wrap (cntTo l i s + 1) = cntTo l i s + 1 := fun s => by have := hcl s; rw [i64w] <;> omega
        simp [go_sem, cnts, hlt, hlt', hx, gE hx, h]
        exact ⟨i + 1, by omega, by omega, Ent.chk (by simp [go_sem, cnts, hw, hwc, hcs, h])⟩
    · have hil : i = l.length := by omega
      subst hil
      simp [go_sem, cnts]
end Go.Proofs.Ytnkcenafpigmbaa.Ab

namespace Go.Proofs.Ytnkcenafpigmbaa.Ab
open Go.RowKit
set_option linter.unusedVariables false
set_option linter.unusedSimpArgs false

def atR (l : List Job) (id : Int) : Int := if isAtJ l id = true then ((l.findIdx fun j => j.id == id : Nat) : Int) else -1
theorem atR_no {l : List Job} {id : Int} (h : isAtJ l id = false) : atR l id = -1 := by unfold atR; rw [h]; rfl
theorem atR_low {l : List Job} (hs : sortedJ l) {id : Int} (h : isAtJ l id = true) : atR l id = lowJ l id := by
  obtain ⟨h1, h2, h3⟩ := isAtJ_get hs h
  unfold atR
  rw [if_pos h, (List.findIdx_eq h1).2 ⟨by rw [gE h2]; simpa using h3, fun k hk => ?_⟩]
  have := List.pairwise_iff_getElem.1 hs k (lowJ l id) (by omega) h1 hk
  rw [gE h2] at this
  simp; omega
theorem r12At_c (l : List Job) (id : Int) (hl : l.length ≤ 140737488355328) : ACalls Try.prog 38 [jobs l, iv id] (· = .one (.sv (iv (atR l id)))) := by
  refine ACalls.of_bodyS (fun _ _ => Try.call38 _ _) Try.func38 rfl Try.ntmps38 (by simp) ?_
  refine Tr.ex ?_
  simp [go_sem]
  refine LoopW.of (fun i : Nat => ⟨20, [(0, .sv (jobs l)), (1, .sv (iv id)), (4, .sv (iv 0)), (5, .sv (iv i))], []⟩)
    (fun i => i ≤ l.length ∧ ∀ (k : Nat) (h : k < l.length), k < i → l[k].id ≠ id) (fun i => l.length - i) 0 ⟨by omega, fun k h hk => by omega⟩ (Ent.chk (by simp [go_sem])) ?_
  rintro i ⟨hi, hf⟩
  by_cases hlt : i < l.length
  · have hlt' : (i : Int) < l.length := by omega
    have hx : l[i]? = some l[i] := List.getElem?_eq_getElem hlt
    have hw : IntKind.i64.wrap ((i : Int) + 1) = (i : Int) + 1 := by rw [i64w] <;> omega
    by_cases e : l[i].id = id
    · have h1 : isAtJ l id = true := by unfold isAtJ; exact List.any_eq_true.2 ⟨_, List.getElem_mem hlt, by simpa using e⟩
      have h3 : atR l id = i := by
        unfold atR
        rw [if_pos h1, (List.findIdx_eq hlt).2 ⟨by simpa using e, fun k hk => by simpa using hf k (by omega) hk⟩]
      have e' : (l[i].id == id) = true := by simpa using e
      simp [go_sem, hlt, hlt', hx, e', h3]
    · have e' : (l[i].id == id) = false := by simpa using e
      simp [go_sem, hlt, hlt', hx, e']
      exact ⟨i + 1, ⟨by omega, fun k h hk => by
        by_cases hki : k = i
        · subst hki; exact e
        · exact hf k h (by omega)⟩, by omega, Ent.chk (by simp [go_sem, hw])⟩
  · have hil : i = l.length := by omega
    subst hil
    have h1 : isAtJ l id = false := by
      unfold isAtJ
      rw [List.any_eq_false]
      intro x hx
      obtain ⟨k, hk, rfl⟩ := List.getElem_of_mem hx
      simpa using hf k hk hk
    simp [go_sem, atR_no h1]
/-! ### Right -/
def rowR (l : List Job) (i : Nat) : Bool := isJob (jb l i) && ordQ l i && (jb l i).after.all fun n => isAtJ l n
def quR (l : List Job) (i : Nat) : Bool := (List.range i).all (rowR l)
theorem quR_succ (l : List Job) (i : Nat) : quR l (i + 1) = (quR l i && rowR l i) := by unfold quR; rw [List.range_succ, List.all_append]; simp
theorem quR_bad {l : List Job} {i : Nat} (hi : i < l.length) (h : rowR l i = false) : quR l l.length = false := by
  unfold quR
  rw [List.all_eq_false]
  exact ⟨i, List.mem_range.2 hi, by simp [h]⟩
theorem ord_sorted {l : List Job} (h : ∀ j, j < l.length → ordQ l j = true) : sortedJ l := by
  have key : ∀ i, i ≤ l.length → (l.take i).Pairwise fun a b => a.id < b.id := by
    intro i
    induction i with
    | zero => intro _; simp
    | succ i ih =>
      intro hi
      have hlt : i < l.length := by omega
      obtain ⟨x, hx⟩ : ∃ x, l[i]? = some x := ⟨_, List.getElem?_eq_getElem hlt⟩
      have h2 := h i hlt
      unfold ordQ at h2
      rw [List.take_succ_eq_append_getElem hlt, gE hx, List.pairwise_append]
      refine ⟨ih (by omega), by simp, fun a ha b hb => ?_⟩
      rw [List.mem_singleton.1 hb]
      obtain ⟨j, hj⟩ := List.getElem?_of_mem ha
      rw [List.getElem?_take] at hj
      split at hj
      case isFalse => cases hj
      rename_i hji
      rw [jb_get hx] at h2
      have hi0 : i ≠ 0 := by omega
      simp [hi0] at h2
      by_cases e : j = i - 1
      · subst e; rw [jb_get hj] at h2; exact h2.1
      · have hp := ih (by omega)
        have hlp : i - 1 < l.length := by omega
        have h3 : (l.take i)[j]? = some a := by rw [List.getElem?_take, if_pos hji]; exact hj
        have h4 : (l.take i)[i - 1]? = some (jb l (i - 1)) := by rw [List.getElem?_take, if_pos (by omega)]; rw [List.getElem?_eq_getElem hlp, jb_get (List.getElem?_eq_getElem hlp)]
        obtain ⟨q1, rfl⟩ := List.getElem?_eq_some_iff.1 h3
        obtain ⟨q2, q3⟩ := List.getElem?_eq_some_iff.1 h4
        have := List.pairwise_iff_getElem.1 hp j (i - 1) q1 q2 (by omega)
        rw [q3] at this; omega
  have := key l.length (Nat.le_refl _)
  rwa [List.take_length] at this
theorem rises_mem {id : Int} : ∀ {a : List Int} {last : Int}, risesF id last a = true → ∀ n ∈ a, last < n ∧ n < id
  | [], _, _, n, hn => by cases hn
  | x :: r, last, h, n, hn => by
    rw [risesF_cons] at h
    simp only [Bool.and_eq_true, decide_eq_true_eq] at h
    rcases List.mem_cons.1 hn with rfl | hn
    · exact h.1
    · have := rises_mem h.2 n hn; omega
theorem job_need {j : Job} (h : isJob j = true) {n : Int} (hn : n ∈ j.after) : 0 < n ∧ n < j.id := by
  unfold isJob isNeeds at h
  simp only [Bool.and_eq_true] at h
  exact rises_mem h.1.1.2.2 n hn
theorem isQ_R (l : List Job) : isQ l = (decide (l.length ≤ 64) && quR l l.length) := by
  unfold isQ
  congr 1
  rw [Bool.eq_iff_iff]
  unfold quTo quR
  simp only [List.all_eq_true, List.mem_range]
  constructor
  · intro h i hi
    have := h i hi
    unfold rowQ at this
    unfold rowR
    simp only [Bool.and_eq_true, List.all_eq_true] at this ⊢
    refine ⟨this.1, fun n hn => ?_⟩
    have h2 := this.2 n hn
    unfold isAtJ at h2 ⊢
    obtain ⟨x, hm, he⟩ := List.any_eq_true.1 h2
    exact List.any_eq_true.2 ⟨x, List.mem_of_mem_take hm, he⟩
  · intro h i hi
    have hs : sortedJ l := ord_sorted fun j hj => by have := h j hj; unfold rowR at this; simp only [Bool.and_eq_true] at this; exact this.1.2
    have := h i hi
    unfold rowR at this
    unfold rowQ
    simp only [Bool.and_eq_true, List.all_eq_true] at this ⊢
    refine ⟨this.1, fun n hn => ?_⟩
    have h2 := this.2 n hn
    obtain ⟨x, hx⟩ : ∃ x, l[i]? = some x := ⟨_, List.getElem?_eq_getElem hi⟩
    rw [jb_get hx] at this hn
    have h3 := job_need this.1.1 hn
    unfold isAtJ at h2 ⊢
    obtain ⟨y, hm, he⟩ := List.any_eq_true.1 h2
    obtain ⟨k, hk, rfl⟩ := List.getElem_of_mem hm
    have he : l[k].id = n := by simpa using he
    have hki : k < i := by
      rcases Nat.lt_or_ge k i with q | q
      · exact q
      · by_cases e : k = i
        · subst e; rw [gE hx] at he; omega
        · have := List.pairwise_iff_getElem.1 hs i k hi hk (by omega)
          rw [gE hx] at this; omega
    exact List.any_eq_true.2 ⟨l[k], List.mem_take_iff_getElem.2 ⟨k, by omega, rfl⟩, by simpa using he⟩
set_option maxHeartbeats 4000000 in
set_option maxRecDepth 100000 in
theorem r12Right_c (l : List Job) (hl : l.length ≤ 140737488355328) (hh : Jobs l) : ACalls Try.prog 13 [jobs l] (· = .one (.sv (bv (isQ l)))) := by
  refine ACalls.of_bodyS (fun _ _ => Try.call13 _ _) Try.func13 rfl Try.ntmps13 (by simp) ?_
  refine Tr.ex ?_
  rw [isQ_R]
  by_cases hlen : l.length ≤ 64
  case neg =>
    have h1 : (64 : Int) < l.length := by omega
    simp [go_sem, hlen, h1]
  have h1 : ¬ (64 : Int) < l.length := by omega
  simp [go_sem, hlen, h1]
  refine LoopW.of (fun i : Nat => ⟨73, [(0, .sv (jobs l)), (2, .sv (bv false)), (3, .sv (iv i))], []⟩)
    (fun i => i ≤ l.length ∧ quR l i = true) (fun i => l.length - i) 0 ⟨by omega, rfl⟩ (Ent.chk (by simp [go_sem])) ?_
  rintro i ⟨hi, ht⟩
  by_cases hlt : i < l.length
  · have hlt' : (i : Int) < l.length := by omega
    have hw : IntKind.i64.wrap ((i : Int) + 1) = (i : Int) + 1 := by rw [i64w] <;> omega
    obtain ⟨j, hx⟩ : ∃ h, l[i]? = some h := ⟨_, List.getElem?_eq_getElem hlt⟩
    have hjw := hh j (List.mem_of_getElem? hx)
    have hd1 := jb_get hx
    have hs := quR_succ l i
    have hbad := quR_bad hlt
    have hro : rowR l i = (isJob j && ordQ l i && j.after.all fun n => isAtJ l n) := by unfold rowR; rw [hd1]
    have hor : ordQ l i = (i == 0 || (decide ((jb l (i - 1)).id < j.id) && decide ((jb l (i - 1)).added ≤ j.added))) := by unfold ordQ; rw [hd1]
    simp [go_sem, hlt, hlt']
    refine DrawW.rd rfl ?_
    simp [go_sem, hlt, hlt', hx, gE hx]
    refine OpD.call false (r11Right_c j hjw) rfl rfl (by simp [go_sem]) (fun h => by cases h) (by simp [go_sem]) (by simp [go_sem]) ?_
    cases hm : isJob j with
    | false =>
      rw [hbad (by rw [hro, hm]; rfl)]
      simp [go_sem]
      show _ = true
      kernel_rfl
    | true =>
      by_cases hi0 : i = 0
      case' pos =>
        have ho : ordQ l i = true := by rw [hor, hi0]; rfl
        have hi1' : ¬ (0 : Int) < i := by omega
        have hi1 : ¬ 0 < i := by omega
        simp [go_sem, hi1, hi1']
      case' neg =>
        have hi1 : 0 < i := by omega
        have hi1' : (0 : Int) < i := by omega
        have hw1 : IntKind.i64.wrap ((i : Int) - 1) = ((i - 1 : Nat) : Int) := by rw [i64w] <;> omega
        have hlt2 : i - 1 < l.length := by omega
        have hlt3 : ((i - 1 : Nat) : Int) < l.length := by omega
        obtain ⟨p, hp⟩ : ∃ h, l[i - 1]? = some h := ⟨_, List.getElem?_eq_getElem hlt2⟩
        have hd2 := jb_get hp
        rw [hd2] at hor
        have hi2 : (i == 0) = false := by simpa using hi0
        rw [hi2] at hor
        by_cases hid : j.id ≤ p.id
        · rw [hbad (by rw [hro, hor]; have : ¬ p.id < j.id := by omega
                       simp [this])]
          simp [go_sem, hlt, hlt', hx, gE hx, hi1, hi1', hw1, hlt2, hlt3, hp, gE hp, hid]
          show _ = true
          kernel_rfl
        by_cases had : j.added < p.added
        · rw [hbad (by rw [hro, hor]; have : ¬ p.added ≤ j.added := by omega
                       simp [this])]
          simp [go_sem, hlt, hlt', hx, gE hx, hi1, hi1', hw1, hlt2, hlt3, hp, gE hp, hid, had]
          show _ = true
          kernel_rfl
        have ho : ordQ l i = true := by
          rw [hor]
          have q1 : p.id < j.id := by omega
          have q2 : p.added ≤ j.added := by omega
          simp [q1, q2]
        simp [go_sem, hlt, hlt', hx, gE hx, hi1, hi1', hw1, hlt2, hlt3, hp, gE hp, hid, had]
      all_goals
        refine ⟨by kernel_rfl, ?_⟩
        refine LoopW.of (fun k : Nat => ⟨73, [(0, .sv (jobs l)), (2, .sv (bv false)), (3, .sv (iv i)), (4, .sv (iv k))], []⟩)
          (fun k => k ≤ j.after.length ∧ ∀ n ∈ j.after.take k, isAtJ l n = true) (fun k => j.after.length - k) 0 ⟨by omega, by simp⟩ (Ent.chk (by simp [go_sem])) ?_
        rintro k ⟨hk, ha⟩
        by_cases hkl : k < j.after.length
        · have hkl' : (k : Int) < j.after.length := by omega
          have hal := hjw.2
          have hwk : IntKind.i64.wrap ((k : Int) + 1) = (k : Int) + 1 := by rw [i64w] <;> omega
          obtain ⟨x, hxk⟩ : ∃ h, j.after[k]? = some h := ⟨_, List.getElem?_eq_getElem hkl⟩
          simp [go_sem, hlt, hlt', hx, gE hx, hkl, hkl', hxk, gE hxk]
          refine OpW.fn true (r12At_c l x (by omega)) rfl rfl (by simp [go_sem]) (by rintro _ r rfl; simp [go_sem]) ?_
          rintro r rfl
          cases hat : isAtJ l x with
          | false =>
            rw [hbad (by rw [hro, (List.all_eq_false.2 ⟨x, List.mem_of_getElem? hxk, by simp [hat]⟩ : (j.after.all fun n => isAtJ l n) = false)]; simp)]
            simp [go_sem, atR_no hat]
          | true =>
            have hpos : ¬ atR l x < 0 := by unfold atR; rw [if_pos hat]; omega
            simp [go_sem, hpos]
            exact ⟨k + 1, ⟨by omega, fun n hn => by
              rw [List.take_succ_eq_append_getElem hkl, gE hxk, List.mem_append, List.mem_singleton] at hn
              rcases hn with hn | rfl
              · exact ha n hn
              · exact hat⟩, by omega, Ent.chk (by simp [go_sem, hwk])⟩
        · have hkl2 : k = j.after.length := by omega
          subst hkl2
          rw [List.take_length] at ha
          simp [go_sem, hlt, hlt', hx, gE hx]
          exact ⟨i + 1, ⟨by omega, by rw [hs, ht, hro, hm, ho, (List.all_eq_true.2 ha : (j.after.all fun n => isAtJ l n) = true)]; rfl⟩, by omega, Ent.chk (by simp [go_sem, hw])⟩
  · have hil : i = l.length := by omega
    subst hil
    simp [go_sem, ht]
/-! ### Short -/
def shortJ (l : List Job) : Bool := decide (l.length ≤ 14) && l.all fun j => decide (j.after.length ≤ 20)
theorem r12Short_c (l : List Job) (hl : l.length ≤ 140737488355328) : ACalls Try.prog 12 [jobs l] (· = .one (.sv (bv (shortJ l)))) := by
  refine ACalls.of_bodyS (fun _ _ => Try.call12 _ _) Try.func12 rfl Try.ntmps12 (by simp) ?_
  refine Tr.ex ?_
  unfold shortJ
  by_cases hlen : l.length ≤ 14
  case neg =>
    have h1 : (14 : Int) < l.length := by omega
    simp [go_sem, hlen, h1]
  have h1 : ¬ (14 : Int) < l.length := by omega
  have hd : decide (l.length ≤ 14) = true := by simpa using hlen
  rw [hd, Bool.true_and]
  simp [go_sem, h1]
  refine LoopW.of (fun i : Nat => ⟨20, [(0, .sv (jobs l)), (2, .sv (bv false)), (3, .sv (iv i))], []⟩)
    (fun i => i ≤ l.length ∧ ∀ j ∈ l.take i, j.after.length ≤ 20) (fun i => l.length - i) 0 ⟨by omega, by simp⟩ (Ent.chk (by simp [go_sem])) ?_
  rintro i ⟨hi, ha⟩
  by_cases hlt : i < l.length
  · have hlt' : (i : Int) < l.length := by omega
    have hw : IntKind.i64.wrap ((i : Int) + 1) = (i : Int) + 1 := by rw [i64w] <;> omega
    obtain ⟨j, hx⟩ : ∃ h, l[i]? = some h := ⟨_, List.getElem?_eq_getElem hlt⟩
    by_cases c : (20 : Int) < j.after.length
    · have : (l.all fun j => decide (j.after.length ≤ 20)) = false := List.all_eq_false.2 ⟨j, List.mem_of_getElem? hx, by simp; omega⟩
      have hsome : ∃ x, x ∈ l ∧ 20 < x.after.length := ⟨j, List.mem_of_getElem? hx, by omega⟩
      simp [go_sem, hlt, hlt', hx, gE hx, c, hsome]
    · simp [go_sem, hlt, hlt', hx, gE hx, c]
      exact ⟨i + 1, ⟨by omega, fun x hm => by
        rw [List.take_succ_eq_append_getElem hlt, gE hx, List.mem_append, List.mem_singleton] at hm
        rcases hm with hm | rfl
        · exact ha x hm
        · omega⟩, by omega, Ent.chk (by simp [go_sem, hw])⟩
  · have hil : i = l.length := by omega
    subst hil
    rw [List.take_length] at ha
    simp [go_sem]
    exact ha
theorem shortJ_len {l : List Job} (h : shortJ l = true) : l.length ≤ 14 ∧ ∀ j ∈ l, j.after.length ≤ 20 := by
  unfold shortJ at h
  simpa using h
end Go.Proofs.Ytnkcenafpigmbaa.Ab

namespace Go.Proofs.Ytnkcenafpigmbaa.Ab
open Go.RowKit
set_option linter.unusedVariables false
set_option linter.unusedSimpArgs false

theorem q_needAt {l : List Job} (h : isQ l = true) {i : Nat} {j : Job} (hx : l[i]? = some j) {n : Int} (hn : n ∈ j.after) : atR l n = lowJ l n := by
  refine atR_low (q_sorted h) ?_
  have := (q_row h hx).2.2 n hn
  unfold isAtJ at this ⊢
  obtain ⟨x, hm, he⟩ := List.any_eq_true.1 this
  exact List.any_eq_true.2 ⟨x, List.mem_of_mem_take hm, he⟩
set_option maxHeartbeats 4000000 in
set_option maxRecDepth 100000 in
theorem isReady_c (l : List Job) (hl : l.length ≤ 140737488355328) (hq : isQ l = true) (i : Nat) (j : Job) (hx : l[i]? = some j) : ACalls Try.prog 45 [jobs l, jobSV j] (· = .one (.sv (bv (readyB l j)))) := by
  refine ACalls.of_bodyS (fun _ _ => Try.call45 _ _) Try.func45 rfl Try.ntmps45 (by simp) ?_
  refine Tr.ex ?_
  have hle := q_len hq
  unfold readyB
  by_cases hst : j.state = 0
  case neg =>
    have hst' : (j.state == 0) = false := by simpa using hst
    simp [go_sem, bne, hst, hst']
  have hst' : (j.state == 0) = true := by simpa using hst
  have hd : decide (j.state = 0) = true := by simpa using hst
  rw [hd, Bool.true_and]
  simp [go_sem, bne, hst']
  have hlen16 : j.after.length ≤ 16 := by
    have := (q_row hq hx).1
    unfold isJob isNeeds at this
    simp only [Bool.and_eq_true, decide_eq_true_eq] at this
    omega
  refine LoopW.of (fun k : Nat => ⟨28, [(0, .sv (jobs l)), (3, .box 3 0), (4, .sv (bv false)), (5, .sv (iv k))], [(3, .box ((jobCells j).map .sv))]⟩)
    (fun k => k ≤ j.after.length ∧ ∀ n ∈ j.after.take k, (jb l (lowJ l n)).state = 3) (fun k => j.after.length - k) 0 ⟨by omega, by simp⟩ (Ent.chk (by simp [go_sem])) ?_
  rintro k ⟨hk, ha⟩
  by_cases hkl : k < j.after.length
  · have hkl' : (k : Int) < j.after.length := by omega
    have hwk : IntKind.i64.wrap ((k : Int) + 1) = (k : Int) + 1 := by rw [i64w] <;> omega
    obtain ⟨n, hxk⟩ : ∃ h, j.after[k]? = some h := ⟨_, List.getElem?_eq_getElem hkl⟩
    have hmem := List.mem_of_getElem? hxk
    have hat := q_needAt hq hx hmem
    obtain ⟨h1, x, h2, h3⟩ := q_need hq hx hmem
    have hA := r12At_c l n hl
    rw [hat] at hA
    have hlt := (List.getElem?_eq_some_iff.1 h2).1
    have hjx := jb_get h2
    simp [go_sem, hkl, hkl', hxk, gE hxk]
    refine OpW.fn true hA rfl rfl (by simp [go_sem]) (by rintro _ r rfl; simp [go_sem]) ?_
    rintro r rfl
    have hlt' : (lowJ l n : Int) < l.length := by omega
    by_cases c : x.state = 3
    · have c' : (x.state == 3) = true := by simpa using c
      have hsu : ∀ m ∈ j.after.take (k + 1), (jb l (lowJ l m)).state = 3 := fun m hm => by
        rw [List.take_succ_eq_append_getElem hkl, gE hxk, List.mem_append, List.mem_singleton] at hm
        rcases hm with hm | rfl
        · exact ha m hm
        · rw [hjx]; exact c
      generalize lowJ l n = p at *
      simp [go_sem, bne, hlt, hlt', h2, gE h2, c']
      exact ⟨k + 1, ⟨by omega, hsu⟩, by omega, Ent.chk (by simp [go_sem, hwk])⟩
    · have c' : (x.state == 3) = false := by simpa using c
      have : (j.after.all fun n => decide ((jb l (lowJ l n)).state = 3)) = false := List.all_eq_false.2 ⟨n, hmem, by rw [hjx]; simpa using c⟩
      rw [this]
      generalize lowJ l n = p at *
      simp [go_sem, bne, hlt, hlt', h2, gE h2, c']
  · have hil : k = j.after.length := by omega
    subst hil
    rw [List.take_length] at ha
    have : (j.after.all fun n => decide ((jb l (lowJ l n)).state = 3)) = true := List.all_eq_true.2 fun n hn => by simpa using ha n hn
    rw [this]
    simp [go_sem]
theorem badL_need {l : List Job} (hq : isQ l = true) {i : Nat} {j : Job} (hx : l[i]? = some j) {n : Int} (hn : n ∈ j.after) {x : Job} (hxx : l[lowJ l n]? = some x) : badL l (lostTo l i) (lowJ l n) = (lostI l (lowJ l n) || decide (3 < x.state)) := by
  obtain ⟨h1, _⟩ := q_need hq hx hn
  have hs := job_state (q_row hq hxx).1
  unfold badL overB
  rw [List.getD_eq_getElem?_getD, lostTo_get l h1, jb_get hxx]
  have : (decide (3 ≤ x.state) && decide (x.state ≤ 6) && !decide (x.state = 3)) = decide (3 < x.state) := by rw [Bool.eq_iff_iff]; simp; omega
  rw [this]; rfl
set_option maxHeartbeats 4000000 in
set_option maxRecDepth 100000 in
theorem isLost_c (l : List Job) (hl : l.length ≤ 140737488355328) (hq : isQ l = true) : ∀ (i : Nat) (j : Job) (hx : l[i]? = some j), ACalls Try.prog 48 [jobs l, jobSV j] (· = .one (.sv (bv (lostI l i)))) := by
  intro i
  induction i using Nat.strongRecOn with
  | _ i ih =>
  intro j hx
  refine ACalls.of_bodyS (fun _ _ => Try.call48 _ _) Try.func48 rfl Try.ntmps48 (by simp) ?_
  refine Tr.ex ?_
  have hle := q_len hq
  have hI : lostI l i = (decide (j.state ≤ 1) && j.after.any fun n => badL l (lostTo l i) (lowJ l n)) := by unfold lostI stepLost; rw [jb_get hx]
  rw [hI]
  by_cases hst : (1 : Int) < j.state
  · have hst2 : ¬ j.state ≤ 1 := by omega
    simp [go_sem, hst, hst2]
  have hd : decide (j.state ≤ 1) = true := by simp; omega
  rw [hd, Bool.true_and]
  simp [go_sem, hst]
  have hlen16 : j.after.length ≤ 16 := by
    have := (q_row hq hx).1
    unfold isJob isNeeds at this
    simp only [Bool.and_eq_true, decide_eq_true_eq] at this
    omega
  refine LoopW.of (fun k : Nat => ⟨35, [(0, .sv (jobs l)), (3, .box 3 0), (4, .sv (bv false)), (5, .sv (iv k))], [(3, .box ((jobCells j).map .sv))]⟩)
    (fun k => k ≤ j.after.length ∧ ∀ n ∈ j.after.take k, badL l (lostTo l i) (lowJ l n) = false) (fun k => j.after.length - k) 0 ⟨by omega, by simp⟩ (Ent.chk (by simp [go_sem])) ?_
  rintro k ⟨hk, ha⟩
  by_cases hkl : k < j.after.length
  · have hkl' : (k : Int) < j.after.length := by omega
    have hwk : IntKind.i64.wrap ((k : Int) + 1) = (k : Int) + 1 := by rw [i64w] <;> omega
    obtain ⟨n, hxk⟩ : ∃ h, j.after[k]? = some h := ⟨_, List.getElem?_eq_getElem hkl⟩
    have hmem := List.mem_of_getElem? hxk
    have hat := q_needAt hq hx hmem
    obtain ⟨h1, x, h2, h3⟩ := q_need hq hx hmem
    have hbd := badL_need hq hx hmem h2
    have hA := r12At_c l n hl
    rw [hat] at hA
    have hih := ih _ h1 x h2
    have hlt := (List.getElem?_eq_some_iff.1 h2).1
    have hyes : badL l (lostTo l i) (lowJ l n) = true → (j.after.any fun n => badL l (lostTo l i) (lowJ l n)) = true := fun h => List.any_eq_true.2 ⟨n, hmem, h⟩
    have hno : badL l (lostTo l i) (lowJ l n) = false → ∀ m ∈ j.after.take (k + 1), badL l (lostTo l i) (lowJ l m) = false := fun h m hm => by
      rw [List.take_succ_eq_append_getElem hkl, gE hxk, List.mem_append, List.mem_singleton] at hm
      rcases hm with hm | rfl
      · exact ha m hm
      · exact h
    simp [go_sem, hkl, hkl', hxk, gE hxk]
    refine OpW.fn true hA rfl rfl (by simp [go_sem]) (by rintro _ r rfl; simp [go_sem]) ?_
    rintro r rfl
    have hlt' : (lowJ l n : Int) < l.length := by omega
    rw [hbd] at hyes hno
    generalize lowJ l n = p at *
    by_cases c : 3 < x.state
    · rw [hyes (by simp [c])]
      simp [go_sem, hlt, hlt', h2, gE h2, c]
    · simp [go_sem, hlt, hlt', h2, gE h2, c]
      refine OpW.fn true hih rfl rfl (by simp [go_sem]) (by rintro _ r rfl; simp [go_sem]) ?_
      rintro r rfl
      cases hb : lostI l p with
      | true =>
        rw [hyes (by rw [hb]; rfl)]
        simp [go_sem]
      | false =>
        simp [go_sem]
        exact ⟨k + 1, ⟨by omega, hno (by rw [hb]; simp [c])⟩, by omega, Ent.chk (by simp [go_sem, hwk])⟩
  · have hil : k = j.after.length := by omega
    subst hil
    rw [List.take_length] at ha
    have : (j.after.any fun n => badL l (lostTo l i) (lowJ l n)) = false := List.any_eq_false.2 fun n hn => by simpa using ha n hn
    rw [this]
    simp [go_sem]
set_option maxHeartbeats 4000000 in
set_option maxRecDepth 100000 in
theorem r12Lost_c (l : List Job) (hl : l.length ≤ 1000000000) (hh : Jobs l) : ACalls Try.prog 18 [jobs l] (· = .one (.sv (ints (lostL l)))) := by
  refine ACalls.of_bodyS (fun _ _ => Try.call18 _ _) Try.func18 rfl Try.ntmps18 (by simp) ?_
  refine Tr.ex ?_
  unfold lostL
  simp [go_sem]
  refine OpW.fn true (r12Right_c l (by omega) hh) rfl rfl (by simp [go_sem]) (by rintro _ r rfl; simp [go_sem]) ?_
  rintro r rfl
  cases hq : isQ l with
  | false => simp [go_sem]
  | true =>
    have hle := q_len hq
    simp [go_sem]
    refine LoopW.of (fun i : Nat => ⟨29, [(0, .sv (jobs l)), (2, .nil), (3, .own 3), (4, .sv (iv i))], [(3, .row 1 ((lostIds l i).map iv))]⟩)
      (fun i => i ≤ l.length) (fun i => l.length - i) 0 (by omega) (Ent.thaw 3 3 1 (by simp [go_sem]) (by simp [go_sem]) (by decide) (Ent.chk (by simp [go_sem, lostIds]))) ?_
    intro i hi
    by_cases hlt : i < l.length
    · have hlt' : (i : Int) < l.length := by omega
      have hw : IntKind.i64.wrap ((i : Int) + 1) = (i : Int) + 1 := by rw [i64w] <;> omega
      obtain ⟨j, hx⟩ : ∃ h, l[i]? = some h := ⟨_, List.getElem?_eq_getElem hlt⟩
      have hsu := lostIds_succ l i
      have hsl := lostIds_len l i
      rw [jb_get hx] at hsu
      generalize hL : lostIds l i = L at *
      generalize hL' : lostIds l (i + 1) = L' at *
      simp [go_sem, hlt, hlt', hx, gE hx]
      refine OpW.fn true (isLost_c l (by omega) hq i j hx) rfl rfl (by simp [go_sem]) (by rintro _ r rfl; simp [go_sem]) ?_
      rintro r rfl
      cases hb : lostI l i with
      | false =>
        rw [hb] at hsu
        simp at hsu
        subst hsu
        simp [go_sem]
        exact ⟨i + 1, by omega, by omega, Ent.chk (by simp [go_sem, hw, hL, hL'])⟩
      | true =>
        rw [hb] at hsu
        simp only [if_true] at hsu
        have hm2 : L'.map iv = L.map iv ++ [SV.val (Value.int .i64 j.id)] := by rw [hsu, List.map_append]; rfl
        simp [go_sem, hlt, hlt', hx, gE hx]
        exact ⟨by omega, i + 1, by omega, by omega, Ent.rename2 27 3 (by simp [go_sem]) (Ent.chk (by simp [go_sem, hw, hL, hL', hm2]))⟩
    · have hil : i = l.length := by omega
      subst hil
      simp [go_sem]
/-! ### Again and again the first of what is left -/
section
variable (l R : List Job) (rank : Job → Int) (rdy : Job → Bool)
def aheadJ (rank : Job → Int) (a b : Job) : Prop := rank b < rank a ∨ (rank a = rank b ∧ a.id < b.id)
theorem aheadJ_trans {rank : Job → Int} {a b c : Job} (h1 : aheadJ rank a b) (h2 : aheadJ rank b c) : aheadJ rank a c := by unfold aheadJ at *; omega
theorem aheadJ_irr {rank : Job → Int} (a : Job) : ¬ aheadJ rank a a := by unfold aheadJ; omega
theorem aheadJ_asym {rank : Job → Int} (a b : Job) (h : aheadJ rank a b) : ¬ aheadJ rank b a := by unfold aheadJ at *; omega
def toldJ (m : Nat) : List Bool := l.map fun j => decide (j.id ∈ (R.take m).map (·.id))
/-- Is the one at a place still to be told? -/
def leftJ (m k : Nat) : Prop := ∃ j, l[k]? = some j ∧ rdy j = true ∧ j.id ∉ (R.take m).map (·.id)
def bestJ (m i : Nat) (b : Int) : Prop := (b = -1 ∧ ∀ k, k < i → ¬ leftJ l R rdy m k) ∨ (∃ k x, b = (k : Nat) ∧ k < i ∧ l[k]? = some x ∧ leftJ l R rdy m k ∧ ∀ k' y, k' < i → k' ≠ k → l[k']? = some y → leftJ l R rdy m k' → aheadJ rank x y)
end
section
variable {l R : List Job} {rank : Job → Int} {rdy : Job → Bool}
theorem toldJ_len (m : Nat) : (toldJ l R m).length = l.length := by unfold toldJ; simp
theorem bestJ_zero (m : Nat) : bestJ l R rank rdy m 0 (-1) := .inl ⟨rfl, fun k h => by omega⟩
theorem bestJ_skip {m i : Nat} {b : Int} (h : bestJ l R rank rdy m i b) (hn : ¬ leftJ l R rdy m i) : bestJ l R rank rdy m (i + 1) b := by
  rcases h with ⟨rfl, h⟩ | ⟨k, x, rfl, hk, hx, hl, h⟩
  · exact .inl ⟨rfl, fun k hk => by
      by_cases e : k = i
      · subst e; exact hn
      · exact h k (by omega)⟩
  · exact .inr ⟨k, x, rfl, by omega, hx, hl, fun k' y hk' hne hy hl' => by
      by_cases e : k' = i
      · subst e; exact (hn hl').elim
      · exact h k' y (by omega) hne hy hl'⟩
theorem bestJ_take {m i : Nat} {b : Int} {j : Job} (hs : sortedJ l) (h : bestJ l R rank rdy m i b) (hj : l[i]? = some j) (hl : leftJ l R rdy m i) (hb : b < 0 ∨ ∃ x, l[b.toNat]? = some x ∧ rank x < rank j) : bestJ l R rank rdy m (i + 1) i := by
  refine .inr ⟨i, j, rfl, by omega, hj, hl, fun k' y hk' hne hy hl' => ?_⟩
  rcases h with ⟨rfl, h⟩ | ⟨k, x, rfl, hk, hx, hlk, h⟩
  · exact (h k' (by omega) hl').elim
  · rcases hb with hb | ⟨x', hx', hr⟩
    · omega
    · have : x' = x := by
        rw [Int.toNat_natCast, hx] at hx'
        simpa using hx'.symm
      subst this
      by_cases e : k' = k
      · subst e
        rw [hx] at hy
        cases hy
        exact .inl hr
      · exact aheadJ_trans (.inl hr) (h k' y (by omega) e hy hl')
theorem bestJ_keep {m i : Nat} {b : Int} {j : Job} (hs : sortedJ l) (h : bestJ l R rank rdy m i b) (hj : l[i]? = some j) (hb : ¬ b < 0) (hr : ∀ x, l[b.toNat]? = some x → ¬ rank x < rank j) : bestJ l R rank rdy m (i + 1) b := by
  rcases h with ⟨rfl, h⟩ | ⟨k, x, rfl, hk, hx, hlk, h⟩
  · exact (hb (by decide)).elim
  · refine .inr ⟨k, x, rfl, by omega, hx, hlk, fun k' y hk' hne hy hl' => ?_⟩
    by_cases e : k' = i
    · subst e
      rw [hj] at hy
      cases hy
      have h1 := hr x (by rw [Int.toNat_natCast]; exact hx)
      have h2 := List.pairwise_iff_getElem.1 hs k k' (List.getElem?_eq_some_iff.1 hx).1 (List.getElem?_eq_some_iff.1 hj).1 hk
      rw [gE hx, gE hj] at h2
      unfold aheadJ
      omega
    · exact h k' y (by omega) hne hy hl'
theorem bestJ_get {m i : Nat} {b : Int} (h : bestJ l R rank rdy m i b) (hb : ¬ b < 0) : ∃ k x, b = (k : Nat) ∧ k < i ∧ l[k]? = some x := by
  rcases h with ⟨rfl, _⟩ | ⟨k, x, rfl, hk, hx, _⟩
  · exact (hb (by decide)).elim
  · exact ⟨k, x, rfl, hk, hx⟩
theorem left_drop (hp : R.Perm (l.filter rdy)) {m k : Nat} {x : Job} (hx : l[k]? = some x) (h : leftJ l R rdy m k) : x ∈ R.drop m := by
  obtain ⟨y, hy, h1, h2⟩ := h
  rw [hx] at hy
  cases hy
  have h3 : x ∈ R := hp.mem_iff.2 (List.mem_filter.2 ⟨List.mem_of_getElem? hx, h1⟩)
  rw [← List.take_append_drop m R, List.mem_append] at h3
  rcases h3 with h3 | h3
  · exact (h2 (List.mem_map_of_mem h3)).elim
  · exact h3
theorem toldJ_set (hs : sortedJ l) {m k : Nat} {x : Job} (hx : l[k]? = some x) (hm : R[m]? = some x) : toldJ l R (m + 1) = (toldJ l R m).set k true := by
  obtain ⟨q, he⟩ := List.getElem?_eq_some_iff.1 hm
  unfold toldJ
  rw [List.take_succ_eq_append_getElem q, he]
  refine List.ext_getElem (by simp) fun i h1 h2 => ?_
  have hi : i < l.length := by simpa using h1
  simp only [List.getElem_map, List.getElem_set, List.map_append, List.mem_append, List.map_cons, List.map_nil, List.mem_singleton]
  by_cases e : k = i
  · subst e
    rw [if_pos rfl, gE hx]
    simp
  · rw [if_neg e]
    have : l[i].id ≠ x.id := by
      obtain ⟨q1, q2⟩ := List.getElem?_eq_some_iff.1 hx
      rcases Nat.lt_or_ge k i with g | g
      · have := List.pairwise_iff_getElem.1 hs k i q1 hi g
        rw [q2] at this; omega
      · have := List.pairwise_iff_getElem.1 hs i k hi q1 (by omega)
        rw [q2] at this; omega
    simp [this]
variable (hs : sortedJ l) (hp : R.Perm (l.filter rdy)) (hR : R.Pairwise (aheadJ rank))
include hs hp hR
theorem drop_left {m : Nat} {x : Job} (hx : x ∈ R.drop m) : ∃ k, l[k]? = some x ∧ leftJ l R rdy m k := by
  have h1 := (hp.mem_iff.1 (List.mem_of_mem_drop hx))
  rw [List.mem_filter] at h1
  obtain ⟨k, hk⟩ := List.getElem?_of_mem h1.1
  refine ⟨k, hk, x, hk, h1.2, fun h => ?_⟩
  obtain ⟨y, hy, he⟩ := List.mem_map.1 h
  have h2 : (R.take m ++ R.drop m).Pairwise (aheadJ rank) := by rwa [List.take_append_drop]
  have h3 := (List.pairwise_append.1 h2).2.2 y hy x hx
  have h4 := (hp.mem_iff.1 (List.mem_of_mem_take hy))
  rw [List.mem_filter] at h4
  obtain ⟨k', hk'⟩ := List.getElem?_of_mem h4.1
  by_cases e : k' = k
  · subst e
    rw [hk] at hk'
    cases hk'
    exact aheadJ_irr _ h3
  · obtain ⟨q1, q2⟩ := List.getElem?_eq_some_iff.1 hk
    obtain ⟨q3, q4⟩ := List.getElem?_eq_some_iff.1 hk'
    rcases Nat.lt_or_ge k k' with g | g
    · have := List.pairwise_iff_getElem.1 hs k k' q1 q3 g
      rw [q2, q4] at this; omega
    · have := List.pairwise_iff_getElem.1 hs k' k q3 q1 (by omega)
      rw [q2, q4] at this; omega
theorem bestJ_none {m : Nat} {b : Int} (h : bestJ l R rank rdy m l.length b) (hb : b < 0) : R.length ≤ m := by
  rcases h with ⟨rfl, h⟩ | ⟨k, x, rfl, _⟩
  · rcases Nat.lt_or_ge m R.length with q | q
    · exfalso
      have hm : R[m] ∈ R.drop m := by rw [List.drop_eq_getElem_cons q]; exact List.mem_cons_self
      obtain ⟨k, hk, hl⟩ := drop_left hs hp hR hm
      exact h k (List.getElem?_eq_some_iff.1 hk).1 hl
    · exact q
  · omega
theorem bestJ_next {m k : Nat} {x : Job} (h : bestJ l R rank rdy m l.length (k : Nat)) (hx : l[k]? = some x) : R[m]? = some x := by
  rcases h with ⟨h, _⟩ | ⟨k', x', e, _, hx', hl, h⟩
  · omega
  · have : k' = k := by omega
    subst this
    rw [hx] at hx'
    cases hx'
    have hxd := left_drop hp hx hl
    have q : m < R.length := by
      rcases Nat.lt_or_ge m R.length with q | q
      · exact q
      · rw [List.drop_eq_nil_of_le q] at hxd; cases hxd
    have hm : R[m] ∈ R.drop m := by rw [List.drop_eq_getElem_cons q]; exact List.mem_cons_self
    obtain ⟨k2, hk2, hl2⟩ := drop_left hs hp hR hm
    rw [List.getElem?_eq_getElem q]
    by_cases e2 : k2 = k'
    · subst e2; rw [hx] at hk2; exact hk2.symm
    · have h1 := h k2 R[m] (List.getElem?_eq_some_iff.1 hk2).1 e2 hk2 hl2
      rw [List.drop_eq_getElem_cons q, List.mem_cons] at hxd
      rcases hxd with e3 | h3
      · rw [← e3]
      · have h4 : (R.drop m).Pairwise (aheadJ rank) := hR.sublist (List.drop_sublist _ _)
        rw [List.drop_eq_getElem_cons q, List.pairwise_cons] at h4
        exact (aheadJ_asym _ _ h1 (h4.1 x h3)).elim
end
end Go.Proofs.Ytnkcenafpigmbaa.Ab
