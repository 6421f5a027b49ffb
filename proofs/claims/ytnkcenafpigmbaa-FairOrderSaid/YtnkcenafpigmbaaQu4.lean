/- slices.SortStableFunc at []Job, up to 19 of them: insertion. queue: copied, clone, ids, every, Get, Ready. -/
import Derived.Test.YtnkcenafpigmbaaQu3
namespace Go.Proofs.Ytnkcenafpigmbaa.Ab
open Go.RowKit
set_option linter.unusedVariables false
set_option linter.unusedSimpArgs false

def ltC {α : Type} (c : α → α → Int) (a b : α) : Bool := decide (c a b < 0)
set_option maxHeartbeats 8000000 in
set_option maxRecDepth 100000 in
theorem insJ_c (A l C g0 g1 : List Job) (a b : Nat) (ha : a = A.length) (hb : b = A.length + l.length) (f : FuncId) (caps : List SV) (c : Job → Job → Int) (hg0 : g0 = A ++ l ++ C) (hg1 : g1 = A ++ srt (ltC c) l ++ C) (hp : ∀ a b, ACalls Try.prog f ([jobSV a, jobSV b] ++ caps) (· = .one (.sv (iv (c a b))))) (hlen : A.length + l.length + C.length ≤ 1000000000) :
    ACallsI Try.prog 91 [.own, .sv (iv a), .sv (iv b), .sv (.fn f caps)] (.row 13 (g0.map jobSV)) (fun r o => r = .many [] ∧ o = .row 13 (g1.map jobSV)) := by
  refine ACallsI.of_body (fun _ _ => Try.call91 _ _) Try.func91 rfl Try.ntmps91 (by simp) rfl ?_
  refine Tr.ex ?_
  have hw0 : IntKind.i64.wrap ((a : Int) + 1) = (a : Int) + 1 := by rw [i64w] <;> omega
  rw [← srtL_one (ltC c) A l C] at hg0
  simp [go_sem, hw0]
  refine LoopW.of (fun p : Nat => ⟨53, [(0, .own 1000000), (1, .sv (iv a)), (2, .sv (iv b)), (3, .sv (.fn f caps)), (8, .sv (iv p))], [(1000000, .row 13 ((srtL (ltC c) A l C (p - a)).map jobSV))]⟩)
    (fun p => a + 1 ≤ p ∧ p ≤ max (a + 1) b) (fun p => b - p) (a + 1) ⟨by omega, by omega⟩ (Ent.chk (by simp [go_sem, ← hg0])) ?_
  rintro p ⟨hm1, hm2⟩
  by_cases hlt : p < b
  · have hlt' : (p : Int) < b := by omega
    have hw : IntKind.i64.wrap ((p : Int) + 1) = (p : Int) + 1 := by rw [i64w] <;> omega
    obtain ⟨x, hx⟩ : ∃ x, l[p - a]? = some x := ⟨_, List.getElem?_eq_getElem (by omega)⟩
    have hmid := srtL_mid (lt := ltC c) (A := A) (C := C) hx
    have hend := fun k => srtL_end (lt := ltC c) (A := A) (C := C) (k := k) hx
    have hrl : (srtR (ltC c) (l.take (p - a))).length = p - a := by rw [srtR_len, List.length_take]; omega
    have hCl : (l.drop (p - a + 1) ++ C).length = l.length - (p - a + 1) + C.length := by simp
    rw [hmid]
    rw [show p - a + 1 = p + 1 - a by omega] at *
    generalize hnx : srtL (ltC c) A l C (p + 1 - a) = nxt at *
    generalize srtR (ltC c) (l.take (p - a)) = rp at *
    generalize l.drop (p + 1 - a) ++ C = C' at *
    simp [go_sem, hlt, hlt']
    refine LoopW.of (fun i : Nat => ⟨53, [(0, .own 1000000), (1, .sv (iv a)), (2, .sv (iv b)), (3, .sv (.fn f caps)), (8, .sv (iv p)), (9, .sv (iv i))], [(1000000, .row 13 ((midL A rp x (p - i) C').map jobSV))]⟩)
      (fun i => a ≤ i ∧ i ≤ p ∧ insR (ltC c) x rp = rp.take (p - i) ++ insR (ltC c) x (rp.drop (p - i))) (fun i => i) p ⟨by omega, by omega, by simp⟩ (Ent.chk (by simp [go_sem])) ?_
    rintro i ⟨hi1, hi2, hins⟩
    have hk : p - i ≤ rp.length := by omega
    have hml := midL_len A rp x (p - i) C' hk
    by_cases hkr : a < i
    · have hkr' : (a : Int) < i := by omega
      obtain ⟨y, hy⟩ : ∃ y, rp[p - i]? = some y := ⟨_, List.getElem?_eq_getElem (by omega)⟩
      obtain ⟨hs1, hs2⟩ := insR_step hy hins
      have hg1 := midL_at (A := A) (x := x) (C := C') hk (i := i) (by omega)
      have hg2 := midL_pre (A := A) (x := x) (C := C') hy (i := i - 1) (by omega)
      have hst := midL_step (A := A) (x := x) (C := C') hy (i := i) (j := i - 1) (by omega) (by omega)
      have hst2 := congrArg (List.map jobSV) hst
      rw [show p - i + 1 = p - (i - 1) by omega] at *
      have hwi : IntKind.i64.wrap ((i : Int) - 1) = ((i - 1 : Nat) : Int) := by rw [i64w] <;> omega
      have hb1 : i < (midL A rp x (p - i) C').length := by omega
      have hb2 : i - 1 < (midL A rp x (p - i) C').length := by omega
      have hcl := hp x y
      have e := hend (p - i)
      generalize hgg : midL A rp x (p - (i - 1)) C' = g' at *
      generalize midL A rp x (p - i) C' = g at *
      have hb1' : (i : Int) < g.length := by omega
      have hb2' : ((i - 1 : Nat) : Int) < g.length := by omega
      have hg3 : ((g.map jobSV).set i (jobSV y))[i - 1]? = some (jobSV y) := by
        rw [List.getElem?_set_ne (by omega), List.getElem?_map, hg2]; rfl
      simp only [List.map_set, jobSV, jobCells, iv, sv', bv, ints] at hst2
      simp only [jobSV, jobCells, iv, sv', bv, ints] at hg3
      simp [go_sem, hkr, hkr']
      refine DrawW.rd rfl ?_
      simp [go_sem, hkr, hkr', hwi, hb1, hb1', hb2, hb2', hg1, gE hg1, hg2, gE hg2]
      refine OpD.callF (g := f) (caps := caps) (ys := [jobSV x, jobSV y]) true hcl rfl rfl (by simp [go_sem]) (by simp [go_sem]) (by intro _; simp [go_sem]) (by simp [go_sem]) (by simp [go_sem]) ?_
      simp [go_sem]
      refine ⟨by kernel_rfl, ?_⟩
      by_cases hc : c x y < 0
      · have h1 := hs1 (by unfold ltC; simpa using hc)
        simp [go_sem, hc]
        refine DrawW.rd rfl ?_
        simp [go_sem, hkr, hkr', hwi, hb1, hb1', hb2, hb2', hg1, gE hg1, hg2, gE hg2, hg3, gE hg3]
        rw [hst2]
        refine ⟨by kernel_rfl, ?_⟩
        exact ⟨i - 1, ⟨by omega, by omega, h1⟩, by omega, Ent.chk (by simp [go_sem, hwi, hgg])⟩
      · have h2 := hs2 (by unfold ltC; simpa using hc)
        have e := e h2
        subst e
        simp [go_sem, hc]
        exact ⟨p + 1, ⟨by omega, by omega⟩, by omega, Ent.chk (by simp [go_sem, hw, hnx])⟩
    · have hke : i = a := by omega
      have hkr' : ¬ (a : Int) < i := by omega
      have e := hend (p - i) (by rw [hins, show p - i = rp.length by omega]; simp [insR])
      rw [e]
      simp [go_sem, hkr, hkr']
      refine DrawW.rd rfl ?_
      simp [go_sem, hkr, hkr']
      refine ⟨by kernel_rfl, ?_⟩
      exact ⟨p + 1, ⟨by omega, by omega⟩, by omega, Ent.chk (by simp [go_sem, hw, hnx])⟩
  · have hlt' : ¬ (p : Int) < b := by omega
    have hall := srtL_all (lt := ltC c) (A := A) (C := C) (l := l) (m := p - a) (by omega)
    rw [hall, ← hg1]
    simp [go_sem, hlt, hlt']
set_option maxHeartbeats 4000000 in
set_option maxRecDepth 100000 in
theorem stableJ_c (l : List Job) (f : FuncId) (caps : List SV) (c : Job → Job → Int) (hp : ∀ a b, ACalls Try.prog f ([jobSV a, jobSV b] ++ caps) (· = .one (.sv (iv (c a b))))) (hlen : l.length < 20) :
    ACallsI Try.prog 73 [.own, .sv (iv l.length), .sv (.fn f caps)] (.row 13 (l.map jobSV)) (fun r o => r = .many [] ∧ o = .row 13 ((srt (ltC c) l).map jobSV)) := by
  refine ACallsI.of_body (fun _ _ => Try.call73 _ _) Try.func73 rfl Try.ntmps73 (by simp) rfl ?_
  refine Tr.ex ?_
  have hlen' : ¬ (20 : Int) ≤ l.length := by omega
  have hlen2 : ¬ 20 ≤ l.length := by omega
  have hsl := srt_len (ltC c) l
  simp [go_sem]
  refine LoopW.of (fun _ : Unit => ⟨63, [(0, .own 1000000), (1, .sv (iv l.length)), (2, .sv (.fn f caps)), (6, .sv (iv 20)), (7, .sv (iv 0)), (8, .sv (iv 20))], [(1000000, .row 13 (l.map jobSV))]⟩)
    (fun _ => True) (fun _ => 0) () trivial (Ent.chk (by simp [go_sem])) ?_
  intro _ _
  simp [go_sem, hlen', hlen2]
  refine OpW.callI 1000000 (insJ_c [] l [] l (srt (ltC c) l) 0 l.length rfl (by simp) f caps c (by simp) (by simp) hp (by simp; omega)) rfl (by simp [go_sem]) (by simp [go_sem]) (by simp [go_sem, hsl]) (by simp [go_sem, hsl]) ?_
  rintro r o ⟨rfl, rfl⟩
  simp [go_sem, hsl]
  refine LoopW.of (fun _ : Unit => ⟨63, [(0, .own 1000000), (1, .sv (iv l.length)), (2, .sv (.fn f caps)), (6, .sv (iv 20)), (7, .sv (iv 0)), (8, .sv (iv 20))], [(1000000, .row 13 ((srt (ltC c) l).map jobSV))]⟩)
    (fun _ => True) (fun _ => 0) () trivial (Ent.chk (by simp [go_sem])) ?_
  intro _ _
  have h3 : ¬ (20 : Int) < l.length := by omega
  have h4 : ¬ 20 < l.length := by omega
  simp [go_sem, h3, h4]
theorem sortStableJ_c (l : List Job) (f : FuncId) (caps : List SV) (c : Job → Job → Int) (hp : ∀ a b, ACalls Try.prog f ([jobSV a, jobSV b] ++ caps) (· = .one (.sv (iv (c a b))))) (hlen : l.length < 20) :
    ACallsI Try.prog 41 [.own, .sv (.fn f caps)] (.row 13 (l.map jobSV)) (fun r o => r = .many [] ∧ o = .row 13 ((srt (ltC c) l).map jobSV)) := by
  refine ACallsI.of_body (fun _ _ => Try.call41 _ _) Try.func41 rfl Try.ntmps41 (by simp) rfl ?_
  refine Tr.ex ?_
  simp [go_sem]
  have hsl := srt_len (ltC c) l
  refine OpW.callI 1000000 (stableJ_c l f caps c hp hlen) rfl (by simp [go_sem]) (by simp [go_sem]) (by simp [go_sem, hsl]) (by simp [go_sem, hsl]) ?_
  rintro r o ⟨rfl, rfl⟩
  simp [go_sem, hsl]
end Go.Proofs.Ytnkcenafpigmbaa.Ab

namespace Go.Proofs.Ytnkcenafpigmbaa.Ab
open Go.RowKit
set_option linter.unusedVariables false
set_option linter.unusedSimpArgs false

theorem OpW.goQ {P : Program} {Q : Exit → St → Prop} {ops : Array Oper} {l : List Oper} {k : List Fr} {o : Oper} {st : St} (h : Ab.rn P Q ops (o :: l) k st) : OpW P Q ops o l k st := RnK.rn h
set_option maxRecDepth 100000 in
theorem copiedJ_c (j : Job) (hl : j.after.length ≤ 140737488355) : ACalls Try.prog 51 [jobSV j] (· = .one (.sv (jobSV j))) := by
  refine ACalls.of_bodyS (fun _ _ => Try.call51 _ _) Try.func51 rfl Try.ntmps51 (by simp) ?_
  refine Tr.ex ?_
  simp [go_sem]
  refine OpW.fn false (Clone_c j.after hl) rfl rfl (by simp [go_sem]) (fun h => by cases h) ?_
  rintro r (⟨h0, rfl⟩ | rfl)
  · simp [go_sem, h0]
  · simp [go_sem]
    refine OpW.frz 5 (OpW.goQ ?_)
    simp [go_sem]
set_option maxRecDepth 100000 in
theorem cloneJ_c (l : List Job) (hl : l.length ≤ 1000000000) (hh : Jobs l) : ACalls Try.prog 52 [jobs l] (· = .one (.own 13 (l.map jobSV))) := by
  refine ACalls.of_body (fun _ _ => Try.call52 _ _) Try.func52 rfl Try.ntmps52 (by simp) ?_
  refine Tr.ex ?_
  simp [go_sem]
  refine LoopW.of (fun i : Nat => ⟨19, [(2, .nil), (3, .own 3), (6, .sv (jobs l)), (7, .sv (iv l.length)), (8, .sv (iv i))], [(3, .row 13 ((l.take i).map jobSV))]⟩)
    (fun i => i ≤ l.length) (fun i => l.length - i) 0 (by omega) (Ent.thaw 3 3 13 (by simp [go_sem]) (by simp [go_sem]) (by decide) (Ent.chk (by simp [go_sem]))) ?_
  intro i hi
  by_cases hlt : i < l.length
  · have hlt' : (i : Int) < l.length := by omega
    have hw : IntKind.i64.wrap ((i : Int) + 1) = (i : Int) + 1 := by rw [i64w] <;> omega
    obtain ⟨h, hx⟩ : ∃ h, l[i]? = some h := ⟨_, List.getElem?_eq_getElem hlt⟩
    have hhl := (hh h (List.mem_of_getElem? hx)).2
    have htk : l.take (i + 1) = l.take i ++ [h] := by rw [List.take_succ_eq_append_getElem hlt, gE hx]
    have hmin : min i l.length = i := by omega
    simp [go_sem, hlt, hlt', hx, gE hx]
    refine OpW.fn false (copiedJ_c h hhl) rfl rfl (by simp [go_sem]) (fun h => by cases h) ?_
    rintro r rfl
    simp [go_sem, hmin]
    have htk2 : (l.map jobSV).take (i + 1) = (l.map jobSV).take i ++ [jobSV h] := by rw [← List.map_take, ← List.map_take, htk, List.map_append]; rfl
    exact ⟨by omega, i + 1, by omega, by omega, Ent.rename2 16 3 (by simp [go_sem]) (Ent.chk (by simp [go_sem, hw, htk2]))⟩
  · have hil : i = l.length := by omega
    subst hil
    simp [go_sem]
set_option maxRecDepth 100000 in
theorem idsJ_c (l : List Job) (hl : l.length ≤ 1000000000) : ACalls Try.prog 44 [jobs l] (· = .one (.own 1 ((l.map (·.id)).map iv))) := by
  refine ACalls.of_body (fun _ _ => Try.call44 _ _) Try.func44 rfl Try.ntmps44 (by simp) ?_
  refine Tr.ex ?_
  simp [go_sem]
  refine LoopW.of (fun i : Nat => ⟨19, [(2, .nil), (3, .own 3), (6, .sv (jobs l)), (7, .sv (iv l.length)), (8, .sv (iv i))], [(3, .row 1 (((l.take i).map (·.id)).map iv))]⟩)
    (fun i => i ≤ l.length) (fun i => l.length - i) 0 (by omega) (Ent.thaw 3 3 1 (by simp [go_sem]) (by simp [go_sem]) (by decide) (Ent.chk (by simp [go_sem]))) ?_
  intro i hi
  by_cases hlt : i < l.length
  · have hlt' : (i : Int) < l.length := by omega
    have hw : IntKind.i64.wrap ((i : Int) + 1) = (i : Int) + 1 := by rw [i64w] <;> omega
    obtain ⟨h, hx⟩ : ∃ h, l[i]? = some h := ⟨_, List.getElem?_eq_getElem hlt⟩
    have htk : ((l.map (·.id)).map iv).take (i + 1) = ((l.map (·.id)).map iv).take i ++ [iv h.id] := by rw [← List.map_take, ← List.map_take, ← List.map_take, List.take_succ_eq_append_getElem hlt, gE hx]; simp [List.map_append]
    simp only [iv] at htk
    have hmin : min i l.length = i := by omega
    simp [go_sem, hlt, hlt', hx, gE hx, hmin]
    exact ⟨by omega, i + 1, by omega, by omega, Ent.rename2 16 3 (by simp [go_sem]) (Ent.chk (by simp [go_sem, hw]; simpa using htk.symm))⟩
  · have hil : i = l.length := by omega
    subst hil
    simp [go_sem]
theorem Over_c (n : Int) : ACalls Try.prog 24 [iv n] (· = .one (.sv (bv (decide (3 ≤ n) && decide (n ≤ 6))))) := by
  refine ACalls.of_bodyS (fun _ _ => Try.call24 _ _) Try.func24 rfl Try.ntmps24 (by simp) ?_
  refine Tr.ex ?_
  by_cases h : 3 ≤ n <;> simp [go_sem, h]
set_option maxHeartbeats 4000000 in
set_option maxRecDepth 100000 in
theorem every_c (l : List Job) (j : Job) (hs : sortedJ l) (hl : l.length ≤ 256) (hal : j.after.length ≤ 140737488355) (f : FuncId) (caps : List SV) (p : Nat → Bool) (hp : ∀ n ∈ j.after, ACalls Try.prog f ([iv (lowJ l n)] ++ caps) (· = .one (.sv (bv (p (lowJ l n)))))) :
    ACalls Try.prog 39 [jobs l, jobSV j, .fn f caps] (· = .one (.sv (bv (j.after.all fun n => p (lowJ l n))))) := by
  refine ACalls.of_bodyS (fun _ _ => Try.call39 _ _) Try.func39 rfl Try.ntmps39 (by simp) ?_
  refine Tr.ex ?_
  simp [go_sem]
  refine LoopW.of (fun i : Nat => ⟨29, [(0, .sv (jobs l)), (2, .sv (.fn f caps)), (6, .sv (bv false)), (12, .sv (ints j.after)), (13, .sv (iv j.after.length)), (14, .sv (iv i))], []⟩)
    (fun i => i ≤ j.after.length ∧ ∀ n ∈ j.after.take i, p (lowJ l n) = true) (fun i => j.after.length - i) 0 ⟨by omega, by simp⟩ (Ent.chk (by simp [go_sem])) ?_
  rintro i ⟨hi, ha⟩
  by_cases hlt : i < j.after.length
  · have hlt' : (i : Int) < j.after.length := by omega
    have hw : IntKind.i64.wrap ((i : Int) + 1) = (i : Int) + 1 := by rw [i64w] <;> omega
    obtain ⟨x, hx⟩ : ∃ x, j.after[i]? = some x := ⟨_, List.getElem?_eq_getElem hlt⟩
    have hc := hp x (List.mem_of_getElem? hx)
    simp [go_sem, hlt, hlt', hx, gE hx]
    refine OpW.fn true (findJ_c l x hs hl) rfl rfl (by simp [go_sem]) (by rintro _ r rfl; simp [go_sem]) ?_
    rintro r rfl
    simp [go_sem]
    refine OpW.call (g := f) (caps := caps) (ys := [iv (lowJ l x)]) true hc rfl rfl (by simp [go_sem]) (by simp [go_sem]) (by rintro _ r rfl; simp [go_sem]) ?_
    rintro r rfl
    cases hpi : p (lowJ l x) with
    | false =>
      have : (j.after.all fun n => p (lowJ l n)) = false := List.all_eq_false.2 ⟨x, List.mem_of_getElem? hx, by simp [hpi]⟩
      simp [go_sem, this]
    | true =>
      simp [go_sem]
      exact ⟨i + 1, ⟨by omega, fun n hn => by
        rw [List.take_succ_eq_append_getElem hlt, gE hx, List.mem_append, List.mem_singleton] at hn
        rcases hn with hn | rfl
        · exact ha n hn
        · exact hpi⟩, by omega, Ent.chk (by simp [go_sem, hw])⟩
  · have hil : i = j.after.length := by omega
    subst hil
    rw [List.take_length] at ha
    have : (j.after.all fun n => p (lowJ l n)) = true := List.all_eq_true.2 ha
    simp [go_sem, this]
theorem ready1_c (l : List Job) (i : Nat) (j : Job) (hx : l[i]? = some j) (hl : l.length ≤ 140737488355328) : ACalls Try.prog 40 [iv i, .ref (.agg [jobs l]) 0] (· = .one (.sv (bv (decide (j.state = 3))))) := by
  refine ACalls.of_bodyS (fun _ _ => Try.call40 _ _) Try.func40 rfl Try.ntmps40 (by simp) ?_
  refine Tr.ex ?_
  have hlt := (List.getElem?_eq_some_iff.1 hx).1
  have hlt' : (i : Int) < l.length := by omega
  simp [go_sem, hlt, hlt', hx, gE hx]
  rw [Bool.eq_iff_iff]; simp
set_option maxRecDepth 100000 in
theorem ready2_c (a b : Job) : ACalls Try.prog 42 [jobSV a, jobSV b] (· = .one (.sv (iv (cmpI b.spec.prio a.spec.prio)))) := by
  refine ACalls.of_bodyS (fun _ _ => Try.call42 _ _) Try.func42 rfl Try.ntmps42 (by simp) ?_
  refine Tr.ex ?_
  simp [go_sem]
  refine OpW.fn true (Compare_c b.spec.prio a.spec.prio) rfl rfl (by simp [go_sem]) (by rintro _ r rfl; simp [go_sem]) ?_
  rintro r rfl
  simp [go_sem]
/-! ### Ready, Lost: plainly -/
def readyB (l : List Job) (j : Job) : Bool := decide (j.state = 0) && j.after.all fun n => decide ((jb l (lowJ l n)).state = 3)
def readyJ (l : List Job) : List Job := srt (ltC fun a b => cmpI b.spec.prio a.spec.prio) (l.filter (readyB l))
def readyL (l : List Job) : List Int := if isQ l = true then (readyJ l).map (·.id) else []
theorem q_row {l : List Job} (h : isQ l = true) {i : Nat} {j : Job} (hx : l[i]? = some j) : isJob j = true ∧ ordQ l i = true ∧ ∀ n ∈ j.after, isAtJ (l.take i) n = true := by
  have := quTo_row (q_to h) (List.getElem?_eq_some_iff.1 hx).1
  unfold rowQ at this
  rw [jb_get hx] at this
  simp only [Bool.and_eq_true, List.all_eq_true] at this
  exact ⟨this.1.1, this.1.2, this.2⟩
theorem q_need {l : List Job} (h : isQ l = true) {i : Nat} {j : Job} (hx : l[i]? = some j) {n : Int} (hn : n ∈ j.after) : lowJ l n < i ∧ ∃ x, l[lowJ l n]? = some x ∧ x.id = n := by
  have h1 := (q_row h hx).2.2 n hn
  unfold isAtJ at h1
  obtain ⟨x, hm, he⟩ := List.any_eq_true.1 h1
  obtain ⟨k, hk⟩ := List.getElem?_of_mem hm
  rw [List.getElem?_take] at hk
  split at hk
  case isFalse => cases hk
  rename_i hki
  have he : x.id = n := by simpa using he
  have hiff := lowJ_iff (q_sorted h) (id := n) hk
  have h3 : ¬ k < lowJ l n := by rw [← hiff]; omega
  by_cases e : k = lowJ l n
  · subst e; exact ⟨hki, x, hk, he⟩
  · have hlt : lowJ l n < k := by omega
    have hlt2 : lowJ l n < l.length := by have := (List.getElem?_eq_some_iff.1 hk).1; omega
    have h4 := lowJ_iff (q_sorted h) (id := n) (List.getElem?_eq_getElem hlt2)
    have h5 : ¬ (l[lowJ l n]).id < n := by rw [h4]; omega
    have h6 := List.pairwise_iff_getElem.1 (q_sorted h) (lowJ l n) k hlt2 (List.getElem?_eq_some_iff.1 hk).1 hlt
    rw [gE hk] at h6
    omega
set_option maxHeartbeats 8000000 in
set_option maxRecDepth 100000 in
theorem qReady_c (l : List Job) (hl : l.length < 20) (hh : Jobs l) : ACalls Try.prog 15 [jobs l] (· = .one (.sv (ints (readyL l)))) := by
  refine ACalls.of_bodyS (fun _ _ => Try.call15 _ _) Try.func15 rfl Try.ntmps15 (by simp) ?_
  refine Tr.ex ?_
  unfold readyL
  simp [go_sem]
  refine OpW.fn true (qRight_c l (by omega) hh) rfl rfl (by simp [go_sem]) (by rintro _ r rfl; simp [go_sem]) ?_
  rintro r rfl
  cases hq : isQ l with
  | false => simp [go_sem]
  | true =>
    have hso := q_sorted hq
    simp [go_sem]
    refine LoopW.of (fun i : Nat => ⟨33, [(1, .box 1 0), (2, .nil), (3, .own 3), (9, .sv (jobs l)), (10, .sv (iv l.length)), (11, .sv (iv i))], [(1, .box [.sv (jobs l)]), (3, .row 13 (((l.take i).filter (readyB l)).map jobSV))]⟩)
      (fun i => i ≤ l.length) (fun i => l.length - i) 0 (by omega) (Ent.thaw 3 3 13 (by simp [go_sem]) (by simp [go_sem]) (by decide) (Ent.chk (by simp [go_sem]))) ?_
    intro i hi
    by_cases hlt : i < l.length
    · have hlt' : (i : Int) < l.length := by omega
      have hw : IntKind.i64.wrap ((i : Int) + 1) = (i : Int) + 1 := by rw [i64w] <;> omega
      obtain ⟨j, hx⟩ : ∃ h, l[i]? = some h := ⟨_, List.getElem?_eq_getElem hlt⟩
      have hjw := (hh j (List.mem_of_getElem? hx)).2
      have htk : (l.take (i + 1)).filter (readyB l) = (l.take i).filter (readyB l) ++ (if readyB l j = true then [j] else []) := by rw [List.take_succ_eq_append_getElem hlt, gE hx, List.filter_append]; simp [List.filter_cons]
      have hle : ((l.take i).filter (readyB l)).length ≤ i := by have := List.length_filter_le (readyB l) (l.take i); rw [List.length_take] at this; omega
      have hev : ACalls Try.prog 39 [jobs l, jobSV j, .fn 40 [.ref (.agg [jobs l]) 0]] (· = .one (.sv (bv (j.after.all fun n => decide ((jb l (lowJ l n)).state = 3))))) :=
        every_c l j hso (by omega) hjw _ _ (fun k => decide ((jb l k).state = 3)) fun n hn => by
          obtain ⟨_, x, h1, _⟩ := q_need hq hx hn
          rw [jb_get h1]
          exact ready1_c l _ x h1 (by omega)
      generalize hF : (l.take i).filter (readyB l) = F at *
      generalize hF' : (l.take (i + 1)).filter (readyB l) = F' at *
      by_cases hst : j.state = 0
      case neg =>
        have e : readyB l j = false := by unfold readyB; simp [hst]
        rw [e] at htk
        simp at htk
        subst htk
        have hst' : (j.state == 0) = false := by simpa using hst
        simp [go_sem, hlt, hlt', hx, gE hx, hst, hst']
        exact ⟨i + 1, by omega, by omega, Ent.chk (by simp [go_sem, hw, hF, hF'])⟩
      case pos =>
        have e : readyB l j = j.after.all fun n => decide ((jb l (lowJ l n)).state = 3) := by unfold readyB; simp [hst]
        rw [e] at htk
        have hst' : (j.state == 0) = true := by simpa using hst
        simp [go_sem, hlt, hlt', hx, gE hx, hst']
        refine OpW.fn true hev rfl rfl (by simp [go_sem]) (by rintro _ r rfl; simp [go_sem]) ?_
        rintro r rfl
        cases hb : j.after.all fun n => decide ((jb l (lowJ l n)).state = 3) with
        | false =>
          rw [hb] at htk
          simp at htk
          subst htk
          simp [go_sem]
          exact ⟨i + 1, by omega, by omega, Ent.chk (by simp [go_sem, hw, hF, hF'])⟩
        | true =>
          rw [hb] at htk
          simp only [if_true] at htk
          have hm : F'.map jobSV = F.map jobSV ++ [jobSV j] := by rw [htk, List.map_append]; rfl
          simp only [jobSV, jobCells, iv, sv', bv, ints] at hm
          simp [go_sem]
          exact ⟨by omega, i + 1, by omega, by omega, Ent.rename2 27 3 (by simp [go_sem]) (Ent.chk (by simp [go_sem, hw, hF, hF', hm]))⟩
    · have hil : i = l.length := by omega
      subst hil
      rw [List.take_length]
      have hle := List.length_filter_le (readyB l) l
      have hsl := srt_len (ltC fun a b : Job => cmpI b.spec.prio a.spec.prio) (l.filter (readyB l))
      have hid := idsJ_c (readyJ l) (by unfold readyJ; omega)
      unfold readyJ at hid ⊢
      generalize hF : l.filter (readyB l) = F at *
      simp [go_sem]
      refine OpW.callI 3 (sortStableJ_c F _ [] (fun a b => cmpI b.spec.prio a.spec.prio) (fun a b => ready2_c a b) (by omega)) rfl (by simp [go_sem]) (by simp [go_sem]) (by simp [go_sem, hsl]) (by simp [go_sem, hsl]) ?_
      rintro r o ⟨rfl, rfl⟩
      simp [go_sem, hsl]
      refine OpW.fn true hid rfl rfl (by simp [go_sem]) (by rintro _ r rfl; simp only [RV.flat, RV.comps, List.mem_singleton, forall_eq, R1.flat, List.mem_map]; rintro x ⟨y, _, rfl⟩; rfl) ?_
      rintro r rfl
      simp [go_sem]
end Go.Proofs.Ytnkcenafpigmbaa.Ab
