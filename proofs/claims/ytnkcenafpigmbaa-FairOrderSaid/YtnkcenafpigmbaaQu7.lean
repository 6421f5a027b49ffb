/- queue.Add. awake of chapter 12. -/
import Derived.Test.YtnkcenafpigmbaaQu6
import Derived.Test.YtnkcenafpigmbaaAx2
namespace Go.Proofs.Ytnkcenafpigmbaa.Ab
open Go.RowKit
set_option linter.unusedVariables false
set_option linter.unusedSimpArgs false

set_option maxHeartbeats 8000000 in
set_option maxRecDepth 100000 in
theorem qAddP_c (l : List Job) (s : Spec) (needs : List Int) (now : Int) (h0 : 0 < l.length) (hl : l.length ≤ 1000000000) (hh : Jobs l) (hs : s.tag.size ≤ 140737488351232) (hn : needs.length ≤ 140737488355) :
    ACalls Try.prog 22 [jobs l, specSV s, ints needs, iv now] (· = .many [.sv (jobs (addQ l s needs now).1), .sv (iv (addQ l s needs now).2.1), .sv (iv (addQ l s needs now).2.2)]) := by
  refine ACalls.of_bodyS (fun _ _ => Try.call22 _ _) Try.func22 rfl Try.ntmps22 (by simp) ?_
  refine Tr.ex ?_
  unfold addQ
  simp [go_sem]
  refine OpW.fn false (cloneJ_c l hl hh) rfl rfl (by simp [go_sem]) (fun h => by cases h) ?_
  rintro r rfl
  have hx : l[l.length - 1]? = some (lastJ l) := by
    unfold lastJ
    rw [List.getLast?_eq_getElem?, List.getElem?_eq_getElem (by omega)]
    rfl
  have hlid := fun h => lastJ_id (l := l) h
  have hwl : IntKind.i64.wrap ((l.length : Int) - 1) = ((l.length - 1 : Nat) : Int) := by rw [i64w] <;> omega
  have hlt : l.length - 1 < l.length := by omega
  have hlt' : ((l.length - 1 : Nat) : Int) < l.length := by omega
  generalize lastJ l = J at *
  simp [go_sem, h0, hwl, hlt, hlt', hx, gE hx]
  refine OpW.fn true (qRight_c l (by omega) hh) rfl rfl (by simp [go_sem]) (by rintro _ r rfl; simp [go_sem]) ?_
  rintro r rfl
  cases hq : isQ l with
  | false => simp [go_sem]
  | true =>
    have hso := q_sorted hq
    have hle := q_len hq
    have hid := hlid hq
    simp [go_sem]
    refine OpW.fn true (sRight_c s (by omega)) rfl rfl (by simp [go_sem]) (by rintro _ r rfl; simp [go_sem]) ?_
    rintro r rfl
    cases hsp : isSpec s with
    | false => simp [go_sem]
    | true =>
      simp [go_sem]
      refine OpW.fn true (rising_c needs (by omega)) rfl rfl (by simp [go_sem]) (by rintro _ r rfl; simp [go_sem]) ?_
      rintro r rfl
      cases hr : risingB needs with
      | false => simp [go_sem]
      | true =>
        simp [go_sem]
        refine OpW.fn true (wRight_c now) rfl rfl (by simp [go_sem]) (by rintro _ r rfl; simp [go_sem]) ?_
        rintro r rfl
        cases hwn : isWhen now with
        | false => simp [go_sem]
        | true =>
          have hwn2 : 0 ≤ now ∧ now ≤ 4611686018427387904 := by unfold isWhen at hwn; simpa using hwn
          by_cases c1 : now < J.added
          · have c1' : ¬ J.added ≤ now := by omega
            simp [go_sem, c1, c1']
          have c1' : J.added ≤ now := by omega
          simp [go_sem, c1, c1']
          refine LoopW.of (fun i : Nat => ⟨94, [(0, .sv (jobs l)), (2, .sv (ints needs)), (3, .sv (iv now)), (5, .box 5 0), (8, .nil), (9, .sv (iv 0)), (10, .sv (iv 0)), (11, .own 19), (12, .box 12 0), (55, .sv (ints needs)), (56, .sv (iv needs.length)), (57, .sv (iv i))], [(5, .box ((specCells s).map .sv)), (12, .box ((jobCells J).map .sv)), (19, .row 13 (l.map jobSV))]⟩)
            (fun i => i ≤ needs.length ∧ ∀ n ∈ needs.take i, isAtJ l n = true) (fun i => needs.length - i) 0 ⟨by omega, by simp⟩ (Ent.chk (by simp [go_sem])) ?_
          rintro i ⟨hi, ha⟩
          by_cases hil : i < needs.length
          · have hil' : (i : Int) < needs.length := by omega
            have hw : IntKind.i64.wrap ((i : Int) + 1) = (i : Int) + 1 := by rw [i64w] <;> omega
            obtain ⟨n, hx2⟩ : ∃ x, needs[i]? = some x := ⟨_, List.getElem?_eq_getElem hil⟩
            simp [go_sem, hil, hil', hx2, gE hx2]
            refine OpW.fn true (findJ_c l n hso (by omega)) rfl rfl (by simp [go_sem]) (by rintro _ r rfl; simp [go_sem]) ?_
            rintro r rfl
            cases hat : isAtJ l n with
            | false =>
              have hnall : ¬ ∀ x ∈ needs, isAtJ l x = true := fun h => by have := h n (List.mem_of_getElem? hx2); rw [hat] at this; cases this
              simp [go_sem, hnall]
            | true =>
              simp [go_sem]
              exact ⟨i + 1, ⟨by omega, fun m hm => by
                rw [List.take_succ_eq_append_getElem hil, gE hx2, List.mem_append, List.mem_singleton] at hm
                rcases hm with hm | rfl
                · exact ha m hm
                · exact hat⟩, by omega, Ent.chk (by simp [go_sem, hw])⟩
          · have hie : i = needs.length := by omega
            subst hie
            rw [List.take_length] at ha
            have hat := eq_true ha
            by_cases h64 : l.length = 64
            · have e : ((l.length : Int) == 64) = true := by simp; omega
              simp [go_sem, hat, h64, e]
            have e : ((l.length : Int) == 64) = false := by simp; omega
            by_cases hid2 : J.id = 1073741824
            · have e2 : (J.id == 1073741824) = true := by simpa using hid2
              simp [go_sem, hat, h64, e, hid2, e2]
            have e2 : (J.id == 1073741824) = false := by simpa using hid2
            have hwj : IntKind.i64.wrap (J.id + 1) = J.id + 1 := by rw [i64w] <;> omega
            simp [go_sem, hat, h64, e, hid2, e2, hwj]
            refine DrawW.rdN [91, 92] (by simp [go_sem]) rfl ?_
            simp [go_sem]
            refine OpD.call false (CloneS_c needs hn) rfl rfl (by simp [go_sem]) (fun h => by cases h) (by simp [go_sem]) (by simp [go_sem]) ?_
            simp [go_sem]
            refine OpD.buildS rfl rfl (by simp [go_sem]) (by simp [go_sem]; rfl) (by simp [go_sem]; rfl) (by simp [go_sem]; rfl) (by simp [go_sem]) ?_
            simp [go_sem]
            refine OpD.bslice rfl rfl (by simp [go_sem]) (by simp [go_sem]) (by simp [go_sem]; rfl) (by simp [go_sem]; rfl) (by simp [go_sem]) (by simp [go_sem]) (by decide) (by simp [go_sem]) (by simp [go_sem]; rfl) ?_
            simp [go_sem]
            refine OpD.append (t := 19) (xs := l.map jobSV) (ys := [jobSV ⟨J.id + 1, s, needs, 0, now, 0, 0⟩]) rfl rfl (by simp [go_sem]) (by simp [go_sem]) (by simp [go_sem]; rfl) (by simp [go_sem]; rfl) (by simp [go_sem]) (by simp [go_sem]) (by simp [go_sem]) (by simp [go_sem]) (by simp [go_sem]; rfl) (by simp [go_sem]) (by simp [go_sem]) (by simp [go_sem]; omega) ?_
            simp [go_sem]
            show _ = true
            kernel_rfl
set_option maxHeartbeats 8000000 in
set_option maxRecDepth 100000 in
theorem qAddN_c (s : Spec) (needs : List Int) (now : Int) (hs : s.tag.size ≤ 140737488351232) (hn : needs.length ≤ 140737488355) :
    ACalls Try.prog 22 [jobs [], specSV s, ints needs, iv now] (· = .many [.sv (jobs (addQ [] s needs now).1), .sv (iv (addQ [] s needs now).2.1), .sv (iv (addQ [] s needs now).2.2)]) := by
  refine ACalls.of_bodyS (fun _ _ => Try.call22 _ _) Try.func22 rfl Try.ntmps22 (by simp) ?_
  refine Tr.ex ?_
  have hq : isQ [] = true := rfl
  have hh : Jobs [] := fun j hj => by cases hj
  have hlJ : lastJ [] = noJ := rfl
  unfold addQ
  simp [go_sem, hq, hlJ, noJ]
  refine OpW.fn false (cloneJ_c [] (by simp) hh) rfl rfl (by simp [go_sem]) (fun h => by cases h) ?_
  rintro r rfl
  simp [go_sem]
  refine OpW.fn true (qRight_c [] (by simp) hh) rfl rfl (by simp [go_sem]) (by rintro _ r rfl; simp [go_sem]) ?_
  rintro r rfl
  rw [hq]
  have hso := q_sorted hq
  simp [go_sem]
  refine OpW.fn true (sRight_c s (by omega)) rfl rfl (by simp [go_sem]) (by rintro _ r rfl; simp [go_sem]) ?_
  rintro r rfl
  cases hsp : isSpec s with
  | false => simp [go_sem]
  | true =>
    simp [go_sem]
    refine OpW.fn true (rising_c needs (by omega)) rfl rfl (by simp [go_sem]) (by rintro _ r rfl; simp [go_sem]) ?_
    rintro r rfl
    cases hr : risingB needs with
    | false => simp [go_sem]
    | true =>
      simp [go_sem]
      refine OpW.fn true (wRight_c now) rfl rfl (by simp [go_sem]) (by rintro _ r rfl; simp [go_sem]) ?_
      rintro r rfl
      cases hwn : isWhen now with
      | false => simp [go_sem]
      | true =>
        have hwn2 : 0 ≤ now ∧ now ≤ 4611686018427387904 := by unfold isWhen at hwn; simpa using hwn
        have c1 : ¬ now < 0 := by omega
        have c1' : 0 ≤ now := by omega
        simp [go_sem, c1, c1']
        refine LoopW.of (fun i : Nat => ⟨94, [(0, .sv (jobs [])), (2, .sv (ints needs)), (3, .sv (iv now)), (5, .box 5 0), (8, .nil), (9, .sv (iv 0)), (10, .sv (iv 0)), (11, .own 19), (12, .box 12 0), (55, .sv (ints needs)), (56, .sv (iv needs.length)), (57, .sv (iv i))], [(5, .box ((specCells s).map .sv)), (12, .box ((jobCells noJ).map .sv)), (19, .row 13 [])]⟩)
          (fun i => i ≤ needs.length ∧ ∀ n ∈ needs.take i, isAtJ [] n = true) (fun i => needs.length - i) 0 ⟨by omega, by simp⟩ (Ent.chk (by simp [go_sem, noJ])) ?_
        rintro i ⟨hi, ha⟩
        by_cases hil : i < needs.length
        · have hil' : (i : Int) < needs.length := by omega
          have hw : IntKind.i64.wrap ((i : Int) + 1) = (i : Int) + 1 := by rw [i64w] <;> omega
          obtain ⟨n, hx2⟩ : ∃ x, needs[i]? = some x := ⟨_, List.getElem?_eq_getElem hil⟩
          simp [go_sem, hil, hil', hx2, gE hx2, noJ]
          refine OpW.fn true (findJ_c [] n hso (by simp)) rfl rfl (by simp [go_sem]) (by rintro _ r rfl; simp [go_sem]) ?_
          rintro r rfl
          cases hat : isAtJ [] n with
          | false =>
            have hnall : ¬ ∀ x ∈ needs, isAtJ [] x = true := fun h => by have := h n (List.mem_of_getElem? hx2); rw [hat] at this; cases this
            simp [go_sem, hnall, noJ]
          | true =>
            simp [go_sem]
            exact ⟨i + 1, ⟨by omega, fun m hm => by
              rw [List.take_succ_eq_append_getElem hil, gE hx2, List.mem_append, List.mem_singleton] at hm
              rcases hm with hm | rfl
              · exact ha m hm
              · exact hat⟩, by omega, Ent.chk (by simp [go_sem, hw, noJ])⟩
        · have hie : i = needs.length := by omega
          subst hie
          rw [List.take_length] at ha
          have hat := eq_true ha
          simp [go_sem, hat, noJ]
          refine DrawW.rdN [91, 92] (by simp [go_sem]) rfl ?_
          simp [go_sem]
          refine OpD.call false (CloneS_c needs hn) rfl rfl (by simp [go_sem]) (fun h => by cases h) (by simp [go_sem]) (by simp [go_sem]) ?_
          simp [go_sem]
          refine OpD.buildS rfl rfl (by simp [go_sem]) (by simp [go_sem]; rfl) (by simp [go_sem]; rfl) (by simp [go_sem]; rfl) (by simp [go_sem]) ?_
          simp [go_sem]
          refine OpD.bslice rfl rfl (by simp [go_sem]) (by simp [go_sem]) (by simp [go_sem]; rfl) (by simp [go_sem]; rfl) (by simp [go_sem]) (by simp [go_sem]) (by decide) (by simp [go_sem]) (by simp [go_sem]; rfl) ?_
          simp [go_sem]
          refine OpD.append (t := 19) (xs := []) (ys := [jobSV ⟨1, s, needs, 0, now, 0, 0⟩]) rfl rfl (by simp [go_sem]) (by simp [go_sem]) (by simp [go_sem]; rfl) (by simp [go_sem]; rfl) (by simp [go_sem]) (by simp [go_sem]) (by simp [go_sem]) (by simp [go_sem]) (by simp [go_sem]; rfl) (by simp [go_sem]) (by simp [go_sem]) (by simp [go_sem]) ?_
          simp [go_sem]
          show _ = true
          kernel_rfl
theorem qAdd_c (l : List Job) (s : Spec) (needs : List Int) (now : Int) (hl : l.length ≤ 1000000000) (hh : Jobs l) (hs : s.tag.size ≤ 140737488351232) (hn : needs.length ≤ 140737488355) :
    ACalls Try.prog 22 [jobs l, specSV s, ints needs, iv now] (· = .many [.sv (jobs (addQ l s needs now).1), .sv (iv (addQ l s needs now).2.1), .sv (iv (addQ l s needs now).2.2)]) := by
  cases l with
  | nil => exact qAddN_c s needs now hs hn
  | cons j r => exact qAddP_c (j :: r) s needs now (by simp) hl hh hs hn
def doQ (l : List Job) (id w now : Int) : List Job × Int :=
  if isQ l = true then (if isAtJ l id = true then (l.set (lowJ l id) (doJ (jb l (lowJ l id)) w now).1, (doJ (jb l (lowJ l id)) w now).2) else (l, 6)) else (l, 1)
set_option maxHeartbeats 8000000 in
set_option maxRecDepth 100000 in
theorem qDo_c (l : List Job) (id w now : Int) (hl : l.length ≤ 1000000000) (hh : Jobs l) : ACalls Try.prog 23 [jobs l, iv id, iv w, iv now] (· = .many [.sv (jobs (doQ l id w now).1), .sv (iv (doQ l id w now).2)]) := by
  refine ACalls.of_bodyS (fun _ _ => Try.call23 _ _) Try.func23 rfl Try.ntmps23 (by simp) ?_
  refine Tr.ex ?_
  unfold doQ
  simp [go_sem]
  refine OpW.fn false (cloneJ_c l hl hh) rfl rfl (by simp [go_sem]) (fun h => by cases h) ?_
  rintro r rfl
  simp [go_sem]
  refine OpW.fn true (qRight_c l (by omega) hh) rfl rfl (by simp [go_sem]) (by rintro _ r rfl; simp [go_sem]) ?_
  rintro r rfl
  cases hq : isQ l with
  | false => simp [go_sem]
  | true =>
    have hso := q_sorted hq
    have hle := q_len hq
    simp [go_sem]
    refine OpW.fn true (findJ_c l id hso (by omega)) rfl rfl (by simp [go_sem]) (by rintro _ r rfl; simp [go_sem]) ?_
    rintro r rfl
    cases hat : isAtJ l id with
    | false => simp [go_sem]
    | true =>
      obtain ⟨hlt, hx, hid⟩ := isAtJ_get hso hat
      have hlt' : (lowJ l id : Int) < l.length := by omega
      have hjw := hh _ (List.mem_of_getElem? hx)
      generalize jb l (lowJ l id) = j at *
      generalize lowJ l id = m at *
      simp [go_sem, hlt, hlt', hx, gE hx]
      refine OpW.fn false (jDo_c j w now hjw) rfl rfl (by simp [go_sem]) (fun h => by cases h) ?_
      rintro r rfl
      generalize (doJ j w now).2 = e
      generalize (doJ j w now).1 = j'
      have hs : (l.set m j').map jobSV = (l.map jobSV).set m (jobSV j') := by rw [List.map_set]
      simp only [jobSV, jobCells, iv, sv', bv, ints] at hs
      simp [go_sem, hlt, hlt']
end Go.Proofs.Ytnkcenafpigmbaa.Ab

namespace Go.Proofs.Ytnkcenafpigmbaa.Ab
open Go.RowKit
set_option linter.unusedVariables false
set_option linter.unusedSimpArgs false

def aS : Spec := ⟨1, 1, 0, ⟨#[]⟩, false, 1, 0⟩
def aJ1 : Job := ⟨1, aS, [], 0, 0, 0, 0⟩
def aJ2 : Job := ⟨2, aS, [1], 0, 0, 0, 0⟩
def aJ3 : Job := ⟨1, aS, [], 5, 0, 0, 1⟩
attribute [go_sem] aS aJ1 aJ2 aJ3
theorem aw1 : addQ [] aS [] 0 = ([aJ1], 1, 0) := by kernel_rfl
theorem aw2 : addQ [aJ1] aS [1] 0 = ([aJ1, aJ2], 2, 0) := by kernel_rfl
theorem aw3 : doQ [aJ1, aJ2] 1 6 1 = ([aJ3, aJ2], 0) := by kernel_rfl
theorem aw4 : lostL [aJ3, aJ2] = [2] := by kernel_rfl
theorem aw5 : readyL [aJ3, aJ2] = [] := by kernel_rfl
theorem aw6 : countsL [aJ3, aJ2] = [1, 0, 0, 0, 0, 1, 0] := by kernel_rfl
theorem aw_jobs {l : List Job} (h : ∀ j ∈ l, j = aJ1 ∨ j = aJ2 ∨ j = aJ3) : Jobs l := fun j hj => by
  rcases h j hj with rfl | rfl | rfl <;> exact ⟨by decide, by decide⟩
set_option maxHeartbeats 8000000 in
set_option maxRecDepth 100000 in
theorem awake12_c : ACalls Try.prog 11 [] (· = .one (.sv (bv true))) := by
  refine ACalls.of_bodyS (fun _ _ => Try.call11 _ _) Try.func11 rfl Try.ntmps11 (by simp) ?_
  refine Tr.ex ?_
  have f1 := qAdd_c [] aS [] 0 (by simp) (fun j hj => by cases hj) (by decide) (by simp)
  have f2 := qAdd_c [aJ1] aS [1] 0 (by simp) (aw_jobs (by simp)) (by decide) (by simp)
  have f3 := qDo_c [aJ1, aJ2] 1 6 1 (by simp) (aw_jobs (by simp))
  have f4 := qLost_c [aJ3, aJ2] (by simp) (aw_jobs (by simp))
  have f5 := qReady_c [aJ3, aJ2] (by simp) (aw_jobs (by simp))
  have f6 := qCounts_c [aJ3, aJ2] (by simp) (aw_jobs (by simp))
  rw [aw1] at f1
  rw [aw2] at f2
  rw [aw3] at f3
  rw [aw4] at f4
  rw [aw5] at f5
  rw [aw6] at f6
  simp [go_sem]
  refine OpW.fn false f1 rfl rfl (by simp [go_sem]) (fun h => by cases h) ?_
  rintro r rfl
  simp [go_sem]
  refine OpW.frz 18 (OpW.goQ ?_)
  simp [go_sem]
  refine OpW.fn false f2 rfl rfl (by simp [go_sem]) (fun h => by cases h) ?_
  rintro r rfl
  simp [go_sem]
  refine OpW.fn false f3 rfl rfl (by simp [go_sem]) (fun h => by cases h) ?_
  rintro r rfl
  simp [go_sem]
  refine OpW.fn false f4 rfl rfl (by simp [go_sem]) (fun h => by cases h) ?_
  rintro r rfl
  simp [go_sem]
  refine OpW.fn true (Same_c [2] [2] (by simp) (by simp)) rfl rfl (by simp [go_sem]) (by rintro _ r rfl; simp [go_sem]) ?_
  rintro r rfl
  simp [go_sem]
  refine OpW.fn false f5 rfl rfl (by simp [go_sem]) (fun h => by cases h) ?_
  rintro r rfl
  simp [go_sem]
  refine OpW.fn false f6 rfl rfl (by simp [go_sem]) (fun h => by cases h) ?_
  rintro r rfl
  simp [go_sem]
end Go.Proofs.Ytnkcenafpigmbaa.Ab
