/- The reference's Ready; are two jobs, two queues, the same? queue: Add, Do; job.Do. -/
import Derived.Test.YtnkcenafpigmbaaQu5
namespace Go.Proofs.Ytnkcenafpigmbaa.Ab
open Go.RowKit
set_option linter.unusedVariables false
set_option linter.unusedSimpArgs false

theorem readyJ_sorted {l : List Job} (hs : sortedJ l) : (readyJ l).Pairwise (aheadJ fun j => j.spec.prio) := by
  unfold readyJ
  refine srt_sorted ?_ (fun a b c => aheadJ_trans)
  refine (hs.sublist List.filter_sublist).imp fun {a b} h => ?_
  unfold ltC cmpI aheadJ
  constructor
  · intro h2
    have h2 := of_decide_eq_true h2
    left
    simp only at h2 ⊢
    split at h2
    · omega
    · split at h2 <;> omega
  · intro h2
    have h2 := of_decide_eq_false h2
    simp only at h2 ⊢
    split at h2
    · omega
    · omega
theorem readyJ_perm (l : List Job) : (readyJ l).Perm (l.filter (readyB l)) := srt_perm _ _
set_option maxHeartbeats 8000000 in
set_option maxRecDepth 100000 in
theorem r12Ready_c (l : List Job) (hl : l.length ≤ 1000000000) (hh : Jobs l) : ACalls Try.prog 16 [jobs l] (· = .one (.sv (ints (readyL l)))) := by
  refine ACalls.of_bodyS (fun _ _ => Try.call16 _ _) Try.func16 rfl Try.ntmps16 (by simp) ?_
  refine Tr.ex ?_
  unfold readyL
  simp [go_sem]
  refine OpW.fn true (r12Right_c l (by omega) hh) rfl rfl (by simp [go_sem]) (by rintro _ r rfl; simp [go_sem]) ?_
  rintro r rfl
  cases hq : isQ l with
  | false => simp [go_sem]
  | true =>
    have hle := q_len hq
    have hso := q_sorted hq
    have hR := readyJ_sorted hso
    have hP := readyJ_perm l
    have hRl : (readyJ l).length ≤ l.length := by rw [hP.length_eq]; exact List.length_filter_le _ _
    have hn0 : (0 : Int) ≤ l.length := by omega
    have ht0 : (toldJ l (readyJ l) 0).map bv = List.replicate l.length (SV.val (Value.bool false)) := by unfold toldJ; simp [List.map_const', bv]
    generalize readyJ l = R at *
    simp [go_sem, hn0]
    refine ⟨by omega, ?_⟩
    refine LoopW.of (fun m : Nat => ⟨66, [(0, .sv (jobs l)), (2, .nil), (3, .own 3), (4, .own 12)], [(3, .row 1 (((R.take m).map (·.id)).map iv)), (12, .row 1 ((toldJ l R m).map bv))]⟩)
      (fun m => m ≤ R.length) (fun m => R.length - m) 0 (by omega) (Ent.thaw 3 3 1 (by simp [go_sem]) (by simp [go_sem]) (by decide) (Ent.chk (by simp [go_sem, ht0]))) ?_
    intro m hm
    simp [go_sem]
    refine LoopW.of (fun z : Nat × Int => ⟨66, [(0, .sv (jobs l)), (2, .nil), (3, .own 3), (4, .own 12), (5, .sv (iv z.2)), (6, .sv (iv z.1))], [(3, .row 1 (((R.take m).map (·.id)).map iv)), (12, .row 1 ((toldJ l R m).map bv))]⟩)
      (fun z => z.1 ≤ l.length ∧ bestJ l R (fun j => j.spec.prio) (readyB l) m z.1 z.2) (fun z => l.length - z.1) (0, -1) ⟨by simp, bestJ_zero m⟩ (Ent.chk (by simp [go_sem])) ?_
    rintro ⟨i, b⟩ ⟨hi, hb⟩
    simp only at hi hb ⊢
    have htl := toldJ_len (l := l) (R := R) m
    by_cases hlt : i < l.length
    · have hlt' : (i : Int) < l.length := by omega
      have hw : IntKind.i64.wrap ((i : Int) + 1) = (i : Int) + 1 := by rw [i64w] <;> omega
      obtain ⟨j, hx⟩ : ∃ h, l[i]? = some h := ⟨_, List.getElem?_eq_getElem hlt⟩
      have htd : (toldJ l R m)[i]? = some (decide (j.id ∈ (R.take m).map (·.id))) := by unfold toldJ; rw [List.getElem?_map, hx]; rfl
      have hleft : leftJ l R (readyB l) m i ↔ readyB l j = true ∧ j.id ∉ (R.take m).map (·.id) := ⟨fun ⟨y, h1, h2⟩ => by rw [hx] at h1; cases h1; exact h2, fun h => ⟨j, hx, h⟩⟩
      have hskip := bestJ_skip hb
      have htake := bestJ_take hso hb hx
      have hkeep := bestJ_keep hso hb hx
      have hget := bestJ_get hb
      generalize hT : toldJ l R m = T at *
      generalize hO : (R.take m).map (·.id) = O at *
      have hlt2 : i < T.length := by omega
      have hlt2' : (i : Int) < T.length := by omega
      simp [go_sem, hlt, hlt']
      refine DrawW.rd rfl ?_
      by_cases c1 : j.id ∈ O
      · have hn := hskip (fun h => (hleft.1 h).2 c1)
        have hd : decide (j.id ∈ O) = true := by simpa using c1
        rw [hd] at htd
        simp [go_sem, hlt2, hlt2', htd, gE htd]
        refine ⟨by kernel_rfl, ?_⟩
        exact ⟨i + 1, b, ⟨by omega, hn⟩, by omega, Ent.chk (by simp [go_sem, hw, hT, hO])⟩
      have hd : decide (j.id ∈ O) = false := by simpa using c1
      rw [hd] at htd
      simp [go_sem, hlt2, hlt2', htd, gE htd, hlt, hlt', hx, gE hx]
      refine OpD.call false (isReady_c l (by omega) hq i j hx) rfl rfl (by simp [go_sem]) (fun h => by cases h) (by simp [go_sem]) (by simp [go_sem]) ?_
      cases hr : readyB l j with
      | false =>
        have hn := hskip (fun h => by have := (hleft.1 h).1; rw [hr] at this; cases this)
        simp [go_sem]
        refine ⟨by kernel_rfl, ?_⟩
        exact ⟨i + 1, b, ⟨by omega, hn⟩, by omega, Ent.chk (by simp [go_sem, hw, hT, hO])⟩
      | true =>
        have hlf := hleft.2 ⟨hr, c1⟩
        by_cases c2 : b < 0
        · have hn := htake hlf (.inl c2)
          simp [go_sem, c2]
          refine ⟨by kernel_rfl, ?_⟩
          exact ⟨i + 1, i, ⟨by omega, hn⟩, by omega, Ent.chk (by simp [go_sem, hw, hT, hO])⟩
        · obtain ⟨k, x, rfl, hk, hxk⟩ := hget c2
          have hkl : k < l.length := by omega
          have hkl' : (k : Int) < l.length := by omega
          by_cases c3 : x.spec.prio < j.spec.prio
          · have hn := htake hlf (.inr ⟨x, by simpa using hxk, c3⟩)
            simp [go_sem, c2, hlt, hlt', hx, gE hx, hkl, hkl', hxk, gE hxk, c3]
            refine ⟨by kernel_rfl, ?_⟩
            exact ⟨i + 1, i, ⟨by omega, hn⟩, by omega, Ent.chk (by simp [go_sem, hw, hT, hO])⟩
          · have hn := hkeep c2 (fun y hy => by
              rw [Int.toNat_natCast, hxk] at hy
              cases hy
              exact c3)
            simp [go_sem, c2, hlt, hlt', hx, gE hx, hkl, hkl', hxk, gE hxk, c3]
            refine ⟨by kernel_rfl, ?_⟩
            exact ⟨i + 1, k, ⟨by omega, hn⟩, by omega, Ent.chk (by simp [go_sem, hw, hT, hO])⟩
    · have hil : i = l.length := by omega
      subst hil
      by_cases c : b < 0
      · have hm2 := bestJ_none hso hP hR hb c
        have e : R.take m = R := List.take_of_length_le hm2
        rw [e]
        simp [go_sem, c]
      · obtain ⟨k, x, rfl, hk, hxk⟩ := bestJ_get hb c
        have hRm := bestJ_next hso hP hR hb hxk
        have hmlt := (List.getElem?_eq_some_iff.1 hRm).1
        have hset := toldJ_set hso hxk hRm
        have hset2 := congrArg (List.map bv) hset
        rw [List.map_set] at hset2
        simp only [bv] at hset2
        have htk : ((R.take (m + 1)).map (·.id)).map iv = ((R.take m).map (·.id)).map iv ++ [SV.val (Value.int .i64 x.id)] := by rw [List.take_succ_eq_append_getElem hmlt, gE hRm]; simp [iv]
        generalize hT : toldJ l R m = T at *
        generalize hT' : toldJ l R (m + 1) = T' at *
        generalize hO : (R.take m).map (·.id) = O at *
        generalize hO' : (R.take (m + 1)).map (·.id) = O' at *
        have hkT : k < T.length := by omega
        have hkT' : (k : Int) < T.length := by omega
        have hkl' : (k : Int) < l.length := by omega
        have hOl : O.length ≤ m := by rw [← hO, List.length_map, List.length_take]; omega
        have hO2 : List.take (m + 1) (List.map (iv ∘ fun x => x.id) R) = O'.map iv := by rw [← hO', List.map_map, List.map_take]
        simp [go_sem, c, hk, hkl', hkT, hkT', hxk, gE hxk]
        exact ⟨by omega, m + 1, by omega, by omega, Ent.rename2 65 3 (by simp [go_sem]) (Ent.chk (by simp [go_sem, hT', hO', hO2, hset2, htk]))⟩
/-! ### Same -/
def specB (a b : Spec) : Bool := a.nodes == b.nodes && (a.cores == b.cores && (a.gpus == b.gpus && (a.tag.toList == b.tag.toList && (a.whole == b.whole && (a.long == b.long && a.prio == b.prio)))))
theorem bytes_eq {a b : ByteArray} (h : a.toList = b.toList) : a = b := by
  rw [ByteArray.toList_eq, ByteArray.toList_eq] at h
  obtain ⟨x⟩ := a
  obtain ⟨y⟩ := b
  congr 1
  exact Array.ext' h
theorem specB_iff {a b : Spec} : specB a b = true ↔ a = b := by
  cases a; cases b
  unfold specB
  simp only [Bool.and_eq_true, beq_iff_eq, Spec.mk.injEq, and_true]
  constructor
  · rintro ⟨h1, h2, h3, h4, h5, h6, h7⟩; exact ⟨h1, h2, h3, bytes_eq h4, h5, h6, h7⟩
  · rintro ⟨h1, h2, h3, h4, h5, h6, h7⟩; exact ⟨h1, h2, h3, by rw [h4], h5, h6, h7⟩
def jobB (a b : Job) : Bool := decide (a.id = b.id) && specB a.spec b.spec && decide (a.state = b.state) && decide (a.added = b.added) && decide (a.began = b.began) && decide (a.ended = b.ended) && decide (a.after = b.after)
theorem jobB_iff {a b : Job} : jobB a b = true ↔ a = b := by
  cases a; cases b
  unfold jobB
  simp only [Bool.and_eq_true, decide_eq_true_eq, specB_iff, Job.mk.injEq]
  constructor
  · rintro ⟨⟨⟨⟨⟨⟨h1, h2⟩, h3⟩, h4⟩, h5⟩, h6⟩, h7⟩; exact ⟨h1, h2, h7, h3, h4, h5, h6⟩
  · rintro ⟨h1, h2, h7, h3, h4, h5, h6⟩; exact ⟨⟨⟨⟨⟨⟨h1, h2⟩, h3⟩, h4⟩, h5⟩, h6⟩, h7⟩
instance : DecidableEq Job := fun a b => decidable_of_iff (jobB a b = true) jobB_iff
instance : DecidableEq Spec := fun a b => decidable_of_iff (specB a b = true) specB_iff
set_option maxHeartbeats 8000000 in
set_option maxRecDepth 100000 in
theorem r11Same_c (a b : Job) (ha : a.after.length ≤ 140737488355328) (hb : b.after.length ≤ 140737488355328) : ACalls Try.prog 25 [jobSV a, jobSV b] (· = .one (.sv (bv (decide (a = b))))) := by
  refine ACalls.of_bodyS (fun _ _ => Try.call25 _ _) Try.func25 rfl Try.ntmps25 (by simp) ?_
  refine Tr.ex ?_
  have hd : decide (a = b) = jobB a b := by rw [Bool.eq_iff_iff, jobB_iff]; simp
  rw [hd]
  unfold jobB
  by_cases h1 : a.id = b.id
  case neg =>
    have e1 : (a.id == b.id) = false := by simpa using h1
    simp [go_sem, h1, e1]
  have e1 : (a.id == b.id) = true := by simpa using h1
  have d1 : decide (a.id = b.id) = true := by simpa using h1
  cases h2 : specB a.spec b.spec with
  | false =>
    unfold specB at h2
    simp [go_sem, e1, h2]
  | true =>
    unfold specB at h2
    by_cases h3 : a.state = b.state
    case neg =>
      have e3 : (a.state == b.state) = false := by simpa using h3
      simp [go_sem, e1, h2, h3, e3]
    have e3 : (a.state == b.state) = true := by simpa using h3
    have d3 : decide (a.state = b.state) = true := by simpa using h3
    by_cases h4 : a.added = b.added
    case neg =>
      have e4 : (a.added == b.added) = false := by simpa using h4
      simp [go_sem, e1, h2, e3, h4, e4]
    have e4 : (a.added == b.added) = true := by simpa using h4
    have d4 : decide (a.added = b.added) = true := by simpa using h4
    by_cases h5 : a.began = b.began
    case neg =>
      have e5 : (a.began == b.began) = false := by simpa using h5
      simp [go_sem, e1, h2, e3, e4, h5, e5]
    have e5 : (a.began == b.began) = true := by simpa using h5
    have d5 : decide (a.began = b.began) = true := by simpa using h5
    by_cases h6 : a.ended = b.ended
    case neg =>
      have e6 : (a.ended == b.ended) = false := by simpa using h6
      simp [go_sem, e1, h2, e3, e4, e5, h6, e6]
    have e6 : (a.ended == b.ended) = true := by simpa using h6
    have d6 : decide (a.ended = b.ended) = true := by simpa using h6
    rw [d1, d3, d4, d5, d6]
    simp only [Bool.true_and]
    simp [go_sem, e1, h2, e3, e4, e5, e6]
    refine OpW.fn true (Same_c a.after b.after ha hb) rfl rfl (by simp [go_sem]) (by rintro _ r rfl; simp [go_sem]) ?_
    rintro r rfl
    simp [go_sem]
theorem sameJ_c (a b : List Job) (ha : a.length ≤ 140737488355328) (hb : b.length ≤ 140737488355328) (ta : Jobs a) (tb : Jobs b) : ACalls Try.prog 26 [jobs a, jobs b] (· = .one (.sv (bv (decide (a = b))))) := by
  refine ACalls.of_bodyS (fun _ _ => Try.call26 _ _) Try.func26 rfl Try.ntmps26 (by simp) ?_
  refine Tr.ex ?_
  by_cases hlen : a.length = b.length
  case neg =>
    have h1 : ¬ a = b := fun h => hlen (by rw [h])
    have e1 : ((a.length : Int) == b.length) = false := by simp; omega
    simp [go_sem, bne, e1, h1, hlen]
  have e1 : ((a.length : Int) == b.length) = true := by simp [hlen]
  simp [go_sem, bne, e1, hlen]
  refine LoopW.of (fun i : Nat => ⟨27, [(0, .sv (jobs a)), (1, .sv (jobs b)), (4, .sv (bv false)), (5, .sv (iv i))], []⟩)
    (fun i => i ≤ a.length ∧ a.take i = b.take i) (fun i => a.length - i) 0 ⟨by omega, by simp⟩ (Ent.chk (by simp [go_sem])) ?_
  rintro i ⟨hi, ht⟩
  by_cases hlt : i < a.length
  · have hlt' : (i : Int) < a.length := by omega
    have hltb : i < b.length := by omega
    have hltb' : (i : Int) < b.length := by omega
    have hw : IntKind.i64.wrap ((i : Int) + 1) = (i : Int) + 1 := by rw [i64w] <;> omega
    obtain ⟨x, hx⟩ : ∃ h, a[i]? = some h := ⟨_, List.getElem?_eq_getElem hlt⟩
    obtain ⟨y, hy⟩ : ∃ h, b[i]? = some h := ⟨_, List.getElem?_eq_getElem hltb⟩
    have hxl := (ta x (List.mem_of_getElem? hx)).2
    have hyl := (tb y (List.mem_of_getElem? hy)).2
    have h1 := r11Same_c x y (by omega) (by omega)
    simp [go_sem, hlt', hlen.symm]
    refine DrawW.rd rfl ?_
    simp [go_sem, hlt, hlt', hltb, hltb', hx, gE hx, hy, gE hy]
    refine OpD.call false h1 rfl rfl (by simp [go_sem]) (fun h => by cases h) (by simp [go_sem]) (by simp [go_sem]) ?_
    by_cases e : x = y
    · simp [go_sem, e]
      refine ⟨by kernel_rfl, ?_⟩
      exact ⟨i + 1, ⟨by omega, by rw [List.take_succ_eq_append_getElem hlt, List.take_succ_eq_append_getElem hltb, gE hx, gE hy, ht, e]⟩, by omega, Ent.chk (by simp [go_sem, hw])⟩
    · have hne : ¬ a = b := fun h => e (by rw [h] at hx; rw [hx] at hy; simpa using hy)
      simp [go_sem, e, hne]
      show _ = true
      kernel_rfl
  · have hil : i = a.length := by omega
    subst hil
    rw [List.take_length, hlen, List.take_length] at ht
    simp [go_sem, ht]
end Go.Proofs.Ytnkcenafpigmbaa.Ab

namespace Go.Proofs.Ytnkcenafpigmbaa.Ab
open Go.RowKit
set_option linter.unusedVariables false
set_option linter.unusedSimpArgs false

theorem CloneS_c (l : List Int) (hl : l.length ≤ 140737488355) : ACalls Try.prog 56 [ints l] (· = .one (.sv (ints l))) :=
  (ACalls.shr (Clone_c l hl)).mono fun r ⟨r0, h0, h1⟩ => by
    subst h1
    rcases h0 with ⟨rfl, rfl⟩ | rfl <;> rfl
/-- Do they rise from 1 on? -/
def upF (last : Int) : List Int → Bool
  | [] => true
  | x :: r => decide (last < x) && upF x r
theorem upF_cons (last x : Int) (r : List Int) : upF last (x :: r) = (decide (last < x) && upF x r) := rfl
def risingB (l : List Int) : Bool := upF 0 l && decide (l.length ≤ 16)
theorem rising_c (l : List Int) (hl : l.length ≤ 140737488355328) : ACalls Try.prog 54 [ints l] (· = .one (.sv (bv (risingB l)))) := by
  refine ACalls.of_bodyS (fun _ _ => Try.call54 _ _) Try.func54 rfl Try.ntmps54 (by simp) ?_
  refine Tr.ex ?_
  unfold risingB
  simp [go_sem]
  refine LoopW.of (fun z : Nat × Int => ⟨20, [(0, .sv (ints l)), (2, .sv (bv false)), (3, .sv (iv z.2)), (6, .sv (ints l)), (7, .sv (iv l.length)), (8, .sv (iv z.1))], []⟩)
    (fun z => z.1 ≤ l.length ∧ upF z.2 (l.drop z.1) = upF 0 l) (fun z => l.length - z.1) (0, 0) ⟨by simp, by simp⟩ (Ent.chk (by simp [go_sem])) ?_
  rintro ⟨i, last⟩ ⟨hi, hr⟩
  simp only at hi hr ⊢
  by_cases hlt : i < l.length
  · have hlt' : (i : Int) < l.length := by omega
    have hw : IntKind.i64.wrap ((i : Int) + 1) = (i : Int) + 1 := by rw [i64w] <;> omega
    obtain ⟨x, hx⟩ : ∃ x, l[i]? = some x := ⟨_, List.getElem?_eq_getElem hlt⟩
    have hdr : l.drop i = x :: l.drop (i + 1) := by rw [List.drop_eq_getElem_cons hlt, gE hx]
    rw [hdr, upF_cons] at hr
    by_cases c1 : x ≤ last
    · have : decide (last < x) = false := by simp; omega
      rw [this] at hr
      simp only [Bool.false_and] at hr
      rw [← hr]
      simp [go_sem, hlt, hlt', hx, gE hx, c1]
    · have e1 : decide (last < x) = true := by simp; omega
      rw [e1] at hr
      simp only [Bool.true_and] at hr
      simp [go_sem, hlt, hlt', hx, gE hx, c1]
      exact ⟨i + 1, x, ⟨by omega, hr⟩, by omega, Ent.chk (by simp [go_sem, hw])⟩
  · have hil : i = l.length := by omega
    subst hil
    rw [List.drop_length] at hr
    rw [← hr]
    simp [go_sem, upF]
    omega
/-- The state behind it. -/
def nextJ (s w : Int) : Int × Bool :=
  if s = 0 ∧ w = 1 then (1, true) else if s = 1 ∧ w = 2 then (0, true) else if s = 0 ∧ w = 3 then (2, true) else if s = 2 ∧ w = 4 then (3, true) else if s = 2 ∧ w = 5 then (4, true)
  else if s ≤ 2 ∧ w = 6 then (5, true) else if s < 2 ∧ w = 7 then (6, true) else (s, false)
set_option maxHeartbeats 4000000 in
set_option maxRecDepth 100000 in
theorem next_c (s w : Int) (h0 : 0 ≤ s) (h1 : s ≤ 6) (h2 : 1 ≤ w) (h3 : w ≤ 7) : ACalls Try.prog 82 [iv s, iv w] (· = .many [.sv (iv (nextJ s w).1), .sv (bv (nextJ s w).2)]) := by
  refine ACalls.of_bodyS (fun _ _ => Try.call82 _ _) Try.func82 rfl Try.ntmps82 (by simp) ?_
  refine Tr.ex ?_
  have hs : s = 0 ∨ s = 1 ∨ s = 2 ∨ s = 3 ∨ s = 4 ∨ s = 5 ∨ s = 6 := by omega
  have hw : w = 1 ∨ w = 2 ∨ w = 3 ∨ w = 4 ∨ w = 5 ∨ w = 6 ∨ w = 7 := by omega
  unfold nextJ
  rcases hs with rfl | rfl | rfl | rfl | rfl | rfl | rfl <;> rcases hw with rfl | rfl | rfl | rfl | rfl | rfl | rfl <;> simp [go_sem]
/-- What becomes of a job. -/
def doJ (j : Job) (w now : Int) : Job × Int :=
  if isJob j = true ∧ 1 ≤ w ∧ w ≤ 7 ∧ isWhen now = true ∧ j.added ≤ now ∧ j.began ≤ now then
    (if (nextJ j.state w).2 = true then ({ j with state := (nextJ j.state w).1, began := if (nextJ j.state w).1 = 2 then now else j.began, ended := if overB (nextJ j.state w).1 = true then now else j.ended }, 0) else (j, 8))
  else (j, 1)
set_option maxHeartbeats 8000000 in
set_option maxRecDepth 100000 in
theorem jDo_c (j : Job) (w now : Int) (hj : JobW j) : ACalls Try.prog 57 [jobSV j, iv w, iv now] (· = .many [.sv (jobSV (doJ j w now).1), .sv (iv (doJ j w now).2)]) := by
  refine ACalls.of_bodyS (fun _ _ => Try.call57 _ _) Try.func57 rfl Try.ntmps57 (by simp) ?_
  refine Tr.ex ?_
  unfold doJ
  simp [go_sem]
  refine OpW.fn false (CloneS_c j.after hj.2) rfl rfl (by simp [go_sem]) (fun h => by cases h) ?_
  rintro r rfl
  simp [go_sem]
  refine OpW.fn true (jRight_c j hj) rfl rfl (by simp [go_sem]) (by rintro _ r rfl; simp [go_sem]) ?_
  rintro r rfl
  cases h1 : isJob j with
  | false => simp [go_sem]
  | true =>
    have hst := job_state h1
    by_cases c1 : w < 1
    · have c1' : ¬ 1 ≤ w := by omega
      simp [go_sem, c1, c1']
    have c1' : 1 ≤ w := by omega
    by_cases c2 : 7 < w
    · have c2' : ¬ w ≤ 7 := by omega
      simp [go_sem, c1, c2, c2']
    have c2' : w ≤ 7 := by omega
    simp [go_sem, c1, c2, c1', c2']
    refine OpW.fn true (wRight_c now) rfl rfl (by simp [go_sem]) (by rintro _ r rfl; simp [go_sem]) ?_
    rintro r rfl
    cases h2 : isWhen now with
    | false => simp [go_sem]
    | true =>
      by_cases c3 : now < j.added ∨ now < j.began
      · have c4 : ¬ (j.added ≤ now ∧ j.began ≤ now) := by omega
        have c5 : now < (if j.added < j.began then j.began else j.added) := by split <;> omega
        simp [go_sem, c4, c5]
      · have c4 : j.added ≤ now ∧ j.began ≤ now := by omega
        have c5 : ¬ now < (if j.added < j.began then j.began else j.added) := by split <;> omega
        simp [go_sem, c4, c5]
        refine OpW.fn true (next_c j.state w hst.1 hst.2 c1' c2') rfl rfl (by simp [go_sem]) (by rintro _ r rfl; simp [go_sem]) ?_
        rintro r rfl
        cases h3 : (nextJ j.state w).2 with
        | false => simp [go_sem]
        | true =>
          have hO := Over_c (nextJ j.state w).1
          have hOb : overB (nextJ j.state w).1 = (decide (3 ≤ (nextJ j.state w).1) && decide ((nextJ j.state w).1 ≤ 6)) := rfl
          rw [← hOb] at hO
          generalize (nextJ j.state w).1 = s at *
          by_cases c6 : s = 2
          · have c6' : (s == 2) = true := by simpa using c6
            have c7 : overB s = false := by rw [c6]; rfl
            rw [c7] at hO
            simp [go_sem, c6', c7]
            refine OpW.fn true hO rfl rfl (by simp [go_sem]) (by rintro _ r rfl; simp [go_sem]) ?_
            rintro r rfl
            simp [go_sem, c6]
          · have c6' : (s == 2) = false := by simpa using c6
            simp [go_sem, c6', c6]
            refine OpW.fn true hO rfl rfl (by simp [go_sem]) (by rintro _ r rfl; simp [go_sem]) ?_
            rintro r rfl
            cases c7 : overB s <;> simp [go_sem]
def lastJ (l : List Job) : Job := (l.getLast?).getD noJ
def addQ (l : List Job) (s : Spec) (needs : List Int) (now : Int) : List Job × Int × Int :=
  if isQ l = true ∧ isSpec s = true ∧ risingB needs = true ∧ isWhen now = true ∧ (lastJ l).added ≤ now then
    (if (needs.all fun n => isAtJ l n) = true then
      (if l.length = 64 then (l, 0, 5) else if (lastJ l).id = 1073741824 then (l, 0, 9) else (l ++ [⟨(lastJ l).id + 1, s, needs, 0, now, 0, 0⟩], (lastJ l).id + 1, 0))
    else (l, 0, 6))
  else (l, 0, 1)
theorem lastJ_id {l : List Job} (h : isQ l = true) : 0 ≤ (lastJ l).id ∧ (lastJ l).id ≤ 1073741824 := by
  unfold lastJ
  cases hl : l.getLast? with
  | none => simp [noJ]
  | some j =>
    have hm := List.mem_of_getLast? hl
    obtain ⟨i, hi⟩ := List.getElem?_of_mem hm
    have := (q_row h hi).1
    unfold isJob at this
    simp only [Bool.and_eq_true, decide_eq_true_eq] at this
    simp only [Option.getD_some]
    omega
end Go.Proofs.Ytnkcenafpigmbaa.Ab
