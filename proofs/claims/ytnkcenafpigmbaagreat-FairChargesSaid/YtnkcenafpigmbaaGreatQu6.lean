/- The reference's Ready; are two jobs, two queues, the same? queue: Add, Do; job.Do. -/
import Derived.Test.YtnkcenafpigmbaaGreatQu5
namespace Go.Proofs.YtnkcenafpigmbaaGreat.Ab
open Go.RowKit
set_option linter.unusedVariables false
set_option linter.unusedSimpArgs false

theorem readyJ_sorted {l : List Job} (hs : sortedJ l) : (readyJ l).Pairwise (aheadJ fun j => j.spec.prio) := by
  unfold readyJ
  refine srt_sorted ?_ (fun a b c => aheadJ_trans)
  refine (hs.sublist List.filter_sublist).imp fun {a b} h => ?_
  unfold ltC cmpI aheadJ
  constructor
  · intro h2
    have h2 := of_decide_eq_true h2
    left
    simp only at h2 ⊢
    split at h2
    · omega
    · split at h2 <;> omega
  · intro h2
    have h2 := of_decide_eq_false h2
    simp only at h2 ⊢
    split at h2
    · omega
    · omega
theorem readyJ_perm (l : List Job) : (readyJ l).Perm (l.filter (readyB l)) := srt_perm _ _
/-! ### Same -/
def specB (a b : Spec) : Bool := a.nodes == b.nodes && (a.cores == b.cores && (a.gpus == b.gpus && (a.tag.toList == b.tag.toList && (a.whole == b.whole && (a.long == b.long && a.prio == b.prio)))))
theorem bytes_eq {a b : ByteArray} (h : a.toList = b.toList) : a = b := by
  rw [ByteArray.toList_eq, ByteArray.toList_eq] at h
  obtain ⟨x⟩ := a
  obtain ⟨y⟩ := b
  congr 1
  exact Array.ext' h
theorem specB_iff {a b : Spec} : specB a b = true ↔ a = b := by
  cases a; cases b
  unfold specB
  simp only [Bool.and_eq_true, beq_iff_eq, Spec.mk.injEq, and_true]
  constructor
  · rintro ⟨h1, h2, h3, h4, h5, h6, h7⟩; exact ⟨h1, h2, h3, bytes_eq h4, h5, h6, h7⟩
  · rintro ⟨h1, h2, h3, h4, h5, h6, h7⟩; exact ⟨h1, h2, h3, by rw [h4], h5, h6, h7⟩
def jobB (a b : Job) : Bool := decide (a.id = b.id) && specB a.spec b.spec && decide (a.state = b.state) && decide (a.added = b.added) && decide (a.began = b.began) && decide (a.ended = b.ended) && decide (a.after = b.after)
theorem jobB_iff {a b : Job} : jobB a b = true ↔ a = b := by
  cases a; cases b
  unfold jobB
  simp only [Bool.and_eq_true, decide_eq_true_eq, specB_iff, Job.mk.injEq]
  constructor
  · rintro ⟨⟨⟨⟨⟨⟨h1, h2⟩, h3⟩, h4⟩, h5⟩, h6⟩, h7⟩; exact ⟨h1, h2, h7, h3, h4, h5, h6⟩
  · rintro ⟨h1, h2, h7, h3, h4, h5, h6⟩; exact ⟨⟨⟨⟨⟨⟨h1, h2⟩, h3⟩, h4⟩, h5⟩, h6⟩, h7⟩
instance : DecidableEq Job := fun a b => decidable_of_iff (jobB a b = true) jobB_iff
instance : DecidableEq Spec := fun a b => decidable_of_iff (specB a b = true) specB_iff
end Go.Proofs.YtnkcenafpigmbaaGreat.Ab

namespace Go.Proofs.YtnkcenafpigmbaaGreat.Ab
open Go.RowKit
set_option linter.unusedVariables false
set_option linter.unusedSimpArgs false

theorem CloneS_c (l : List Int) (hl : l.length ≤ 140737488355) : ACalls Tryz.prog 28 [ints l] (· = .one (.sv (ints l))) :=
  (ACalls.shr (Clone_c l hl)).mono fun r ⟨r0, h0, h1⟩ => by
    subst h1
    rcases h0 with ⟨rfl, rfl⟩ | rfl <;> rfl
/-- Do they rise from 1 on? -/
def upF (last : Int) : List Int → Bool
  | [] => true
  | x :: r => decide (last < x) && upF x r
theorem upF_cons (last x : Int) (r : List Int) : upF last (x :: r) = (decide (last < x) && upF x r) := rfl
def risingB (l : List Int) : Bool := upF 0 l && decide (l.length ≤ 16)
theorem rising_c (l : List Int) (hl : l.length ≤ 140737488355328) : ACalls Tryz.prog 25 [ints l] (· = .one (.sv (bv (risingB l)))) := by
  refine ACalls.of_bodyS (fun _ _ => Tryz.call25 _ _) Tryz.func25 rfl Tryz.ntmps25 (by simp) ?_
  refine Tr.ex ?_
  unfold risingB
  simp [go_sem]
  refine LoopW.of (fun z : Nat × Int => ⟨20, [(0, .sv (ints l)), (2, .sv (bv false)), (3, .sv (iv z.2)), (6, .sv (ints l)), (7, .sv (iv l.length)), (8, .sv (iv z.1))], []⟩)
    (fun z => z.1 ≤ l.length ∧ upF z.2 (l.drop z.1) = upF 0 l) (fun z => l.length - z.1) (0, 0) ⟨by simp, by simp⟩ (Ent.chk (by simp [go_sem])) ?_
  rintro ⟨i, last⟩ ⟨hi, hr⟩
  simp only at hi hr ⊢
  by_cases hlt : i < l.length
  · have hlt' : (i : Int) < l.length := by omega
    have hw : IntKind.i64.wrap ((i : Int) + 1) = (i : Int) + 1 := by rw [i64w] <;> omega
    obtain ⟨x, hx⟩ : ∃ x, l[i]? = some x := ⟨_, List.getElem?_eq_getElem hlt⟩
    have hdr : l.drop i = x :: l.drop (i + 1) := by rw [List.drop_eq_getElem_cons hlt, gE hx]
    rw [hdr, upF_cons] at hr
    by_cases c1 : x ≤ last
    · have : decide (last < x) = false := by simp; omega
      rw [this] at hr
      simp only [Bool.false_and] at hr
      rw [← hr]
      simp [go_sem, hlt, hlt', hx, gE hx, c1]
    · have e1 : decide (last < x) = true := by simp; omega
      rw [e1] at hr
      simp only [Bool.true_and] at hr
      simp [go_sem, hlt, hlt', hx, gE hx, c1]
      exact ⟨i + 1, x, ⟨by omega, hr⟩, by omega, Ent.chk (by simp [go_sem, hw])⟩
  · have hil : i = l.length := by omega
    subst hil
    rw [List.drop_length] at hr
    rw [← hr]
    simp [go_sem, upF]
    omega
/-- The state behind it. -/
def nextJ (s w : Int) : Int × Bool :=
  if s = 0 ∧ w = 1 then (1, true) else if s = 1 ∧ w = 2 then (0, true) else if s = 0 ∧ w = 3 then (2, true) else if s = 2 ∧ w = 4 then (3, true) else if s = 2 ∧ w = 5 then (4, true)
  else if s ≤ 2 ∧ w = 6 then (5, true) else if s < 2 ∧ w = 7 then (6, true) else (s, false)
/-- What becomes of a job. -/
def doJ (j : Job) (w now : Int) : Job × Int :=
  if isJob j = true ∧ 1 ≤ w ∧ w ≤ 7 ∧ isWhen now = true ∧ j.added ≤ now ∧ j.began ≤ now then
    (if (nextJ j.state w).2 = true then ({ j with state := (nextJ j.state w).1, began := if (nextJ j.state w).1 = 2 then now else j.began, ended := if overB (nextJ j.state w).1 = true then now else j.ended }, 0) else (j, 8))
  else (j, 1)
def lastJ (l : List Job) : Job := (l.getLast?).getD noJ
def addQ (l : List Job) (s : Spec) (needs : List Int) (now : Int) : List Job × Int × Int :=
  if isQ l = true ∧ isSpec s = true ∧ risingB needs = true ∧ isWhen now = true ∧ (lastJ l).added ≤ now then
    (if (needs.all fun n => isAtJ l n) = true then
      (if l.length = 64 then (l, 0, 5) else if (lastJ l).id = 1073741824 then (l, 0, 9) else (l ++ [⟨(lastJ l).id + 1, s, needs, 0, now, 0, 0⟩], (lastJ l).id + 1, 0))
    else (l, 0, 6))
  else (l, 0, 1)
theorem lastJ_id {l : List Job} (h : isQ l = true) : 0 ≤ (lastJ l).id ∧ (lastJ l).id ≤ 1073741824 := by
  unfold lastJ
  cases hl : l.getLast? with
  | none => simp [noJ]
  | some j =>
    have hm := List.mem_of_getLast? hl
    obtain ⟨i, hi⟩ := List.getElem?_of_mem hm
    have := (q_row h hi).1
    unfold isJob at this
    simp only [Bool.and_eq_true, decide_eq_true_eq] at this
    simp only [Option.getD_some]
    omega
end Go.Proofs.YtnkcenafpigmbaaGreat.Ab
