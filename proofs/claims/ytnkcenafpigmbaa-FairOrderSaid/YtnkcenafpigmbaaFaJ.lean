/- fair: what is short; what is always so of the order. -/
import Derived.Test.YtnkcenafpigmbaaFaI
namespace Go.Proofs.Ytnkcenafpigmbaa.Ab
open Go.RowKit Go.Proofs.Ytnkcenafpigmbaa.Fl
set_option linter.unusedVariables false
set_option linter.unusedSimpArgs false

def OwnedOk (o : Owned) : Prop := (Lit.int .i64 o.id).wf = true ∧ (Lit.int .i64 o.who).wf = true
theorem OwnedOk_mk {p : Int × Int × Unit} (h : (Lit.int .i64 p.1).wf = true ∧ (Lit.int .i64 p.2.1).wf = true ∧ True) : OwnedOk ⟨p.1, p.2.1⟩ := ⟨h.1, h.2.1⟩
theorem shortJ_jobs26 {l : List Job} (h : shortJ l = true) (hk : ∀ j ∈ l, JobOk j) : Jobs l := fun j hj => ⟨(hk j hj).2.1.2.2.2.1, by have := (shortJ_len h).2 j hj; omega⟩
def short26 (l : List Job) (ow : List Owned) (us : List Use) : Bool := shortJ l && decide (ow.length ≤ 30) && decide (us.length ≤ 30)
theorem short26_c (l : List Job) (ow : List Owned) (us : List Use) (hl : l.length ≤ 140737488355328) : ACalls Try.prog 28 [jobs l, owneds ow, uses us] (· = .one (.sv (bv (short26 l ow us)))) := by
  refine ACalls.of_bodyS (fun _ _ => Try.call28 _ _) Try.func28 rfl Try.ntmps28 (by simp) ?_
  refine Tr.ex ?_
  unfold short26
  simp [go_sem]
  refine OpW.fn true (r12Short_c l hl) rfl rfl (by simp [go_sem]) (by rintro _ r rfl; simp [go_sem]) ?_
  rintro r rfl
  cases hs : shortJ l with
  | false => simp [go_sem]
  | true =>
    by_cases c : ow.length ≤ 30
    · have c' : (ow.length : Int) ≤ 30 := by omega
      by_cases d : us.length ≤ 30
      · have d' : (us.length : Int) ≤ 30 := by omega
        simp [go_sem, c, c', d, d']
      · have d' : ¬ (us.length : Int) ≤ 30 := by omega
        simp [go_sem, c, c', d, d']
    · have c' : ¬ (ow.length : Int) ≤ 30 := by omega
      simp [go_sem, c, c']
theorem orderF_len (l : List Job) (ow : List Owned) (us : List Use) : (orderF l ow us).length ≤ l.length := by
  unfold orderF
  split
  · rw [List.length_map, (byRank_perm _ l).length_eq]; exact List.length_filter_le _ _
  · simp
theorem readyL_len26 (l : List Job) : (readyL l).length ≤ l.length := by
  unfold readyL
  split
  · rw [List.length_map, (readyJ_perm l).length_eq]; exact List.length_filter_le _ _
  · simp
/-- Where all have as great a bonus the order is that of the line. -/
theorem order_plain {l : List Job} {ow : List Owned} {us : List Use} {c : Int} (h : ∀ j ∈ l, (bonusN us (whoO ow j.id) : Int) = c) : orderF l ow us = readyL l := by
  unfold orderF readyL
  cases hq : isQ l with
  | false => rfl
  | true =>
    simp only [if_true]
    have hs := q_sorted hq
    rw [byRank_uniq hs (readyJ_perm l) ?_]
    have hm : ∀ j ∈ readyJ l, j ∈ l := fun j hj => (List.mem_filter.1 ((readyJ_perm l).mem_iff.1 hj)).1
    refine (readyJ_sorted hs).imp_of_mem fun {a b} ha hb hab => ?_
    have h1 := h a (hm a ha)
    have h2 := h b (hm b hb)
    unfold aheadJ rkJ at *
    simp only at hab
    omega
theorem bonusN_nil (who : Int) : bonusN [] who = 0 := rfl
def oneO (l : List Job) (who : Int) : List Owned := l.map fun j => ⟨j.id, who⟩
theorem whoO_one {l : List Job} {who : Int} {j : Job} (hj : j ∈ l) : whoO (oneO l who) j.id = who := by
  have hlt : atO (oneO l who) j.id < (oneO l who).length := by
    unfold atO
    rw [List.findIdx_lt_length]
    exact ⟨⟨j.id, who⟩, List.mem_map.2 ⟨j, hj, rfl⟩, by simp⟩
  obtain ⟨o, ho⟩ : ∃ o, (oneO l who)[atO (oneO l who) j.id]? = some o := ⟨_, List.getElem?_eq_getElem hlt⟩
  rw [whoO_at ho]
  have := List.mem_of_getElem? ho
  obtain ⟨k, _, rfl⟩ := List.mem_map.1 this
  rfl
end Go.Proofs.Ytnkcenafpigmbaa.Ab
