/- The law QueueLists. -/
import Derived.Test.YtnkcenafpigmbaaQu7
namespace Go.Proofs.Ytnkcenafpigmbaa.Ab
open Go.RowKit
set_option linter.unusedVariables false
set_option linter.unusedSimpArgs false

theorem shortJ_jobs {l : List Job} (h : shortJ l = true) (hk : ∀ j ∈ l, JobOk j) : Jobs l := fun j hj => ⟨(hk j hj).2.1.2.2.2.1, by have := (shortJ_len h).2 j hj; omega⟩
theorem readyL_len (l : List Job) : (readyL l).length ≤ l.length := by
  unfold readyL
  split
  · rw [List.length_map, (readyJ_perm l).length_eq]; exact List.length_filter_le _ _
  · simp
theorem lostL_len (l : List Job) : (lostL l).length ≤ l.length := by
  unfold lostL
  split
  · exact lostIds_len _ _
  · simp
set_option maxHeartbeats 8000000 in
set_option maxRecDepth 100000 in
theorem law_QueueLists (y0 : List Job) (G0 : y0.length * 128 ≤ 140737488351232 ∧ y0.length ≤ maxLen ∧ ∀ x ∈ y0, JobOk x) :
    ACalls Try.prog 3 [jobs y0] (· = .one (.sv (bv true))) := by
  refine ACalls.of_bodyS (fun _ _ => Try.call3 _ _) Try.func3 rfl Try.ntmps3 (by simp) ?_
  refine Tr.ex ?_
  simp [go_sem]
  refine OpW.fn true awake12_c rfl rfl (by simp [go_sem]) (by rintro _ r rfl; simp [go_sem]) ?_
  rintro r rfl
  simp [go_sem]
  refine OpW.fn true (r12Short_c y0 (by have := G0.1; omega)) rfl rfl (by simp [go_sem]) (by rintro _ r rfl; simp [go_sem]) ?_
  rintro r rfl
  cases hs : shortJ y0 with
  | false => simp [go_sem]
  | true =>
    obtain ⟨hl, _⟩ := shortJ_len hs
    have hh := shortJ_jobs hs G0.2.2
    have l1 := readyL_len y0
    have l2 := lostL_len y0
    have f1 := qReady_c y0 (by omega) hh
    have f2 := r12Ready_c y0 (by omega) hh
    have f3 := Same_c (readyL y0) (readyL y0) (by omega) (by omega)
    have f4 := qLost_c y0 (by omega) hh
    have f5 := r12Lost_c y0 (by omega) hh
    have f6 := Same_c (lostL y0) (lostL y0) (by omega) (by omega)
    have fC := qCounts_c y0 (by omega) hh
    simp [go_sem]
    refine LoopW.of (fun i : Nat => ⟨47, [(0, .sv (jobs y0)), (2, .sv (bv false)), (3, .box 3 0), (4, .sv (iv i))], [(3, .box ((cnts y0 i).map fun n => .sv (iv n)))]⟩)
      (fun i => i ≤ y0.length ∧ (0 < i → isQ y0 = true)) (fun i => y0.length - i) 0 ⟨by omega, by omega⟩ (Ent.chk (by simp [go_sem, cnts, cntTo])) ?_
    rintro i ⟨hi, hq0⟩
    by_cases hlt : i < y0.length
    case neg =>
      have hil : i = y0.length := by omega
      subst hil
      have he : cnts y0 y0.length = countsL y0 := by
        unfold countsL
        by_cases h0 : 0 < y0.length
        · rw [hq0 h0, if_pos rfl]
        · have : y0 = [] := List.eq_nil_of_length_eq_zero (by omega)
          subst this; rfl
      rw [← he] at fC
      simp [go_sem, cnts]
      refine DrawW.rd rfl ?_
      simp [go_sem]
      refine OpD.call false f1 rfl rfl (by simp [go_sem]) (fun h => by cases h) (by simp [go_sem]) (by simp [go_sem]) ?_
      simp [go_sem]
      refine OpD.call false f2 rfl rfl (by simp [go_sem]) (fun h => by cases h) (by simp [go_sem]) (by simp [go_sem]) ?_
      simp [go_sem]
      refine OpD.call false f3 rfl rfl (by simp [go_sem]) (fun h => by cases h) (by simp [go_sem]) (by simp [go_sem]) ?_
      simp [go_sem]
      refine OpD.call false f4 rfl rfl (by simp [go_sem]) (fun h => by cases h) (by simp [go_sem]) (by simp [go_sem]) ?_
      simp [go_sem]
      refine OpD.call false f5 rfl rfl (by simp [go_sem]) (fun h => by cases h) (by simp [go_sem]) (by simp [go_sem]) ?_
      simp [go_sem]
      refine OpD.call false f6 rfl rfl (by simp [go_sem]) (fun h => by cases h) (by simp [go_sem]) (by simp [go_sem]) ?_
      simp [go_sem]
      refine OpD.call false fC rfl rfl (by simp [go_sem]) (fun h => by cases h) (by simp [go_sem]) (by simp [go_sem]) ?_
      simp [go_sem, cnts]
      show _ = true
      kernel_rfl
    case pos =>
      have hlt' : (i : Int) < y0.length := by omega
      have hw : IntKind.i64.wrap ((i : Int) + 1) = (i : Int) + 1 := by rw [i64w] <;> omega
      simp [go_sem, hlt, hlt']
      refine OpW.fn true (r12Right_c y0 (by omega) hh) rfl rfl (by simp [go_sem]) (by rintro _ r rfl; simp [go_sem]) ?_
      rintro r rfl
      cases hq : isQ y0 with
      | true =>
        obtain ⟨j, hx⟩ : ∃ h, y0[i]? = some h := ⟨_, List.getElem?_eq_getElem hlt⟩
        have hst := job_state (q_row hq hx).1
        have hcs := cntTo_succ hx
        have hcl := cntTo_le y0 i
        have hst : j.state = 0 ∨ j.state = 1 ∨ j.state = 2 ∨ j.state = 3 ∨ j.state = 4 ∨ j.state = 5 ∨ j.state = 6 := by omega
        rcases hst with h | h | h | h | h | h | h
        all_goals
          have hwc : ∀ s, IntKind.i64.wrap (cntTo y0 i s + 1) = cntTo y0 i s + 1 := fun s => by have := hcl s; rw [i64w] <;> omega
          simp [go_sem, cnts, hlt, hlt', hx, gE hx, h]
          exact ⟨i + 1, by omega, by omega, Ent.chk (by simp [go_sem, cnts, hw, hwc, hcs, h])⟩
      | false =>
        have hi0 : i = 0 := by
          rcases Nat.eq_zero_or_pos i with h | h
          · exact h
          · have := hq0 h; rw [hq] at this; cases this
        subst hi0
        have he : cnts y0 0 = countsL y0 := by unfold countsL; rw [hq]; rfl
        rw [← he] at fC
        simp [go_sem]
        refine DrawW.rd rfl ?_
        simp [go_sem]
        refine OpD.call false f1 rfl rfl (by simp [go_sem]) (fun h => by cases h) (by simp [go_sem]) (by simp [go_sem]) ?_
        simp [go_sem]
        refine OpD.call false f2 rfl rfl (by simp [go_sem]) (fun h => by cases h) (by simp [go_sem]) (by simp [go_sem]) ?_
        simp [go_sem]
        refine OpD.call false f3 rfl rfl (by simp [go_sem]) (fun h => by cases h) (by simp [go_sem]) (by simp [go_sem]) ?_
        simp [go_sem]
        refine OpD.call false f4 rfl rfl (by simp [go_sem]) (fun h => by cases h) (by simp [go_sem]) (by simp [go_sem]) ?_
        simp [go_sem]
        refine OpD.call false f5 rfl rfl (by simp [go_sem]) (fun h => by cases h) (by simp [go_sem]) (by simp [go_sem]) ?_
        simp [go_sem]
        refine OpD.call false f6 rfl rfl (by simp [go_sem]) (fun h => by cases h) (by simp [go_sem]) (by simp [go_sem]) ?_
        simp [go_sem]
        refine OpD.call false fC rfl rfl (by simp [go_sem]) (fun h => by cases h) (by simp [go_sem]) (by simp [go_sem]) ?_
        simp [go_sem, cnts]
        show _ = true
        kernel_rfl
end Go.Proofs.Ytnkcenafpigmbaa.Ab
