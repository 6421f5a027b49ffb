/- HealthRight. -/
import Derived.Test.YtjpmldfmgogheaaPureHealthAll
import Derived.Test.YtjpmldfmgogheaaReB
namespace Go.Proofs.Ytjpmldfmgogheaa.Ab
open Go.RowKit
set_option linter.unusedVariables false
set_option linter.unusedSimpArgs false
theorem ints_len {y : List Int} (h : y.length * 8 ≤ 140737488351232 ∧ y.length ≤ maxLen ∧ ∀ x ∈ y, (Lit.int .i64 x).wf = true) : y.length ≤ 140737488355 * 125 := by have := h.1; omega
theorem belowL_len (g : List Thing) (h : List Int) (m : Int) : (belowL g h m).length ≤ g.length := by
  unfold belowL; split
  · exact belowTo_len _ _ _ _
  · simp
theorem setH_len (g : List Thing) (h : List Int) (n how : Int) : (setH g h n how).1.length = h.length := by
  unfold setH; split
  · split <;> simp
  · rfl
set_option maxRecDepth 100000 in
set_option maxHeartbeats 4000000 in
theorem law_HealthRight (y0 : List Thing) (y1 : List Int) (y2 y3 : Int) (G0 : y0.length * 32 ≤ 140737488351232 ∧ y0.length ≤ maxLen ∧ ∀ x ∈ y0, ThingOk x) (G1 : y1.length * 8 ≤ 140737488351232 ∧ y1.length ≤ maxLen ∧ ∀ x ∈ y1, (Lit.int .i64 x).wf = true)
    (G2 : (Lit.int .i64 y2).wf = true) (G3 : (Lit.int .i64 y3).wf = true) : ACalls Try.prog 3 [things y0, ints y1, iv y2, iv y3] (· = .one (.sv (bv true))) := by
  have hl := things_len G0
  have ht := things_ok G0.2.2
  have hl1 := ints_len G1
  refine ACalls.of_bodyS (fun _ _ => Try.call3 _ _) Try.func3 rfl Try.ntmps3 (by simp) ?_
  refine Tr.ex ?_
  simp [go_sem]
  refine OpW.fn true awake6_c rfl rfl (by simp [go_sem]) (by rintro _ r rfl; simp [go_sem]) ?_
  rintro r rfl
  by_cases hs : 60 < (y0.length : Int)
  · simp [go_sem, hs]
  · by_cases hs1 : 60 < (y1.length : Int)
    · simp [go_sem, hs, hs1]
    · simp [go_sem, hs, hs1]
      have hsl := setH_len y0 y1 y2 y3
      refine OpW.fn false (hSet_c y0 y1 y2 y3 hl ht (by omega)) rfl rfl (by simp [go_sem]) (fun h => by cases h) ?_
      rintro r rfl
      simp [go_sem]
      refine OpW.fn false (r6Set_c y0 y1 y2 y3 hl ht (by omega)) rfl rfl (by simp [go_sem]) (fun h => by cases h) ?_
      rintro r rfl
      generalize setH y0 y1 y2 y3 = sh at hsl
      obtain ⟨a, e⟩ := sh
      simp only at hsl
      simp [go_sem]
      refine OpW.fn false (New_c y0 hl ht) rfl rfl (by simp [go_sem]) (fun h => by cases h) ?_
      rintro r rfl
      simp [go_sem]
      refine OpW.fn true (rRight_c y0 hl ht) rfl rfl (by simp [go_sem]) (by rintro _ r rfl; simp [go_sem]) ?_
      rintro r rfl
      have hbl0 := belowL_len y0 y1 0
      have hbl1 := belowL_len y0 y1 1
      cases hg : isGraph y0
      rotate_left
      have hgl := isGraph_len hg
      have hf := fresh_ok hg
      unfold freshH at hf
      have hgt : 0 < y0.length := by omega
      have hfl : (List.replicate y0.length (0 : Int)).length = y0.length := by simp
      have b1 : (belowL y0 (List.replicate y0.length 0) 0).length = y0.length := by
        unfold belowL; rw [if_pos hf]
        exact belowTo_all fun i hi => worstAt_le (fun j => by rw [List.getD_eq_getElem?_getD, List.getElem?_replicate]; split <;> simp) i
      rw [if_pos rfl]
      generalize hh : List.replicate y0.length (0 : Int) = fr at *
      simp [go_sem, hfl, hgt]
      refine OpW.fn true (hRight_c y0 fr hl ht (by omega)) rfl rfl (by simp [go_sem]) (by rintro _ r rfl; simp [go_sem]) ?_
      rintro r rfl
      rw [hf]
      simp [go_sem]
      refine OpW.fn false (Usable_c y0 fr hl ht (by omega)) rfl rfl (by simp [go_sem]) (fun h => by cases h) ?_
      rintro r rfl
      simp [go_sem, b1]
      all_goals
        try simp [go_sem]
        refine OpW.fn true (hRight_c y0 y1 hl ht (by omega)) rfl rfl (by simp [go_sem]) (by rintro _ r rfl; simp [go_sem]) ?_
        rintro r rfl
        simp [go_sem]
        refine OpW.fn true (r6Right_c y0 y1 hl ht (by omega)) rfl rfl (by simp [go_sem]) (by rintro _ r rfl; simp [go_sem]) ?_
        rintro r rfl
        simp [go_sem]
        refine OpW.fn true (Same_c a a (by omega) (by omega)) rfl rfl (by simp [go_sem]) (by rintro _ r rfl; simp [go_sem]) ?_
        rintro r rfl
        simp [go_sem]
        refine OpW.fn true (Worst_c y0 y1 y2 hl ht (by omega)) rfl rfl (by simp [go_sem]) (by rintro _ r rfl; simp [go_sem]) ?_
        rintro r rfl
        simp [go_sem]
        refine OpW.fn true (r6Worst_c y0 y1 y2 hl ht (by omega)) rfl rfl (by simp [go_sem]) (by rintro _ r rfl; simp [go_sem]) ?_
        rintro r rfl
        simp [go_sem]
        refine OpW.fn false (Usable_c y0 y1 hl ht (by omega)) rfl rfl (by simp [go_sem]) (fun h => by cases h) ?_
        rintro r rfl
        simp [go_sem]
        refine OpW.fn false (r6Below_c y0 y1 0 hl ht (by omega)) rfl rfl (by simp [go_sem]) (fun h => by cases h) ?_
        rintro r rfl
        simp [go_sem]
        refine OpW.fn true (Same_c (belowL y0 y1 0) (belowL y0 y1 0) (by omega) (by omega)) rfl rfl (by simp [go_sem]) (by rintro _ r rfl; simp [go_sem]) ?_
        rintro r rfl
        simp [go_sem]
        refine OpW.fn false (Works_c y0 y1 hl ht (by omega)) rfl rfl (by simp [go_sem]) (fun h => by cases h) ?_
        rintro r rfl
        simp [go_sem]
        refine OpW.fn false (r6Below_c y0 y1 1 hl ht (by omega)) rfl rfl (by simp [go_sem]) (fun h => by cases h) ?_
        rintro r rfl
        simp [go_sem]
        refine OpW.fn true (Same_c (belowL y0 y1 1) (belowL y0 y1 1) (by omega) (by omega)) rfl rfl (by simp [go_sem]) (by rintro _ r rfl; simp [go_sem]) ?_
        rintro r rfl
        simp [go_sem]
end Go.Proofs.Ytjpmldfmgogheaa.Ab
