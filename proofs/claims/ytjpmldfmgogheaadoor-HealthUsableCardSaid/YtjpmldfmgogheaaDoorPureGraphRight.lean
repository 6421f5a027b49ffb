/- GraphRight. -/
import Derived.Test.YtjpmldfmgogheaaDoorLaG
import Derived.Test.YtjpmldfmgogheaaDoorGrK
import Derived.Test.YtjpmldfmgogheaaDoorGrE
namespace Go.Proofs.YtjpmldfmgogheaaDoor.Ab
open Go.RowKit
set_option linter.unusedVariables false
set_option linter.unusedSimpArgs false

theorem kindsL_form (g : List Thing) (l : List Int) : ∃ a b c d e : Int, kindsL g l = [a, b, c, d, e] := by
  unfold kindsL; split
  · exact ⟨_, _, _, _, _, rfl⟩
  · exact ⟨_, _, _, _, _, rfl⟩
theorem wholeL_len (g : List Thing) (l : List Int) : (wholeL g l).length ≤ g.length := by
  unfold wholeL; split
  · exact rangeF_len _ _
  · simp
set_option maxRecDepth 100000 in
set_option maxHeartbeats 4000000 in
theorem law_GraphRight (y0 : List Thing) (y1 : Int) (y2 : List Int) (y3 : ByteArray) (G0 : y0.length * 32 ≤ 140737488351232 ∧ y0.length ≤ maxLen ∧ ∀ x ∈ y0, ThingOk x) (G1 : (Lit.int .i64 y1).wf = true)
    (G2 : y2.length * 8 ≤ 140737488351232 ∧ y2.length ≤ maxLen ∧ ∀ x ∈ y2, (Lit.int .i64 x).wf = true) (G3 : y3.size ≤ 140737488351232) : ACalls Tryd.prog 3 [things y0, iv y1, ints y2, sv' y3] (· = .one (.sv (bv true))) := by
  have hl := things_len G0
  have ht := things_ok G0.2.2
  refine ACalls.of_bodyS (fun _ _ => Tryd.call3 _ _) Tryd.func3 rfl Tryd.ntmps3 (by simp) ?_
  refine Tr.ex ?_
  simp [go_sem]
  refine OpW.fn true awake5_c rfl rfl (by simp [go_sem]) (by rintro _ r rfl; simp [go_sem]) ?_
  rintro r rfl
  by_cases hs : 300 < (y0.length : Int)
  · simp [go_sem, hs]
  · by_cases hs2 : 300 < (y2.length : Int)
    · simp [go_sem, hs, hs2]
    · have ul := underL_len y0 y1
      have al := set_len (aboveL_set y0 y1)
      have wl := wholeL_len y0 y2
      simp [go_sem, hs, hs2]
      refine OpW.fn true (gRight_c y0 hl ht) rfl rfl (by simp [go_sem]) (by rintro _ r rfl; simp [go_sem]) ?_
      rintro r rfl
      simp [go_sem]
      refine OpW.fn true (rRight_c y0 hl ht) rfl rfl (by simp [go_sem]) (by rintro _ r rfl; simp [go_sem]) ?_
      rintro r rfl
      simp [go_sem]
      refine OpW.fn false (Under_c y0 y1 hl ht) rfl rfl (by simp [go_sem]) (fun h => by cases h) ?_
      rintro r rfl
      simp [go_sem]
      refine OpW.fn false (rUnder_c y0 y1 hl ht) rfl rfl (by simp [go_sem]) (fun h => by cases h) ?_
      rintro r rfl
      simp [go_sem]
      refine OpW.fn true (Same_c (underL y0 y1) (underL y0 y1) (by omega) (by omega)) rfl rfl (by simp [go_sem]) (by rintro _ r rfl; simp [go_sem]) ?_
      rintro r rfl
      simp [go_sem]
      refine OpW.fn false (Above_c y0 y1 hl ht) rfl rfl (by simp [go_sem]) (fun h => by cases h) ?_
      rintro r rfl
      simp [go_sem]
      refine OpW.fn false (rAbove_c y0 y1 hl ht) rfl rfl (by simp [go_sem]) (fun h => by cases h) ?_
      rintro r rfl
      simp [go_sem]
      refine OpW.fn true (Same_c (aboveL y0 y1) (aboveL y0 y1) (by omega) (by omega)) rfl rfl (by simp [go_sem]) (by rintro _ r rfl; simp [go_sem]) ?_
      rintro r rfl
      simp [go_sem]
      refine OpW.fn true (Node_c y0 y1 hl ht) rfl rfl (by simp [go_sem]) (by rintro _ r rfl; simp [go_sem]) ?_
      rintro r rfl
      simp [go_sem]
      refine OpW.fn true (rNode_c y0 y1 hl ht) rfl rfl (by simp [go_sem]) (by rintro _ r rfl; simp [go_sem]) ?_
      rintro r rfl
      simp [go_sem]
      obtain ⟨a, b, c, d, e, hk⟩ := kindsL_form y0 y2
      have k1 := Kinds_c y0 y2 hl ht (by omega)
      have k2 := rKinds_c y0 y2 hl ht (by omega)
      rw [hk] at k1 k2
      refine OpW.fn true k1 rfl rfl (by simp [go_sem]) (by rintro _ r rfl; simp [go_sem]) ?_
      rintro r rfl
      simp [go_sem]
      refine OpW.fn true k2 rfl rfl (by simp [go_sem]) (by rintro _ r rfl; simp [go_sem]) ?_
      rintro r rfl
      simp [go_sem]
      refine OpW.fn false (Whole_c y0 y2 hl ht (by omega)) rfl rfl (by simp [go_sem]) (fun h => by cases h) ?_
      rintro r rfl
      simp [go_sem]
      refine OpW.fn false (rWhole_c y0 y2 hl ht (by omega)) rfl rfl (by simp [go_sem]) (fun h => by cases h) ?_
      rintro r rfl
      simp [go_sem]
      refine OpW.fn true (Same_c (wholeL y0 y2) (wholeL y0 y2) (by omega) (by omega)) rfl rfl (by simp [go_sem]) (by rintro _ r rfl; simp [go_sem]) ?_
      rintro r rfl
      simp [go_sem]
      refine OpW.fn true (Tag_c y3 (by omega)) rfl rfl (by simp [go_sem]) (by rintro _ r rfl; simp [go_sem]) ?_
      rintro r rfl
      simp [go_sem]
      refine OpW.fn true (rTag_c y3 (by omega)) rfl rfl (by simp [go_sem]) (by rintro _ r rfl; simp [go_sem]) ?_
      rintro r rfl
      simp [go_sem]
end Go.Proofs.YtjpmldfmgogheaaDoor.Ab
