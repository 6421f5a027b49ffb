/- The law MatchTags. -/
import Derived.Test.YtfcojlagmmgagaaDoorMaL
namespace Go.Proofs.YtfcojlagmmgagaaDoor.Ab
open Go.RowKit
set_option linter.unusedVariables false
set_option linter.unusedSimpArgs false

set_option maxRecDepth 100000 in
set_option maxHeartbeats 16000000 in
theorem law_MatchTags (y0 : List Thing) (y1 : List Int) (y2 : Spec) (G0 : y0.length * 32 ≤ 140737488351232 ∧ y0.length ≤ maxLen ∧ ∀ x ∈ y0, ThingOk x) (G1 : y1.length * 8 ≤ 140737488351232 ∧ y1.length ≤ maxLen ∧ ∀ x ∈ y1, (Lit.int .i64 x).wf = true)
    (G2 : SpecOk y2) : ACalls Tryd.prog 4 [things y0, ints y1, specSV y2] (· = .one (.sv (bv true))) := by
  have hl := things_len G0
  have ht := things_ok G0.2.2
  have hs := G2.2.2.2.1
  have hs' : (noTag y2).tag.size ≤ 140737488351232 := by show (ByteArray.mk #[]).size ≤ _; decide
  refine ACalls.of_bodyS (fun _ _ => Tryd.call4 _ _) Tryd.func4 rfl Tryd.ntmps4 (by simp) ?_
  refine Tr.ex ?_
  simp [go_sem]
  refine OpW.fn true awake9_c rfl rfl (by simp [go_sem]) (by rintro _ r rfl; simp [go_sem]) ?_
  rintro r rfl
  by_cases hs0 : 60 < (y0.length : Int)
  · simp [go_sem, hs0]
  by_cases hs1 : 300 < (y1.length : Int)
  · simp [go_sem, hs0, hs1]
  simp [go_sem, hs0, hs1]
  refine OpW.fn true (gRight_c y0 hl ht) rfl rfl (by simp [go_sem]) (by rintro _ r rfl; simp [go_sem]) ?_
  rintro r rfl
  cases hg : isGraph y0 with
  | false => simp [go_sem]
  | true =>
    have hnl := nodes_le y0
    simp [go_sem]
    refine OpW.fn false (Nodes_c y0 hl ht) rfl rfl (by simp [go_sem]) (fun h => by cases h) ?_
    rintro r rfl
    simp [go_sem]
    refine LoopW.of (fun i : Nat => ⟨126, [(0, .sv (things y0)), (1, .sv (ints y1)), (5, .box 5 0), (6, .sv (bv false)), (7, .box 7 0), (8, .sv (ints (nodesL y0))), (9, .sv (iv i))],
        [(5, .box ((specCells y2).map .sv)), (7, .box ((specCells (noTag y2)).map .sv))]⟩)
      (fun i => i ≤ (nodesL y0).length) (fun i => (nodesL y0).length - i) 0 (by omega) (Ent.chk (by simp [go_sem])) ?_
    intro i hi
    by_cases hlt : i < (nodesL y0).length
    · have hlt' : (i : Int) < (nodesL y0).length := by omega
      have hw1 : IntKind.i64.wrap ((i : Int) + 1) = (i : Int) + 1 := by rw [i64w] <;> omega
      obtain ⟨x, hx⟩ : ∃ x, (nodesL y0)[i]? = some x := ⟨_, List.getElem?_eq_getElem hlt⟩
      obtain ⟨a, rfl, ha, h2⟩ := nodes_get hx
      obtain ⟨t, hgt⟩ : ∃ t, y0[a]? = some t := ⟨_, List.getElem?_eq_getElem ha⟩
      have hth := th_get hgt
      have ha' : (a : Int) < y0.length := by omega
      simp [go_sem, hlt, hlt', hx, gE hx]
      refine DrawW.rd rfl ?_
      simp [go_sem, hlt, hlt', hx, gE hx]
      refine OpD.call false (Suits_c y0 y1 y2 a hl ht (by omega) hs) rfl rfl (by simp [go_sem]) (fun h => by cases h) (by simp [go_sem]) (by simp [go_sem]) ?_
      cases hsp : isSpec y2 with
      | false =>
        rw [suits_bad hsp]
        simp [go_sem]
        refine ⟨by kernel_rfl, ?_⟩
        refine DrawW.rd rfl ?_
        simp [go_sem]
        refine OpD.call false (sRight_c y2 hs) rfl rfl (by simp [go_sem]) (fun h => by cases h) (by simp [go_sem]) (by simp [go_sem]) ?_
        rw [hsp]
        simp [go_sem]
        refine ⟨by kernel_rfl, ?_⟩
        refine DrawW.rd rfl ?_
        simp [go_sem]
        refine OpD.call false (sRight_c y2 hs) rfl rfl (by simp [go_sem]) (fun h => by cases h) (by simp [go_sem]) (by simp [go_sem]) ?_
        rw [hsp]
        simp [go_sem]
        refine ⟨by kernel_rfl, ?_⟩
        exact ⟨i + 1, by omega, by omega, Ent.chk (by simp [go_sem, hw1])⟩
      | true =>
        have hst := suits_tag (g := y0) (free := y1) ha hsp
        rw [hth] at hst
        rw [hst]
        cases hP : suitsL y0 y1 (noTag y2) a <;> cases t0 : (y2.tag.toList == []) <;> cases te : (t.tag.toList == y2.tag.toList)
        all_goals
          simp [go_sem, bne, t0, te]
          refine ⟨by kernel_rfl, ?_⟩
          refine DrawW.rd rfl ?_
          simp [go_sem, bne, t0, te, hlt, hlt', hx, gE hx, ha, ha', hgt, gE hgt]
          try
            refine OpD.call false (sRight_c y2 hs) rfl rfl (by simp [go_sem]) (fun h => by cases h) (by simp [go_sem]) (by simp [go_sem]) ?_
            rw [hsp]
            simp [go_sem, bne, t0, te, hlt, hlt', hx, gE hx, ha, ha', hgt, gE hgt]
          try
            refine OpD.call false (Suits_c y0 y1 (noTag y2) a hl ht (by omega) hs') rfl rfl (by simp [go_sem]) (fun h => by cases h) (by simp [go_sem]) (by simp [go_sem]) ?_
            rw [hP]
            simp [go_sem, bne, t0, te, hlt, hlt', hx, gE hx, ha, ha', hgt, gE hgt]
          refine ⟨by kernel_rfl, ?_⟩
          refine DrawW.rd rfl ?_
          simp [go_sem, bne, t0, te, hlt, hlt', hx, gE hx, ha, ha', hgt, gE hgt]
          refine OpD.call false (sRight_c y2 hs) rfl rfl (by simp [go_sem]) (fun h => by cases h) (by simp [go_sem]) (by simp [go_sem]) ?_
          rw [hsp]
          simp [go_sem, bne, t0, te, hlt, hlt', hx, gE hx, ha, ha', hgt, gE hgt]
          try
            refine OpD.call false (Suits_c y0 y1 (noTag y2) a hl ht (by omega) hs') rfl rfl (by simp [go_sem]) (fun h => by cases h) (by simp [go_sem]) (by simp [go_sem]) ?_
            rw [hP]
            simp [go_sem, bne, t0, te, hlt, hlt', hx, gE hx, ha, ha', hgt, gE hgt]
          refine ⟨by kernel_rfl, ?_⟩
          exact ⟨i + 1, by omega, by omega, Ent.chk (by simp [go_sem, hw1])⟩
    · have hil : i = (nodesL y0).length := by omega
      subst hil
      have h1 : (manyL y0 y1 y2 : Int) ≤ manyL y0 y1 (noTag y2) := by have := many_noTag (g := y0) (free := y1) (s := y2); omega
      have h2 : (manyL y0 y1 y2 : Int) ≤ (nodesL y0).length := by have := many_nodes (g := y0) (a := y1) (s := y2); omega
      simp [go_sem]
      refine DrawW.rd rfl ?_
      simp [go_sem]
      refine OpD.call false (Many_c y0 y1 y2 hl ht (by omega) hs) rfl rfl (by simp [go_sem]) (fun h => by cases h) (by simp [go_sem]) (by simp [go_sem]) ?_
      simp [go_sem]
      refine OpD.call false (Many_c y0 y1 (noTag y2) hl ht (by omega) hs') rfl rfl (by simp [go_sem]) (fun h => by cases h) (by simp [go_sem]) (by simp [go_sem]) ?_
      generalize manyL y0 y1 (noTag y2) = m2 at *
      have hm := Many_c y0 y1 y2 hl ht (by omega) hs
      generalize manyL y0 y1 y2 = m1 at *
      simp [go_sem, h1]
      refine OpD.call false hm rfl rfl (by simp [go_sem]) (fun h => by cases h) (by simp [go_sem]) (by simp [go_sem]) ?_
      simp [go_sem, h2]
      show _ = true
      kernel_rfl
end Go.Proofs.YtfcojlagmmgagaaDoor.Ab
