/- The law HeldRight. -/
import Derived.Test.YtfcojlagmmgagaaDoorHd2
namespace Go.Proofs.YtfcojlagmmgagaaDoor.Ab
open Go.RowKit
set_option linter.unusedVariables false
set_option linter.unusedSimpArgs false

theorem get_drop {l : List Held} {id : Int} : (getL l id).2 = decide ((dropL l id).2.2 = 0) ∧ (getL l id).1 = (dropL l id).2.1 := by
  unfold getL dropL
  cases isTab l with
  | false => simp
  | true => cases isAt l id <;> simp
theorem one_refl (h : Held) : (decide (h.id = h.id) && decide (h.fr = h.fr) && decide (h.to = h.to) && decide (h.things = h.things)) = true := by simp
set_option maxRecDepth 100000 in
set_option maxHeartbeats 8000000 in
theorem law_HeldRight (y0 : List Held) (y1 : Held) (y2 y3 : Int) (G0 : y0.length * 48 ≤ 140737488351232 ∧ y0.length ≤ maxLen ∧ ∀ x ∈ y0, HeldOk x) (G1 : HeldOk y1) (G2 : (Lit.int .i64 y2).wf = true) (G3 : (Lit.int .i64 y3).wf = true) :
    ACalls Tryd.prog 12 [helds y0, heldSV y1, iv y2, iv y3] (· = .one (.sv (bv true))) := by
  refine ACalls.of_bodyS (fun _ _ => Tryd.call12 _ _) Tryd.func12 rfl Tryd.ntmps12 (by simp) ?_
  refine Tr.ex ?_
  simp [go_sem]
  refine OpW.fn true awake10_c rfl rfl (by simp [go_sem]) (by rintro _ r rfl; simp [go_sem]) ?_
  rintro r rfl
  simp [go_sem]
  refine OpW.fn true (Short_c y0 (by have := G0.1; omega)) rfl rfl (by simp [go_sem]) (by rintro _ r rfl; simp [go_sem]) ?_
  rintro r rfl
  cases hs : shortB y0 with
  | false => simp [go_sem]
  | true =>
    obtain ⟨hl, hh⟩ := short_len hs
    by_cases c1 : 60 < (y1.things.length : Int)
    · simp [go_sem, c1]
    have hx : y1.things.length ≤ 140737488355 := by omega
    obtain ⟨a1, a2⟩ := add_good (h := y1) hl hh hx
    obtain ⟨d1, d2, d3⟩ := drop_good (id := y2) hl hh
    obtain ⟨u1, u2⟩ := cut_good (id := y2) (to := y3) hl hh
    obtain ⟨g1, g2⟩ := get_drop (l := y0) (id := y2)
    have fg := heldGet_c y0 y2 (by omega) hh
    rw [g1, g2] at fg
    have one1 := One_c (dropL y0 y2).2.1 (dropL y0 y2).2.1 (by omega) (by omega)
    rw [one_refl] at one1
    simp [go_sem, c1]
    refine OpW.fn false (Lend_c y0 (by omega) hh) rfl rfl (by simp [go_sem]) (fun h => by cases h) ?_
    rintro r rfl
    simp [go_sem]
    refine OpW.fn false (heldAdd_c y0 y1 (by omega) hh hx) rfl rfl (by simp [go_sem]) (fun h => by cases h) ?_
    rintro r rfl
    simp [go_sem]
    refine OpW.fn false (r10Add_c y0 y1 (by omega) hh hx) rfl rfl (by simp [go_sem]) (fun h => by cases h) ?_
    rintro r rfl
    simp [go_sem]
    refine OpW.fn true (heldRight_c y0 (by omega) hh) rfl rfl (by simp [go_sem]) (by rintro _ r rfl; simp [go_sem]) ?_
    rintro r rfl
    simp [go_sem]
    refine OpW.fn true (r10Right_c y0 (by omega) hh) rfl rfl (by simp [go_sem]) (by rintro _ r rfl; simp [go_sem]) ?_
    rintro r rfl
    simp [go_sem, bne]
    refine OpW.fn true (sameH_c (addL y0 y1).1 (addL y0 y1).1 (by omega) (by omega) a2 a2) rfl rfl (by simp [go_sem]) (by rintro _ r rfl; simp [go_sem]) ?_
    rintro r rfl
    simp [go_sem, bne]
    refine OpW.fn false (heldDrop_c y0 y2 (by omega) hh) rfl rfl (by simp [go_sem]) (fun h => by cases h) ?_
    rintro r rfl
    simp [go_sem]
    refine OpW.fn false (r10Drop_c y0 y2 (by omega) hh) rfl rfl (by simp [go_sem]) (fun h => by cases h) ?_
    rintro r rfl
    simp [go_sem]
    refine OpW.fn true (sameH_c (dropL y0 y2).1 (dropL y0 y2).1 (by omega) (by omega) d2 d2) rfl rfl (by simp [go_sem]) (by rintro _ r rfl; simp [go_sem]) ?_
    rintro r rfl
    simp [go_sem, bne]
    refine OpW.fn true one1 rfl rfl (by simp [go_sem]) (by rintro _ r rfl; simp [go_sem]) ?_
    rintro r rfl
    simp [go_sem]
    refine OpW.fn false fg rfl rfl (by simp [go_sem]) (fun h => by cases h) ?_
    rintro r rfl
    generalize hc : (dropL y0 y2).2.2 = code at *
    by_cases c0 : code = 0
    case' pos =>
      have e0 : (code == 0) = true := by simpa using c0
      simp [go_sem, bne, c0]
    case' neg =>
      have e0 : (code == 0) = false := by simpa using c0
      simp [go_sem, bne, c0, e0]
    all_goals
      refine OpW.fn true one1 rfl rfl (by simp [go_sem]) (by rintro _ r rfl; simp [go_sem]) ?_
      rintro r rfl
      simp [go_sem]
      refine OpW.fn false (heldCut_c y0 y2 y3 (by omega) hh) rfl rfl (by simp [go_sem]) (fun h => by cases h) ?_
      rintro r rfl
      simp [go_sem]
      refine OpW.fn false (r10Cut_c y0 y2 y3 (by omega) hh) rfl rfl (by simp [go_sem]) (fun h => by cases h) ?_
      rintro r rfl
      simp [go_sem]
      refine OpW.fn true (sameH_c (cutL y0 y2 y3).1 (cutL y0 y2 y3).1 (by omega) (by omega) u2 u2) rfl rfl (by simp [go_sem]) (by rintro _ r rfl; simp [go_sem]) ?_
      rintro r rfl
      simp [go_sem]
      refine OpW.fn true (sameH_c y0 y0 (by omega) (by omega) hh hh) rfl rfl (by simp [go_sem]) (by rintro _ r rfl; simp [go_sem]) ?_
      rintro r rfl
      simp [go_sem]
end Go.Proofs.YtfcojlagmmgagaaDoor.Ab
