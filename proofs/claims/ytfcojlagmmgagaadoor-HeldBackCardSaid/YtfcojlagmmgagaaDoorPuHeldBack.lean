/- The law HeldBack. -/
import Derived.Test.YtfcojlagmmgagaaDoorHd3
namespace Go.Proofs.YtfcojlagmmgagaaDoor.Ab
open Go.RowKit
set_option linter.unusedVariables false
set_option linter.unusedSimpArgs false

theorem one_alike (h : Held) : (decide (h.id = h.id) && decide (h.fr = h.fr) && decide (h.to = h.to) && decide (h.things = h.things)) = true := by simp
set_option maxRecDepth 100000 in
set_option maxHeartbeats 8000000 in
theorem law_HeldBack (y0 : List Held) (y1 : Held) (y2 : Int) (G0 : y0.length * 48 ≤ 140737488351232 ∧ y0.length ≤ maxLen ∧ ∀ x ∈ y0, HeldOk x) (G1 : HeldOk y1) (G2 : (Lit.int .i64 y2).wf = true) :
    ACalls Tryd.prog 13 [helds y0, heldSV y1, iv y2] (· = .one (.sv (bv true))) := by
  refine ACalls.of_bodyS (fun _ _ => Tryd.call13 _ _) Tryd.func13 rfl Tryd.ntmps13 (by simp) ?_
  refine Tr.ex ?_
  simp [go_sem]
  refine OpW.fn true awake10_c rfl rfl (by simp [go_sem]) (by rintro _ r rfl; simp [go_sem]) ?_
  rintro r rfl
  simp [go_sem]
  refine OpW.fn true (Short_c y0 (by have := G0.1; omega)) rfl rfl (by simp [go_sem]) (by rintro _ r rfl; simp [go_sem]) ?_
  rintro r rfl
  cases hs : shortB y0 with
  | false => simp [go_sem]
  | true =>
    obtain ⟨hl, hh⟩ := short_len hs
    by_cases c1 : 60 < (y1.things.length : Int)
    · simp [go_sem, c1]
    have hx1 : y1.things.length ≤ 140737488355 := by omega
    obtain ⟨a1, a2⟩ := add_good (h := y1) hl hh hx1
    simp [go_sem, c1]
    refine OpW.fn false (heldAdd_c y0 y1 (by omega) hh hx1) rfl rfl (by simp [go_sem]) (fun h => by cases h) ?_
    rintro r rfl
    by_cases he : (addL y0 y1).2 = 0
    case neg =>
      have he' : ((addL y0 y1).2 == 0) = false := by simpa using he
      have e := add_no he
      simp [go_sem, bne, he', e]
      refine OpW.fn true (sameH_c y0 y0 (by omega) (by omega) hh hh) rfl rfl (by simp [go_sem]) (by rintro _ r rfl; simp [go_sem]) ?_
      rintro r rfl
      simp [go_sem]
    have hd := drop_add he
    have hcut := cut_add he y2
    have fd := heldDrop_c (addL y0 y1).1 y1.id (by omega) a2
    rw [hd] at fd
    have fc := heldCut_c (addL y0 y1).1 y1.id y2 (by omega) a2
    obtain ⟨u1, u2⟩ := cut_good (id := y1.id) (to := y2) a1 a2
    have hlen := add_len he
    have one1 := One_c y1 y1 (by omega) (by omega)
    rw [one_alike] at one1
    rw [hcut] at fc u1 u2
    simp [go_sem, bne, he]
    refine OpW.fn false fd rfl rfl (by simp [go_sem]) (fun h => by cases h) ?_
    rintro r rfl
    simp [go_sem]
    refine OpW.fn true (sameH_c y0 y0 (by omega) (by omega) hh hh) rfl rfl (by simp [go_sem]) (by rintro _ r rfl; simp [go_sem]) ?_
    rintro r rfl
    simp [go_sem]
    refine OpW.fn true one1 rfl rfl (by simp [go_sem]) (by rintro _ r rfl; simp [go_sem]) ?_
    rintro r rfl
    simp [go_sem]
    by_cases q1 : y2 ≤ y1.fr
    · rw [if_pos (.inl q1)] at fc
      refine OpW.fn false fc rfl rfl (by simp [go_sem]) (fun h => by cases h) ?_
      rintro r rfl
      simp [go_sem, q1]
    by_cases q2 : y1.to < y2
    · rw [if_pos (.inr q2)] at fc
      refine OpW.fn false fc rfl rfl (by simp [go_sem]) (fun h => by cases h) ?_
      rintro r rfl
      simp [go_sem, q1, q2]
    rw [if_neg (by rintro (h | h); exact q1 h; exact q2 h)] at fc u1 u2
    have hct := cut_tab he q1 q2
    have hgo := cut_gone he q1 q2
    have hrg := rest_gone_len hct y2
    have hil := insH_len y0 (lowAt y0 y1.id) (cutH y1 y2)
    simp only at u1 u2
    generalize insH y0 (lowAt y0 y1.id) (cutH y1 y2) = c at *
    obtain ⟨r1, r2⟩ := rest_good u1 u2 y2
    have hsum : IntKind.i64.wrap (((restL c y2).length : Int) + (goneL c y2).length) = ((addL y0 y1).1.length : Int) := by rw [i64w] <;> omega
    have fg := heldGet_c (restL c y2) y1.id (by omega) r2
    rw [hgo] at fg
    have fo := heldOver_c c y2 (by omega) u2
    have fr := heldRight_c c (by omega) u2
    rw [hct] at fr
    generalize restL c y2 = d at *
    generalize goneL c y2 = gn at *
    refine OpW.fn false fc rfl rfl (by simp [go_sem]) (fun h => by cases h) ?_
    rintro r rfl
    simp [go_sem]
    refine OpW.fn false fo rfl rfl (by simp [go_sem]) (fun h => by cases h) ?_
    rintro r rfl
    simp [go_sem]
    refine OpW.fn false fg rfl rfl (by simp [go_sem]) (fun h => by cases h) ?_
    rintro r rfl
    simp [go_sem]
    refine OpW.fn true fr rfl rfl (by simp [go_sem]) (by rintro _ r rfl; simp [go_sem]) ?_
    rintro r rfl
    simp [go_sem, hsum]
end Go.Proofs.YtfcojlagmmgagaaDoor.Ab
