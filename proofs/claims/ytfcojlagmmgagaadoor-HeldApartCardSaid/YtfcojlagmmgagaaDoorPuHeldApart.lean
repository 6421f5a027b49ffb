/- The law HeldApart. -/
import Derived.Test.YtfcojlagmmgagaaDoorHd3
namespace Go.Proofs.YtfcojlagmmgagaaDoor.Ab
open Go.RowKit
set_option linter.unusedVariables false
set_option linter.unusedSimpArgs false

theorem add_code {l : List Held} {h : Held} (ht : isTab l = true) (hl : l.length ≤ 30) : (mayH h = false → (addL l h).2 = 1) ∧ (mayH h = true → isAt l h.id = true → (addL l h).2 = 7) ∧ (mayH h = true → isAt l h.id = false → ((addL l h).2 = 0 ↔ anyClash l h = false)) := by
  refine ⟨fun h1 => ?_, fun h1 h2 => ?_, fun h1 h2 => ?_⟩
  · unfold addL; rw [if_neg (by rw [h1]; simp)]
  · unfold addL; rw [if_pos ⟨ht, h1⟩, if_pos h2]
  · rw [add_ok]
    constructor
    · rintro ⟨_, _, _, _, h⟩; exact h
    · intro h; exact ⟨ht, h1, h2, by omega, h⟩
theorem get_at {l : List Held} {id : Int} (ht : isTab l = true) : (getL l id).2 = isAt l id := by
  unfold getL
  cases h : isAt l id with
  | true => rw [if_pos ⟨ht, rfl⟩]
  | false => rw [if_neg (by simp)]
set_option maxRecDepth 100000 in
set_option maxHeartbeats 16000000 in
theorem law_HeldApart (y0 : List Held) (y1 : Int) (y2 : Held) (G0 : y0.length * 48 ≤ 140737488351232 ∧ y0.length ≤ maxLen ∧ ∀ x ∈ y0, HeldOk x) (G1 : (Lit.int .i64 y1).wf = true) (G2 : HeldOk y2) :
    ACalls Tryd.prog 8 [helds y0, iv y1, heldSV y2] (· = .one (.sv (bv true))) := by
  refine ACalls.of_bodyS (fun _ _ => Tryd.call8 _ _) Tryd.func8 rfl Tryd.ntmps8 (by simp) ?_
  refine Tr.ex ?_
  simp [go_sem]
  refine OpW.fn true awake10_c rfl rfl (by simp [go_sem]) (by rintro _ r rfl; simp [go_sem]) ?_
  rintro r rfl
  simp [go_sem]
  refine OpW.fn true (Short_c y0 (by have := G0.1; omega)) rfl rfl (by simp [go_sem]) (by rintro _ r rfl; simp [go_sem]) ?_
  rintro r rfl
  cases hs : shortB y0 with
  | false => simp [go_sem]
  | true =>
    obtain ⟨hl, hh⟩ := short_len hs
    have hh60 : ∀ h ∈ y0, h.things.length ≤ 60 := by
      unfold shortB at hs
      simp only [Bool.and_eq_true, decide_eq_true_eq, List.all_eq_true] at hs
      exact hs.2
    by_cases c1 : 60 < (y2.things.length : Int)
    · simp [go_sem, c1]
    have hx2 : y2.things.length ≤ 140737488355 := by omega
    simp [go_sem, c1]
    refine OpW.fn true (heldRight_c y0 (by omega) hh) rfl rfl (by simp [go_sem]) (by rintro _ r rfl; simp [go_sem]) ?_
    rintro r rfl
    cases ht : isTab y0 with
    | false => simp [go_sem]
    | true =>
      obtain ⟨s1, s2, s3⟩ := add_code (h := y2) ht hl
      have hga := get_at (id := y2.id) ht
      have fa := heldAdd_c y0 y2 (by omega) hh hx2
      have fg := heldGet_c y0 y2.id (by omega) hh
      have hgl := get_good (id := y2.id) hh
      rw [hga] at fg
      have hbl := busyL_len y0 y2.fr y2.to
      have hba := fun hm => clash_busy ht (h := y2) hm
      generalize hcode : (addL y0 y2).2 = code at *
      simp [go_sem]
      refine OpW.fn true (wRight_c y1) rfl rfl (by simp [go_sem]) (by rintro _ r rfl; simp [go_sem]) ?_
      rintro r rfl
      cases hwh : isWhen y1 with
      | false =>
        simp [go_sem]
        refine OpW.fn false fa rfl rfl (by simp [go_sem]) (fun h => by cases h) ?_
        rintro r rfl
        simp [go_sem]
        refine OpW.fn false fg rfl rfl (by simp [go_sem]) (fun h => by cases h) ?_
        rintro r rfl
        by_cases m0 : 0 < y2.things.length
        case neg =>
          have hm : mayH y2 = false := by unfold mayH; simp [m0]
          have hc := s1 hm
          simp [go_sem, m0, hc]
        simp [go_sem, m0]
        refine OpW.fn true (setRight_c y2.things (by omega)) rfl rfl (by simp [go_sem]) (by rintro _ r rfl; simp [go_sem]) ?_
        rintro r rfl
        cases m1 : isSet y2.things with
        | false =>
          have hm : mayH y2 = false := by unfold mayH; simp [m1]
          have hc := s1 hm
          simp [go_sem, hc]
        | true =>
          simp [go_sem]
          refine OpW.fn true (wRight_c y2.fr) rfl rfl (by simp [go_sem]) (by rintro _ r rfl; simp [go_sem]) ?_
          rintro r rfl
          cases m2 : isWhen y2.fr with
          | false =>
            have hm : mayH y2 = false := by unfold mayH; simp [m2]
            have hc := s1 hm
            simp [go_sem, hc]
          | true =>
            simp [go_sem]
            refine OpW.fn true (wRight_c y2.to) rfl rfl (by simp [go_sem]) (by rintro _ r rfl; simp [go_sem]) ?_
            rintro r rfl
            cases m3 : isWhen y2.to with
            | false =>
              have hm : mayH y2 = false := by unfold mayH; simp [m3]
              have hc := s1 hm
              simp [go_sem, hc]
            | true =>
              by_cases m4 : y2.fr < y2.to
              case neg =>
                have hm : mayH y2 = false := by unfold mayH; simp [m4]
                have hc := s1 hm
                simp [go_sem, m4, hc]
              have hm : mayH y2 = true := by unfold mayH; simp [m0, m1, m2, m3, m4]
              cases hat : isAt y0 y2.id with
              | true =>
                have hc := s2 hm hat
                simp [go_sem, m4, hc]
              | false =>
                have hc := s3 hm hat
                have fap := Apart_c (busyL y0 y2.fr y2.to) y2.things (by omega) (by omega)
                rw [hba hm] at fap
                simp [go_sem, m4]
                refine DrawW.rd rfl ?_
                cases ha : anyClash y0 y2 with
                | true =>
                  have hc0 : (code == 0) = false := by
                    have : ¬ code = 0 := fun h => by rw [hc.1 h] at ha; cases ha
                    simpa using this
                  rw [ha] at fap
                  simp [go_sem, hc0]
                  refine OpD.call false (Busy_c y0 y2.fr y2.to (by omega) hh) rfl rfl (by simp [go_sem]) (fun h => by cases h) (by simp [go_sem]) (by simp [go_sem]) ?_
                  simp [go_sem]
                  refine OpD.call false fap rfl rfl (by simp [go_sem]) (fun h => by cases h) (by simp [go_sem]) (by simp [go_sem]) ?_
                  simp [go_sem]
                  show _ = true
                  kernel_rfl
                | false =>
                  have hc0 : (code == 0) = true := by simpa using hc.2 ha
                  rw [ha] at fap
                  simp [go_sem, hc0]
                  refine OpD.call false (Busy_c y0 y2.fr y2.to (by omega) hh) rfl rfl (by simp [go_sem]) (fun h => by cases h) (by simp [go_sem]) (by simp [go_sem]) ?_
                  simp [go_sem]
                  refine OpD.call false fap rfl rfl (by simp [go_sem]) (fun h => by cases h) (by simp [go_sem]) (by simp [go_sem]) ?_
                  simp [go_sem]
                  show _ = true
                  kernel_rfl
      | true =>
        by_cases hnv : y1 < 4611686018427387904
        case neg =>
          simp [go_sem, hnv]
          refine OpW.fn false fa rfl rfl (by simp [go_sem]) (fun h => by cases h) ?_
          rintro r rfl
          simp [go_sem]
          refine OpW.fn false fg rfl rfl (by simp [go_sem]) (fun h => by cases h) ?_
          rintro r rfl
          by_cases m0 : 0 < y2.things.length
          case neg =>
            have hm : mayH y2 = false := by unfold mayH; simp [m0]
            have hc := s1 hm
            simp [go_sem, m0, hc]
          simp [go_sem, m0]
          refine OpW.fn true (setRight_c y2.things (by omega)) rfl rfl (by simp [go_sem]) (by rintro _ r rfl; simp [go_sem]) ?_
          rintro r rfl
          cases m1 : isSet y2.things with
          | false =>
            have hm : mayH y2 = false := by unfold mayH; simp [m1]
            have hc := s1 hm
            simp [go_sem, hc]
          | true =>
            simp [go_sem]
            refine OpW.fn true (wRight_c y2.fr) rfl rfl (by simp [go_sem]) (by rintro _ r rfl; simp [go_sem]) ?_
            rintro r rfl
            cases m2 : isWhen y2.fr with
            | false =>
              have hm : mayH y2 = false := by unfold mayH; simp [m2]
              have hc := s1 hm
              simp [go_sem, hc]
            | true =>
              simp [go_sem]
              refine OpW.fn true (wRight_c y2.to) rfl rfl (by simp [go_sem]) (by rintro _ r rfl; simp [go_sem]) ?_
              rintro r rfl
              cases m3 : isWhen y2.to with
              | false =>
                have hm : mayH y2 = false := by unfold mayH; simp [m3]
                have hc := s1 hm
                simp [go_sem, hc]
              | true =>
                by_cases m4 : y2.fr < y2.to
                case neg =>
                  have hm : mayH y2 = false := by unfold mayH; simp [m4]
                  have hc := s1 hm
                  simp [go_sem, m4, hc]
                have hm : mayH y2 = true := by unfold mayH; simp [m0, m1, m2, m3, m4]
                cases hat : isAt y0 y2.id with
                | true =>
                  have hc := s2 hm hat
                  simp [go_sem, m4, hc]
                | false =>
                  have hc := s3 hm hat
                  have fap := Apart_c (busyL y0 y2.fr y2.to) y2.things (by omega) (by omega)
                  rw [hba hm] at fap
                  simp [go_sem, m4]
                  refine DrawW.rd rfl ?_
                  cases ha : anyClash y0 y2 with
                  | true =>
                    have hc0 : (code == 0) = false := by
                      have : ¬ code = 0 := fun h => by rw [hc.1 h] at ha; cases ha
                      simpa using this
                    rw [ha] at fap
                    simp [go_sem, hc0]
                    refine OpD.call false (Busy_c y0 y2.fr y2.to (by omega) hh) rfl rfl (by simp [go_sem]) (fun h => by cases h) (by simp [go_sem]) (by simp [go_sem]) ?_
                    simp [go_sem]
                    refine OpD.call false fap rfl rfl (by simp [go_sem]) (fun h => by cases h) (by simp [go_sem]) (by simp [go_sem]) ?_
                    simp [go_sem]
                    show _ = true
                    kernel_rfl
                  | false =>
                    have hc0 : (code == 0) = true := by simpa using hc.2 ha
                    rw [ha] at fap
                    simp [go_sem, hc0]
                    refine OpD.call false (Busy_c y0 y2.fr y2.to (by omega) hh) rfl rfl (by simp [go_sem]) (fun h => by cases h) (by simp [go_sem]) (by simp [go_sem]) ?_
                    simp [go_sem]
                    refine OpD.call false fap rfl rfl (by simp [go_sem]) (fun h => by cases h) (by simp [go_sem]) (by simp [go_sem]) ?_
                    simp [go_sem]
                    show _ = true
                    kernel_rfl
        have hw0 : 0 ≤ y1 := by unfold isWhen at hwh; simp only [Bool.and_eq_true, decide_eq_true_eq] at hwh; exact hwh.1
        have hwt : IntKind.i64.wrap (y1 + 1) = y1 + 1 := by rw [i64w] <;> omega
        simp [go_sem, hnv]
        refine LoopW.of (fun i : Nat => ⟨141, [(0, .sv (helds y0)), (1, .sv (iv y1)), (5, .box 5 0), (6, .sv (bv false)), (7, .sv (iv (nAt y1 (y0.take i)))), (8, .sv (iv i))], [(5, .box [.sv (iv y2.id), .sv (ints y2.things), .sv (iv y2.fr), .sv (iv y2.to)])]⟩)
          (fun i => i ≤ y0.length) (fun i => y0.length - i) 0 (by omega) (Ent.chk (by simp [go_sem, nAt])) ?_
        intro i hi
        by_cases hlt : i < y0.length
        · have hlt' : (i : Int) < y0.length := by omega
          have hwi : IntKind.i64.wrap ((i : Int) + 1) = (i : Int) + 1 := by rw [i64w] <;> omega
          obtain ⟨k, hk⟩ : ∃ h, y0[i]? = some h := ⟨_, List.getElem?_eq_getElem hlt⟩
          have hk60 := hh60 k (List.mem_of_getElem? hk)
          have htk : y0.take (i + 1) = y0.take i ++ [k] := by rw [List.take_succ_eq_append_getElem hlt, gE hk]
          have hn := nAt_snoc y1 (y0.take i) k
          have hnl := nAt_le y1 (l := y0.take i) (fun h hm => hh60 h (List.mem_of_mem_take hm))
          have htl : (y0.take i).length ≤ 30 := by rw [List.length_take]; omega
          rw [← htk] at hn
          have hw2 : IntKind.i64.wrap ((nAt y1 (y0.take i) : Int) + k.things.length) = ((nAt y1 (y0.take i) + k.things.length : Nat) : Int) := by rw [i64w] <;> omega
          simp [go_sem, hlt, hlt', hk, gE hk]
          refine DrawW.rd rfl ?_
          simp [go_sem, hlt, hlt', hk, gE hk, hwt]
          refine OpD.call true (Meets_c k.fr k.to y1 (y1 + 1)) rfl rfl (by simp [go_sem]) (by intro _; simp [go_sem]) (by simp [go_sem]) (by simp [go_sem]) ?_
          cases hme : meetsB k.fr k.to y1 (y1 + 1) with
          | true =>
            rw [hme, if_pos rfl] at hn
            simp [go_sem, hlt, hlt', hk, gE hk]
            refine ⟨by kernel_rfl, ?_⟩
            exact ⟨i + 1, by omega, by omega, Ent.chk (by simp [go_sem, hwi, hw2, hn])⟩
          | false =>
            rw [hme, if_neg (by simp)] at hn
            simp [go_sem]
            refine ⟨by kernel_rfl, ?_⟩
            exact ⟨i + 1, by omega, by omega, Ent.chk (by simp [go_sem, hwi, hn])⟩
        · have hil : i = y0.length := by omega
          subst hil
          have hnb := nAt_busy ht y1 y0.length (Nat.le_refl _)
          rw [List.take_length] at hnb ⊢
          have hbu : busyL y0 y1 (y1 + 1) = busyOf y1 (y1 + 1) y0 := by unfold busyL; rw [if_pos ht]
          rw [← hbu] at hnb
          simp [go_sem, hwt]
          refine OpW.fn false (Busy_c y0 y1 (y1 + 1) (by omega) hh) rfl rfl (by simp [go_sem]) (fun h => by cases h) ?_
          rintro r rfl
          simp [go_sem, bne, hnb]
          refine OpW.fn false fa rfl rfl (by simp [go_sem]) (fun h => by cases h) ?_
          rintro r rfl
          simp [go_sem]
          refine OpW.fn false fg rfl rfl (by simp [go_sem]) (fun h => by cases h) ?_
          rintro r rfl
          by_cases m0 : 0 < y2.things.length
          case neg =>
            have hm : mayH y2 = false := by unfold mayH; simp [m0]
            have hc := s1 hm
            simp [go_sem, m0, hc]
          simp [go_sem, m0]
          refine OpW.fn true (setRight_c y2.things (by omega)) rfl rfl (by simp [go_sem]) (by rintro _ r rfl; simp [go_sem]) ?_
          rintro r rfl
          cases m1 : isSet y2.things with
          | false =>
            have hm : mayH y2 = false := by unfold mayH; simp [m1]
            have hc := s1 hm
            simp [go_sem, hc]
          | true =>
            simp [go_sem]
            refine OpW.fn true (wRight_c y2.fr) rfl rfl (by simp [go_sem]) (by rintro _ r rfl; simp [go_sem]) ?_
            rintro r rfl
            cases m2 : isWhen y2.fr with
            | false =>
              have hm : mayH y2 = false := by unfold mayH; simp [m2]
              have hc := s1 hm
              simp [go_sem, hc]
            | true =>
              simp [go_sem]
              refine OpW.fn true (wRight_c y2.to) rfl rfl (by simp [go_sem]) (by rintro _ r rfl; simp [go_sem]) ?_
              rintro r rfl
              cases m3 : isWhen y2.to with
              | false =>
                have hm : mayH y2 = false := by unfold mayH; simp [m3]
                have hc := s1 hm
                simp [go_sem, hc]
              | true =>
                by_cases m4 : y2.fr < y2.to
                case neg =>
                  have hm : mayH y2 = false := by unfold mayH; simp [m4]
                  have hc := s1 hm
                  simp [go_sem, m4, hc]
                have hm : mayH y2 = true := by unfold mayH; simp [m0, m1, m2, m3, m4]
                cases hat : isAt y0 y2.id with
                | true =>
                  have hc := s2 hm hat
                  simp [go_sem, m4, hc]
                | false =>
                  have hc := s3 hm hat
                  have fap := Apart_c (busyL y0 y2.fr y2.to) y2.things (by omega) (by omega)
                  rw [hba hm] at fap
                  simp [go_sem, m4]
                  refine DrawW.rd rfl ?_
                  cases ha : anyClash y0 y2 with
                  | true =>
                    have hc0 : (code == 0) = false := by
                      have : ¬ code = 0 := fun h => by rw [hc.1 h] at ha; cases ha
                      simpa using this
                    rw [ha] at fap
                    simp [go_sem, hc0]
                    refine OpD.call false (Busy_c y0 y2.fr y2.to (by omega) hh) rfl rfl (by simp [go_sem]) (fun h => by cases h) (by simp [go_sem]) (by simp [go_sem]) ?_
                    simp [go_sem]
                    refine OpD.call false fap rfl rfl (by simp [go_sem]) (fun h => by cases h) (by simp [go_sem]) (by simp [go_sem]) ?_
                    simp [go_sem]
                    show _ = true
                    kernel_rfl
                  | false =>
                    have hc0 : (code == 0) = true := by simpa using hc.2 ha
                    rw [ha] at fap
                    simp [go_sem, hc0]
                    refine OpD.call false (Busy_c y0 y2.fr y2.to (by omega) hh) rfl rfl (by simp [go_sem]) (fun h => by cases h) (by simp [go_sem]) (by simp [go_sem]) ?_
                    simp [go_sem]
                    refine OpD.call false fap rfl rfl (by simp [go_sem]) (fun h => by cases h) (by simp [go_sem]) (by simp [go_sem]) ?_
                    simp [go_sem]
                    show _ = true
                    kernel_rfl
end Go.Proofs.YtfcojlagmmgagaaDoor.Ab
