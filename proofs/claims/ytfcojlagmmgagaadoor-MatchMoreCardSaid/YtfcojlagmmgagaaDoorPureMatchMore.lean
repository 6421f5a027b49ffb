/- The law MatchMore. -/
import Derived.Test.YtfcojlagmmgagaaDoorMaL
namespace Go.Proofs.YtfcojlagmmgagaaDoor.Ab
open Go.RowKit
set_option linter.unusedVariables false
set_option linter.unusedSimpArgs false

set_option maxRecDepth 100000 in
set_option maxHeartbeats 16000000 in
theorem law_MatchMore (y0 : List Thing) (y1 y2 : List Int) (y3 y4 : Spec) (G0 : y0.length * 32 ≤ 140737488351232 ∧ y0.length ≤ maxLen ∧ ∀ x ∈ y0, ThingOk x) (G1 : y1.length * 8 ≤ 140737488351232 ∧ y1.length ≤ maxLen ∧ ∀ x ∈ y1, (Lit.int .i64 x).wf = true)
    (G2 : y2.length * 8 ≤ 140737488351232 ∧ y2.length ≤ maxLen ∧ ∀ x ∈ y2, (Lit.int .i64 x).wf = true) (G3 : SpecOk y3) (G4 : SpecOk y4) : ACalls Tryd.prog 6 [things y0, ints y1, ints y2, specSV y3, specSV y4] (· = .one (.sv (bv true))) := by
  have hl := things_len G0
  have ht := things_ok G0.2.2
  have hs3 := G3.2.2.2.1
  have hs4 := G4.2.2.2.1
  refine ACalls.of_bodyS (fun _ _ => Tryd.call6 _ _) Tryd.func6 rfl Tryd.ntmps6 (by simp) ?_
  refine Tr.ex ?_
  simp [go_sem]
  refine OpW.fn true awake9_c rfl rfl (by simp [go_sem]) (by rintro _ r rfl; simp [go_sem]) ?_
  rintro r rfl
  by_cases hs0 : 60 < (y0.length : Int)
  · simp [go_sem, hs0]
  simp [go_sem, hs0]
  refine OpW.fn true (setRight_c y1 (by omega)) rfl rfl (by simp [go_sem]) (by rintro _ r rfl; simp [go_sem]) ?_
  rintro r rfl
  cases h1 : isSet y1 with
  | false => simp [go_sem]
  | true =>
    simp [go_sem]
    refine OpW.fn true (setRight_c y2 (by omega)) rfl rfl (by simp [go_sem]) (by rintro _ r rfl; simp [go_sem]) ?_
    rintro r rfl
    cases h2 : isSet y2 with
    | false => simp [go_sem]
    | true =>
      simp [go_sem]
      refine OpW.fn true (gRight_c y0 hl ht) rfl rfl (by simp [go_sem]) (by rintro _ r rfl; simp [go_sem]) ?_
      rintro r rfl
      cases hg : isGraph y0 with
      | false => simp [go_sem]
      | true =>
        have l1 := set_len h1
        have l2 := set_len h2
        have hfl := find_len y0 y1 y3
        have hjl := set_len (joinL_set y1 y2)
        have hjm : ∀ n, n ∈ y1 → n ∈ joinL y1 y2 := fun n hn => (joinL_mem h1 h2).2 (.inl hn)
        have hfm := find_more (g := y0) (s := y3) h1 (joinL_set y1 y2) hjm
        have hmm := many_more (g := y0) (s := y3) (joinL_set y1 y2) hjm
        have hmm' : ¬ (manyL y0 (joinL y1 y2) y3 : Int) < manyL y0 y1 y3 := by omega
        have hmc := Many_c y0 (joinL y1 y2) y3 hl ht (by omega) hs3
        have hmd := Many_c y0 y1 y3 hl ht (by omega) hs3
        generalize manyL y0 (joinL y1 y2) y3 = m1 at hmc hmm'
        generalize manyL y0 y1 y3 = m2 at hmd hmm'
        have hjc := Join_c y1 y2 (by omega) (by omega)
        simp [go_sem]
        refine OpW.fn false (Find_c y0 y1 y3 hl ht (by omega) hs3) rfl rfl (by simp [go_sem]) (fun h => by cases h) ?_
        rintro r rfl
        simp [go_sem]
        refine DrawW.rd rfl ?_
        simp [go_sem]
        refine OpD.call false hjc rfl rfl (by simp [go_sem]) (fun h => by cases h) (by simp [go_sem]) (by simp [go_sem]) ?_
        simp [go_sem]
        refine OpD.call false (Find_c y0 (joinL y1 y2) y3 hl ht (by omega) hs3) rfl rfl (by simp [go_sem]) (fun h => by cases h) (by simp [go_sem]) (by simp [go_sem]) ?_
        simp [go_sem]
        refine ⟨by kernel_rfl, ?_⟩
        refine DrawW.rd rfl ?_
        simp [go_sem]
        cases hok : (findL y0 y1 y3).2 with
        | false =>
          simp [go_sem]
          refine OpD.call false hjc rfl rfl (by simp [go_sem]) (fun h => by cases h) (by simp [go_sem]) (by simp [go_sem]) ?_
          simp [go_sem]
          refine OpD.call false hmc rfl rfl (by simp [go_sem]) (fun h => by cases h) (by simp [go_sem]) (by simp [go_sem]) ?_
          simp [go_sem]
          refine OpD.call false hmd rfl rfl (by simp [go_sem]) (fun h => by cases h) (by simp [go_sem]) (by simp [go_sem]) ?_
          simp [go_sem, hmm']
          show _ = true
          kernel_rfl
        | true =>
          rw [hfm hok]
          simp [go_sem]
          refine OpD.call false hjc rfl rfl (by simp [go_sem]) (fun h => by cases h) (by simp [go_sem]) (by simp [go_sem]) ?_
          simp [go_sem]
          refine OpD.call false hmc rfl rfl (by simp [go_sem]) (fun h => by cases h) (by simp [go_sem]) (by simp [go_sem]) ?_
          simp [go_sem]
          refine OpD.call false hmd rfl rfl (by simp [go_sem]) (fun h => by cases h) (by simp [go_sem]) (by simp [go_sem]) ?_
          simp [go_sem, hmm']
          refine ⟨by kernel_rfl, ?_⟩
          have hap := find_apart (g := y0) (s := y3) (t := y4) h1
          have hsl := fun (a : Nat) ha h2 hp => suits_left (l := (findL y0 y1 y3).1) (t := y4) hg h1 (findL_set y0 y1 y3) (a := a) ha h2 hp
          generalize (findL y0 y1 y3).1 = out at *
          have hll := set_len (lessL_set y1 out)
          have hfl4 := find_len y0 (lessL y1 out) y4
          have hnl := nodes_le y0
          refine OpW.fn false (Less_c y1 out (by omega) (by omega)) rfl rfl (by simp [go_sem]) (fun h => by cases h) ?_
          rintro r rfl
          simp [go_sem]
          refine OpW.fn false (Find_c y0 (lessL y1 out) y4 hl ht (by omega) hs4) rfl rfl (by simp [go_sem]) (fun h => by cases h) ?_
          rintro r rfl
          simp [go_sem]
          have hac := Apart_c out (findL y0 (lessL y1 out) y4).1 (by omega) (by omega)
          rw [hap] at hac
          generalize (findL y0 (lessL y1 out) y4).1 = out4 at *
          cases hok4 : (findL y0 (lessL y1 out) y4).2
          case' true =>
            simp [go_sem]
            refine OpW.fn true hac rfl rfl (by simp [go_sem]) (by rintro _ r rfl; simp [go_sem]) ?_
            rintro r rfl
            simp [go_sem]
          case' false =>
            simp [go_sem]
          all_goals
            refine OpW.fn false (Nodes_c y0 hl ht) rfl rfl (by simp [go_sem]) (fun h => by cases h) ?_
            rintro r rfl
            simp [go_sem]
            refine LoopW.of (fun i : Nat => ⟨128, [(0, .sv (things y0)), (1, .sv (ints y1)), (9, .box 9 0), (10, .sv (bv false)), (11, .sv (ints out)), (15, .sv (ints (lessL y1 out))), (18, .sv (ints (nodesL y0))), (19, .sv (iv i))],
                [(9, .box ((specCells y4).map .sv))]⟩)
              (fun i => i ≤ (nodesL y0).length) (fun i => (nodesL y0).length - i) 0 (by omega) (Ent.chk (by simp [go_sem])) ?_
            intro i hi
            by_cases hlt : i < (nodesL y0).length
            · have hlt' : (i : Int) < (nodesL y0).length := by omega
              have hw1 : IntKind.i64.wrap ((i : Int) + 1) = (i : Int) + 1 := by rw [i64w] <;> omega
              obtain ⟨x, hx⟩ : ∃ x, (nodesL y0)[i]? = some x := ⟨_, List.getElem?_eq_getElem hlt⟩
              obtain ⟨a, rfl, ha, hk2⟩ := nodes_get hx
              have hul := underL_len y0 a
              have hsa := hsl a ha hk2
              have hsc := Suits_c y0 (lessL y1 out) y4 a hl ht (by omega) hs4
              simp [go_sem, hlt, hlt', hx, gE hx]
              refine DrawW.rd rfl ?_
              simp [go_sem, hlt, hlt', hx, gE hx]
              refine OpD.call false (Under_c y0 a hl ht) rfl rfl (by simp [go_sem]) (fun h => by cases h) (by simp [go_sem]) (by simp [go_sem]) ?_
              simp [go_sem]
              refine OpD.call false (Apart_c out (underL y0 a) (by omega) (by omega)) rfl rfl (by simp [go_sem]) (fun h => by cases h) (by simp [go_sem]) (by simp [go_sem]) ?_
              cases hq : apartB out (underL y0 a) with
              | false =>
                simp [go_sem]
                refine ⟨by kernel_rfl, ?_⟩
                exact ⟨i + 1, by omega, by omega, Ent.chk (by simp [go_sem, hw1])⟩
              | true =>
                rw [hsa hq] at hsc
                simp [go_sem, hlt, hlt', hx, gE hx]
                refine OpD.call false hsc rfl rfl (by simp [go_sem]) (fun h => by cases h) (by simp [go_sem]) (by simp [go_sem]) ?_
                simp [go_sem, hlt, hlt', hx, gE hx]
                refine OpD.call false (Suits_c y0 y1 y4 a hl ht (by omega) hs4) rfl rfl (by simp [go_sem]) (fun h => by cases h) (by simp [go_sem]) (by simp [go_sem]) ?_
                simp [go_sem, bne]
                refine ⟨by kernel_rfl, ?_⟩
                exact ⟨i + 1, by omega, by omega, Ent.chk (by simp [go_sem, hw1])⟩
            · have hil : i = (nodesL y0).length := by omega
              subst hil
              simp [go_sem]
end Go.Proofs.YtfcojlagmmgagaaDoor.Ab
