/- The law MatchWhole. -/
import Derived.Test.YtfcojlagmmgagaaDoorMaL
namespace Go.Proofs.YtfcojlagmmgagaaDoor.Ab
open Go.RowKit
set_option linter.unusedVariables false
set_option linter.unusedSimpArgs false

set_option maxRecDepth 100000 in
set_option maxHeartbeats 8000000 in
theorem law_MatchWhole (y0 : List Thing) (y1 : List Int) (y2 : Spec) (G0 : y0.length * 32 ≤ 140737488351232 ∧ y0.length ≤ maxLen ∧ ∀ x ∈ y0, ThingOk x) (G1 : y1.length * 8 ≤ 140737488351232 ∧ y1.length ≤ maxLen ∧ ∀ x ∈ y1, (Lit.int .i64 x).wf = true)
    (G2 : SpecOk y2) : ACalls Tryd.prog 5 [things y0, ints y1, specSV y2] (· = .one (.sv (bv true))) := by
  have hl := things_len G0
  have ht := things_ok G0.2.2
  have hs := G2.2.2.2.1
  refine ACalls.of_bodyS (fun _ _ => Tryd.call5 _ _) Tryd.func5 rfl Tryd.ntmps5 (by simp) ?_
  refine Tr.ex ?_
  simp [go_sem]
  refine OpW.fn true awake9_c rfl rfl (by simp [go_sem]) (by rintro _ r rfl; simp [go_sem]) ?_
  rintro r rfl
  by_cases hs0 : 60 < (y0.length : Int)
  · simp [go_sem, hs0]
  by_cases hs1 : 300 < (y1.length : Int)
  · simp [go_sem, hs0, hs1]
  have hfl := find_len y0 y1 (inPart y2 true)
  simp [go_sem, hs0, hs1]
  refine OpW.fn false (Find_c y0 y1 (inPart y2 true) hl ht (by omega) hs) rfl rfl (by simp [go_sem]) (fun h => by cases h) ?_
  rintro r rfl
  cases hok : (findL y0 y1 (inPart y2 true)).2 with
  | false =>
    have hno := findL_no hok
    rw [hno]
    simp [go_sem]
  | true =>
    have hm := mayB_iff.1 (findL_ok.1 hok).1
    have hnl := nodes_le y0
    have hall := cntSel_all hok
    have hpart := fun (a : Nat) h1 h2 => part_sel hok rfl (a := a) h1 h2
    have hapart := fun (a : Nat) h1 h2 => apart_sel hok (a := a) h1 h2
    have hfp := find_part hok
    generalize (findL y0 y1 (inPart y2 true)).1 = out at *
    simp [go_sem]
    refine OpW.fn false (Nodes_c y0 hl ht) rfl rfl (by simp [go_sem]) (fun h => by cases h) ?_
    rintro r rfl
    simp [go_sem]
    refine LoopW.of (fun i : Nat => ⟨85, [(0, .sv (things y0)), (1, .sv (ints y1)), (5, .box 5 0), (6, .sv (bv false)), (7, .sv (ints out)), (9, .sv (ints (nodesL y0))), (10, .sv (iv (cntSel y0 y1 (inPart y2 true) i))), (11, .sv (iv i))],
        [(5, .box ((specCells (inPart y2 true)).map .sv))]⟩)
      (fun i => i ≤ (nodesL y0).length) (fun i => (nodesL y0).length - i) 0 (by omega) (Ent.chk (by simp [go_sem, cntSel])) ?_
    intro i hi
    by_cases hlt : i < (nodesL y0).length
    · have hlt' : (i : Int) < (nodesL y0).length := by omega
      have hw1 : IntKind.i64.wrap ((i : Int) + 1) = (i : Int) + 1 := by rw [i64w] <;> omega
      obtain ⟨x, hx⟩ : ∃ x, (nodesL y0)[i]? = some x := ⟨_, List.getElem?_eq_getElem hlt⟩
      obtain ⟨a, rfl, ha, h2⟩ := nodes_get hx
      have hul := underL_len y0 a
      have hcs := cntSel_succ (free := y1) (s := inPart y2 true) hx
      have hcl := cntSel_le y0 y1 (inPart y2 true) i
      have hp1 := hpart a ha h2
      have hp2 := hapart a ha h2
      simp [go_sem, hlt, hlt', hx, gE hx]
      refine OpW.fn false (Under_c y0 a hl ht) rfl rfl (by simp [go_sem]) (fun h => by cases h) ?_
      rintro r rfl
      simp [go_sem]
      refine OpW.fn true (Part_c (underL y0 a) out (by omega) (by omega)) rfl rfl (by simp [go_sem]) (by rintro _ r rfl; simp [go_sem]) ?_
      rintro r rfl
      rw [hp1]
      by_cases q : a ∈ selN y0 y1 (inPart y2 true)
      · have hw2 : IntKind.i64.wrap ((cntSel y0 y1 (inPart y2 true) i : Int) + 1) = (cntSel y0 y1 (inPart y2 true) i : Int) + 1 := by rw [i64w] <;> omega
        rw [if_pos q] at hcs
        simp [go_sem, q]
        exact ⟨i + 1, by omega, by omega, Ent.chk (by simp [go_sem, hw1, hw2, hcs])⟩
      · rw [if_neg q] at hcs
        simp [go_sem, q]
        refine OpW.fn true (Apart_c (underL y0 a) out (by omega) (by omega)) rfl rfl (by simp [go_sem]) (by rintro _ r rfl; simp [go_sem]) ?_
        rintro r rfl
        rw [hp2 q]
        simp [go_sem]
        exact ⟨i + 1, by omega, by omega, Ent.chk (by simp [go_sem, hw1, hcs])⟩
    · have hil : i = (nodesL y0).length := by omega
      subst hil
      have hall' : (cntSel y0 y1 (inPart y2 true) (nodesL y0).length : Int) = y2.nodes := hall
      simp [go_sem]
      refine OpW.fn false (Find_c y0 y1 (inPart y2 false) hl ht (by omega) hs) rfl rfl (by simp [go_sem]) (fun h => by cases h) ?_
      rintro r rfl
      rw [hfp]
      by_cases c1 : 0 < y2.cores
      · simp [go_sem, hall', c1]
      · by_cases c2 : 0 < y2.gpus <;> simp [go_sem, hall', c1, c2]
end Go.Proofs.YtfcojlagmmgagaaDoor.Ab
