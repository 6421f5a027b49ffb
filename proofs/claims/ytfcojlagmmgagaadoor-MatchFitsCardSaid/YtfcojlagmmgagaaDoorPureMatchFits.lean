/- The law MatchFits. -/
import Derived.Test.YtfcojlagmmgagaaDoorMaL
namespace Go.Proofs.YtfcojlagmmgagaaDoor.Ab
open Go.RowKit
set_option linter.unusedVariables false
set_option linter.unusedSimpArgs false

set_option maxRecDepth 100000 in
set_option maxHeartbeats 16000000 in
theorem law_MatchFits (y0 : List Thing) (y1 : List Int) (y2 : Spec) (G0 : y0.length * 32 ≤ 140737488351232 ∧ y0.length ≤ maxLen ∧ ∀ x ∈ y0, ThingOk x) (G1 : y1.length * 8 ≤ 140737488351232 ∧ y1.length ≤ maxLen ∧ ∀ x ∈ y1, (Lit.int .i64 x).wf = true)
    (G2 : SpecOk y2) : ACalls Tryd.prog 7 [things y0, ints y1, specSV y2] (· = .one (.sv (bv true))) := by
  have hl := things_len G0
  have ht := things_ok G0.2.2
  have hs := G2.2.2.2.1
  refine ACalls.of_bodyS (fun _ _ => Tryd.call7 _ _) Tryd.func7 rfl Tryd.ntmps7 (by simp) ?_
  refine Tr.ex ?_
  simp [go_sem]
  refine OpW.fn true awake9_c rfl rfl (by simp [go_sem]) (by rintro _ r rfl; simp [go_sem]) ?_
  rintro r rfl
  by_cases hs0 : 60 < (y0.length : Int)
  · simp [go_sem, hs0]
  by_cases hs1 : 300 < (y1.length : Int)
  · simp [go_sem, hs0, hs1]
  have hfl := find_len y0 y1 y2
  have hmc := Many_c y0 y1 y2 hl ht (by omega) hs
  simp [go_sem, hs0, hs1]
  refine OpW.fn false (Find_c y0 y1 y2 hl ht (by omega) hs) rfl rfl (by simp [go_sem]) (fun h => by cases h) ?_
  rintro r rfl
  cases hok : (findL y0 y1 y2).2 with
  | false =>
    have hno := findL_no hok
    have hfew := find_few hok
    rw [hno]
    generalize manyL y0 y1 y2 = m at *
    simp [go_sem]
    refine DrawW.rd rfl ?_
    simp [go_sem]
    refine OpD.call false (sRight_c y2 hs) rfl rfl (by simp [go_sem]) (fun h => by cases h) (by simp [go_sem]) (by simp [go_sem]) ?_
    cases hsp : isSpec y2 with
    | false =>
      simp [go_sem]
      show _ = true
      kernel_rfl
    | true =>
      have hf := hfew hsp
      simp [go_sem]
      refine OpD.call false hmc rfl rfl (by simp [go_sem]) (fun h => by cases h) (by simp [go_sem]) (by simp [go_sem]) ?_
      simp [go_sem, hf]
      show _ = true
      kernel_rfl
  | true =>
    have hm := mayB_iff.1 (findL_ok.1 hok).1
    have hnl := nodes_le y0
    have hall := cntSel_all hok
    have hmany := find_many hok
    have hmany' : ¬ (manyL y0 y1 y2 : Int) < y2.nodes := by omega
    have hpart := find_partB (g := y0) (s := y2) hm.2.1
    have hcould := could_of hok
    have hmeet := fun (a : Nat) h1 h2 => meet_got hok (a := a) h1 h2
    have hfacts := fun (a : Nat) h1 h2 h3 => got_facts hok (a := a) h1 h2 h3
    have hpc := Part_c (findL y0 y1 y2).1 y1 (by omega) (by omega)
    rw [hpart] at hpc
    have hcc := Could_c y0 y2 hl ht hs
    rw [hcould] at hcc
    generalize manyL y0 y1 y2 = m at *
    generalize (findL y0 y1 y2).1 = out at *
    simp [go_sem]
    refine DrawW.rd rfl ?_
    simp [go_sem]
    refine OpD.call false hmc rfl rfl (by simp [go_sem]) (fun h => by cases h) (by simp [go_sem]) (by simp [go_sem]) ?_
    simp [go_sem, hmany']
    refine OpD.call false hpc rfl rfl (by simp [go_sem]) (fun h => by cases h) (by simp [go_sem]) (by simp [go_sem]) ?_
    simp [go_sem]
    refine OpD.call false hcc rfl rfl (by simp [go_sem]) (fun h => by cases h) (by simp [go_sem]) (by simp [go_sem]) ?_
    simp [go_sem]
    refine ⟨by kernel_rfl, ?_⟩
    refine OpW.fn false (Nodes_c y0 hl ht) rfl rfl (by simp [go_sem]) (fun h => by cases h) ?_
    rintro r rfl
    simp [go_sem]
    refine LoopW.of (fun i : Nat => ⟨160, [(0, .sv (things y0)), (1, .sv (ints y1)), (5, .box 5 0), (6, .sv (bv false)), (7, .sv (ints out)), (9, .sv (iv (cntSel y0 y1 y2 i))), (10, .sv (ints (nodesL y0))), (11, .sv (iv i))],
        [(5, .box ((specCells y2).map .sv))]⟩)
      (fun i => i ≤ (nodesL y0).length) (fun i => (nodesL y0).length - i) 0 (by omega) (Ent.chk (by simp [go_sem, cntSel])) ?_
    intro i hi
    by_cases hlt : i < (nodesL y0).length
    · have hlt' : (i : Int) < (nodesL y0).length := by omega
      have hw1 : IntKind.i64.wrap ((i : Int) + 1) = (i : Int) + 1 := by rw [i64w] <;> omega
      obtain ⟨x, hx⟩ : ∃ x, (nodesL y0)[i]? = some x := ⟨_, List.getElem?_eq_getElem hlt⟩
      obtain ⟨a, rfl, ha, h2⟩ := nodes_get hx
      have hul := underL_len y0 a
      have hcs := cntSel_succ (free := y1) (s := y2) hx
      have hcl := cntSel_le y0 y1 y2 i
      have hgs := got_set hm.1 (free := y1) (s := y2) ha
      have hgl := set_len hgs
      have hmt := Meet_c out (underL y0 a) (by omega) (by omega)
      rw [hmeet a ha h2] at hmt
      simp [go_sem, hlt, hlt', hx, gE hx]
      refine OpW.fn false (Under_c y0 a hl ht) rfl rfl (by simp [go_sem]) (fun h => by cases h) ?_
      rintro r rfl
      simp [go_sem]
      refine OpW.fn false hmt rfl rfl (by simp [go_sem]) (fun h => by cases h) ?_
      rintro r rfl
      by_cases q : a ∈ selN y0 y1 y2
      case neg =>
        have hnil : gotL y0 y1 y2 a = [] := by unfold gotL; rw [if_neg q]
        rw [if_neg q] at hcs
        rw [hnil]
        simp [go_sem]
        exact ⟨i + 1, by omega, by omega, Ent.chk (by simp [go_sem, hw1, hcs])⟩
      have hw2 : IntKind.i64.wrap ((cntSel y0 y1 y2 i : Int) + 1) = (cntSel y0 y1 y2 i : Int) + 1 := by rw [i64w] <;> omega
      rw [if_pos q] at hcs
      obtain ⟨f1, f2, f3, f4, f5, f6⟩ := hfacts a ha h2 q
      have hkc := Kinds_c y0 (gotL y0 y1 y2 a) hl ht (by omega)
      rw [kinds_set9 hm.1 hgs] at hkc
      have f5' : ¬ (cnt y0 (gotL y0 y1 y2 a) 3 : Int) < y2.cores := by omega
      have f6' : ¬ (cnt y0 (gotL y0 y1 y2 a) 4 : Int) < y2.gpus := by omega
      have hsc := Suits_c y0 y1 y2 a hl ht (by omega) hs
      rw [f1] at hsc
      have hne : ((gotL y0 y1 y2 a).length == 0) = false := by rw [beq_eq_false_iff_ne]; omega
      have hne' : (((gotL y0 y1 y2 a).length : Int) == 0) = false := by rw [beq_eq_false_iff_ne]; omega
      have hne2 : ¬ gotL y0 y1 y2 a = [] := fun e => by rw [e] at f2; cases f2
      cases hw : y2.whole with
      | true =>
        have hgu := f3 hw
        rw [hgu] at hkc f5' f6' hne hne' hne2 ⊢
        generalize cnt y0 (underL y0 a) 0 = k0 at *
        generalize cnt y0 (underL y0 a) 1 = k1 at *
        generalize cnt y0 (underL y0 a) 2 = k2 at *
        generalize cnt y0 (underL y0 a) 3 = k3 at *
        generalize cnt y0 (underL y0 a) 4 = k4 at *
        simp [go_sem, hne, hne', hne2]
        refine OpW.fn true hkc rfl rfl (by simp [go_sem]) (by rintro _ r rfl; simp [go_sem]) ?_
        rintro r rfl
        simp [go_sem]
        refine DrawW.rd rfl ?_
        simp [go_sem, hw, hlt, hlt', hx, gE hx]
        refine OpD.call false hsc rfl rfl (by simp [go_sem, hw]) (fun h => by cases h) (by simp [go_sem]) (by simp [go_sem]) ?_
        simp [go_sem, hw, hlt, hlt', hx, gE hx]
        refine OpD.call false (Under_c y0 a hl ht) rfl rfl (by simp [go_sem]) (fun h => by cases h) (by simp [go_sem]) (by simp [go_sem]) ?_
        simp [go_sem, bne, hw, hlt, hlt', hx, gE hx, f5', f6']
        refine ⟨by kernel_rfl, ?_⟩
        exact ⟨i + 1, by omega, by omega, Ent.chk (by simp [go_sem, hw, hw1, hw2, hcs])⟩
      | false =>
        obtain ⟨g3, g4, g2⟩ := f4 hw
        generalize gotL y0 y1 y2 a = got at *
        generalize cnt y0 got 0 = k0 at *
        generalize cnt y0 got 1 = k1 at *
        generalize cnt y0 got 2 = k2 at *
        generalize cnt y0 got 3 = k3 at *
        generalize cnt y0 got 4 = k4 at *
        simp [go_sem, hne, hne', hne2]
        refine OpW.fn true hkc rfl rfl (by simp [go_sem]) (by rintro _ r rfl; simp [go_sem]) ?_
        rintro r rfl
        simp [go_sem]
        refine DrawW.rd rfl ?_
        simp [go_sem, hw, hlt, hlt', hx, gE hx]
        refine OpD.call false hsc rfl rfl (by simp [go_sem, hw]) (fun h => by cases h) (by simp [go_sem]) (by simp [go_sem]) ?_
        simp [go_sem, bne, hw, hlt, hlt', hx, gE hx, f5', f6', g3, g4, g2]
        refine ⟨by kernel_rfl, ?_⟩
        exact ⟨i + 1, by omega, by omega, Ent.chk (by simp [go_sem, hw, hw1, hw2, hcs])⟩
    · have hil : i = (nodesL y0).length := by omega
      subst hil
      simp [go_sem, hall]
end Go.Proofs.YtfcojlagmmgagaaDoor.Ab
