/- GraphNodes. -/
import Derived.Test.YtjpmldfmgogheaaLaG
namespace Go.Proofs.Ytjpmldfmgogheaa.Ab
open Go.RowKit
set_option linter.unusedVariables false
set_option linter.unusedSimpArgs false

set_option maxRecDepth 100000 in
set_option maxHeartbeats 4000000 in
theorem law_GraphNodes (y0 : List Thing) (G0 : y0.length * 32 ≤ 140737488351232 ∧ y0.length ≤ maxLen ∧ ∀ x ∈ y0, ThingOk x) : ACalls Try.prog 5 [things y0] (· = .one (.sv (bv true))) := by
  have hl := things_len G0
  have ht := things_ok G0.2.2
  refine ACalls.of_bodyS (fun _ _ => Try.call5 _ _) Try.func5 rfl Try.ntmps5 (by simp) ?_
  refine Tr.ex ?_
  simp [go_sem]
  refine OpW.fn true awake5_c rfl rfl (by simp [go_sem]) (by rintro _ r rfl; simp [go_sem]) ?_
  rintro r rfl
  by_cases hs : 60 < (y0.length : Int)
  · simp [go_sem, hs]
  · simp [go_sem, hs]
    refine OpW.fn true (gRight_c y0 hl ht) rfl rfl (by simp [go_sem]) (by rintro _ r rfl; simp [go_sem]) ?_
    rintro r rfl
    cases hg : isGraph y0 with
    | false => simp [go_sem]
    | true =>
      have hgl := isGraph_len hg
      have th0 : thereB y0 0 = true := thereB_iff.2 ⟨by omega, by omega, hg⟩
      have ul := fun n => underL_len y0 n
      have hk0 := Kinds_c y0 (underL y0 0) hl ht (by have := ul 0; omega)
      rw [kinds_under th0] at hk0
      have n2 := nodes_len hg
      have n0 : cntN y0 (inU y0 0) 0 = 1 := cntN_one (a := 0) (by omega) (inU_refl _ _) (isGraph_root hg).1 (fun i hi hk _ => (kind_zero hg hi).1 hk)
      have nall := cntN_all hg
      have nle := fun k => cntN_le y0 (inU y0 0) k
      have l3 := leafTo_all hg (k := 3) (.inl rfl)
      have l4 := leafTo_all hg (k := 4) (.inr rfl)
      have nmem := fun k => nodesL_mem (g := y0) (k := k)
      have s3 := fun i (hi : i < (nodesL y0).length) => leafTo_succ hg hi (k := 3) (.inl rfl)
      have s4 := fun i (hi : i < (nodesL y0).length) => leafTo_succ hg hi (k := 4) (.inr rfl)
      simp only [Int.toNat_zero] at hk0
      simp [go_sem]
      refine OpW.fn false (Nodes_c y0 hl ht) rfl rfl (by simp [go_sem]) (fun h => by cases h) ?_
      rintro r rfl
      simp [go_sem]
      refine OpW.fn false (Under_c y0 0 hl ht) rfl rfl (by simp [go_sem]) (fun h => by cases h) ?_
      rintro r rfl
      simp [go_sem]
      refine OpW.fn true hk0 rfl rfl (by simp [go_sem]) (by rintro _ r rfl; simp [go_sem]) ?_
      rintro r rfl
      have e2 : ((nodesL y0).length : Int) = cntN y0 (inU y0 0) 2 := by omega
      have w1 : IntKind.i64.wrap ((1 : Int) + cntN y0 (inU y0 0) 1) = 1 + cntN y0 (inU y0 0) 1 := by rw [i64w] <;> omega
      have w2 : IntKind.i64.wrap ((1 : Int) + cntN y0 (inU y0 0) 1 + cntN y0 (inU y0 0) 2) = 1 + cntN y0 (inU y0 0) 1 + cntN y0 (inU y0 0) 2 := by rw [i64w] <;> omega
      have w3 : IntKind.i64.wrap ((1 : Int) + cntN y0 (inU y0 0) 1 + cntN y0 (inU y0 0) 2 + cntN y0 (inU y0 0) 3) = 1 + cntN y0 (inU y0 0) 1 + cntN y0 (inU y0 0) 2 + cntN y0 (inU y0 0) 3 := by rw [i64w] <;> omega
      have w4 : IntKind.i64.wrap ((1 : Int) + cntN y0 (inU y0 0) 1 + cntN y0 (inU y0 0) 2 + cntN y0 (inU y0 0) 3 + cntN y0 (inU y0 0) 4) = y0.length := by rw [i64w] <;> omega
      simp [go_sem, n2, n0, w1, w2, w3, w4, bne]
      refine LoopW.of (fun i : Nat => ⟨113, [(0, .sv (things y0)), (2, .sv (bv false)), (3, .sv (ints (nodesL y0))), (4, .box 4 0), (5, .sv (iv (leafTo y0 ((nodesL y0).take i) 3))), (6, .sv (iv (leafTo y0 ((nodesL y0).take i) 4))), (7, .sv (iv i))],
          [(4, .box [.sv (iv 1), .sv (iv (cntN y0 (inU y0 0) 1)), .sv (iv (cntN y0 (inU y0 0) 2)), .sv (iv (cntN y0 (inU y0 0) 3)), .sv (iv (cntN y0 (inU y0 0) 4))])]⟩)
        (fun i => i ≤ (nodesL y0).length) (fun i => (nodesL y0).length - i) 0 (by omega) (Ent.chk (by
          have : ∀ k, leafTo y0 [] k = 0 := fun k => cntN_none fun i _ _ => by simp
          simp [go_sem, this])) ?_
      rintro i hi
      by_cases hlt : i < (nodesL y0).length
      · have hlt' : (i : Int) < (nodesL y0).length := by omega
        have hx : (nodesL y0)[i]? = some (nodesL y0)[i] := List.getElem?_eq_getElem hlt
        have hm := (nmem _).1 (List.getElem_mem hlt)
        have q3 := s3 i hlt
        have q4 := s4 i hlt
        have hle3 : leafTo y0 ((nodesL y0).take i) 3 ≤ y0.length := cntN_le _ _ _
        have hle4 : leafTo y0 ((nodesL y0).take i) 4 ≤ y0.length := cntN_le _ _ _
        generalize (nodesL y0)[i] = a at hx hm q3 q4
        have tha : thereB y0 a = true := thereB_iff.2 ⟨hm.2.1, hm.2.2.1, hg⟩
        have han : a.toNat < y0.length := by omega
        have hga : y0[a.toNat]? = some y0[a.toNat] := List.getElem?_eq_getElem han
        have hth : th y0 a.toNat = y0[a.toNat] := by unfold th; simp [han]
        have hk2 : y0[a.toNat].kind = 2 := by rw [← hth]; exact hm.2.2.2
        have hka := Kinds_c y0 (underL y0 a) hl ht (by have := ul a; omega)
        rw [kinds_under tha] at hka
        have c2 : cntN y0 (inU y0 a.toNat) 2 = 1 := cntN_one han (inU_refl _ _) hm.2.2.2 (fun j hj hj2 h => (node_one hg hj hm.2.2.2 hj2 h).symm)
        have hno := nodeOf_node tha hm.2.2.2
        have hw : IntKind.i64.wrap ((i : Int) + 1) = (i : Int) + 1 := by rw [i64w] <;> omega
        have b3 := cntN_le y0 (inU y0 a.toNat) 3
        have b4 := cntN_le y0 (inU y0 a.toNat) 4
        have v3 : IntKind.i64.wrap ((leafTo y0 ((nodesL y0).take i) 3 : Int) + cntN y0 (inU y0 a.toNat) 3) = leafTo y0 ((nodesL y0).take (i + 1)) 3 := by rw [i64w] <;> omega
        have v4 : IntKind.i64.wrap ((leafTo y0 ((nodesL y0).take i) 4 : Int) + cntN y0 (inU y0 a.toNat) 4) = leafTo y0 ((nodesL y0).take (i + 1)) 4 := by rw [i64w] <;> omega
        have hc := Node_c y0 a hl ht
        rw [hno] at hc
        simp [go_sem, hlt', hx]
        refine OpW.fn false (Under_c y0 a hl ht) rfl rfl (by simp [go_sem]) (fun h => by cases h) ?_
        rintro r rfl
        simp [go_sem]
        refine OpW.fn true hka rfl rfl (by simp [go_sem]) (by rintro _ r rfl; simp [go_sem]) ?_
        rintro r rfl
        rw [c2]
        simp [go_sem]
        refine DrawW.rd rfl ?_
        simp [go_sem, v3, v4]
        refine ⟨by kernel_rfl, ?_⟩
        refine DrawW.rd rfl ?_
        simp [go_sem, hlt', hx, hga, hm.2.1, hm.2.2.1, hk2, bne]
        refine OpD.call true hc rfl rfl (by simp [go_sem]) (by intro _; simp [go_sem]) (by simp [go_sem]) (by simp [go_sem]) ?_
        simp [go_sem, hlt', hx, bne]
        exact ⟨by kernel_rfl, i + 1, by omega, by omega, Ent.chk (by simp [go_sem, hw])⟩
      · have hil : i = (nodesL y0).length := by omega
        subst hil
        simp [go_sem, l3, l4]
end Go.Proofs.Ytjpmldfmgogheaa.Ab
