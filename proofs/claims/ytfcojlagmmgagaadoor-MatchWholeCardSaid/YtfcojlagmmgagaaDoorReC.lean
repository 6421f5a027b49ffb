/- The references 1 and 5: in, Has, Right; Over, Under, Above, Node, Kinds, Whole. -/
import Derived.Test.YtfcojlagmmgagaaDoorReA
import Derived.Test.YtfcojlagmmgagaaDoorGrP
namespace Go.Proofs.YtfcojlagmmgagaaDoor.Ab
open Go.RowKit
set_option linter.unusedVariables false
set_option linter.unusedSimpArgs false

theorem rIn_c (a : List Int) (n : Int) (ha : a.length ≤ 140737488355328) : ACalls Tryd.prog 97 [ints a, iv n] (· = .one (.sv (bv (decide (n ∈ a))))) := by
  refine ACalls.of_bodyS (fun _ _ => Tryd.call97 _ _) Tryd.func97 rfl Tryd.ntmps97 (by simp) ?_
  refine Tr.ex ?_
  simp [go_sem]
  refine LoopW.of (fun i : Nat => ⟨18, [(0, .sv (ints a)), (1, .sv (iv n)), (4, .sv (bv false)), (5, .sv (iv i))], []⟩)
    (fun i => i ≤ a.length ∧ n ∉ a.take i) (fun i => a.length - i) 0 ⟨by omega, by simp⟩ (Ent.chk (by simp [go_sem])) ?_
  rintro i ⟨hi, hn⟩
  by_cases hlt : i < a.length
  · have hlt' : (i : Int) < a.length := by omega
    have hx : a[i]? = some a[i] := List.getElem?_eq_getElem hlt
    have hm : a[i] ∈ a := List.getElem_mem hlt
    have htk : a.take (i + 1) = a.take i ++ [a[i]] := by rw [List.take_add_one, hx]; rfl
    have hw : IntKind.i64.wrap ((i : Int) + 1) = (i : Int) + 1 := by rw [i64w] <;> omega
    generalize a[i] = v at hx hm htk
    by_cases hv : v = n
    · subst hv
      simp [go_sem, hlt', hx, hm]
    · have hv' : (v == n) = false := by simpa using hv
      simp [go_sem, hlt', hx, hv']
      exact ⟨i + 1, ⟨by omega, by rw [htk]; simp [hn, Ne.symm hv]⟩, by omega, Ent.chk (by simp [go_sem, hw])⟩
  · have hil : i = a.length := by omega
    subst hil
    rw [List.take_length] at hn
    simp [go_sem, hn]
theorem r1Right_c (l : List Int) (hl : l.length ≤ 140737488355328) : ACalls Tryd.prog 93 [ints l] (· = .one (.sv (bv (isSet l)))) := by
  refine ACalls.of_bodyS (fun _ _ => Tryd.call93 _ _) Tryd.func93 rfl Tryd.ntmps93 (by simp) ?_
  refine Tr.ex ?_
  simp [go_sem]
  refine LoopW.of (fun i : Nat => ⟨38, [(0, .sv (ints l)), (2, .sv (bv false)), (3, .sv (iv i))], []⟩)
    (fun i => i ≤ l.length ∧ isSet (l.take i) = true) (fun i => l.length - i) 0 ⟨by omega, rfl⟩ (Ent.chk (by simp [go_sem])) ?_
  rintro i ⟨hi, hs⟩
  by_cases hlt : i < l.length
  · have hlt' : (i : Int) < l.length := by omega
    have hx : l[i]? = some l[i] := List.getElem?_eq_getElem hlt
    have htk : l.take (i + 1) = l.take i ++ [l[i]] := by rw [List.take_add_one, hx]; rfl
    have hsn := isSet_snoc (l.take i) l[i]
    rw [← htk, hs, Bool.true_and] at hsn
    have hw : IntKind.i64.wrap ((i : Int) + 1) = (i : Int) + 1 := by rw [i64w] <;> omega
    have hbad : isSet (l.take (i + 1)) = false → isSet l = false := fun h => by
      cases hh : isSet l with
      | false => rfl
      | true => rw [isSet_take hh] at h; cases h
    have hge := lastOf_ge hs
    have hlast : 0 < i → lastOf (l.take i) = l.getD (i - 1) 0 := fun h0 => by
      unfold lastOf
      rw [List.getLast?_eq_getElem?, List.length_take, List.getElem?_take, if_pos (by omega), Nat.min_eq_left hi, List.getD_eq_getElem?_getD, List.getElem?_eq_getElem (by omega)]; rfl
    generalize l[i] = v at hx hsn
    by_cases c1 : v < 0
    · have e := hbad (by rw [hsn]; simp; omega)
      simp [go_sem, hlt']
      refine DrawW.rd rfl ?_
      simp [go_sem, hlt', hx, c1, e]
      kernel_rfl
    · by_cases c2 : 255 < v
      · have e := hbad (by rw [hsn]; simp; omega)
        simp [go_sem, hlt']
        refine DrawW.rd rfl ?_
        simp [go_sem, hlt', hx, c1, c2, e]
        kernel_rfl
      · by_cases h0 : i = 0
        · subst h0
          have hg : isSet (l.take (0 + 1)) = true := by rw [hsn, show lastOf (l.take 0) = -1 from rfl]; simp; omega
          simp [go_sem, hlt]
          refine DrawW.rd rfl ?_
          simp [go_sem, hlt, hx, gE hx, c1, c2]
          exact ⟨by kernel_rfl, 1, ⟨by omega, hg⟩, by omega, Ent.chk (by simp [go_sem])⟩
        · have h0' : 0 < i := by omega
          have hl1 := hlast h0'
          have hp : l[i - 1]? = some (l.getD (i - 1) 0) := by rw [List.getD_eq_getElem?_getD, List.getElem?_eq_getElem (by omega)]; rfl
          have hw1 : IntKind.i64.wrap ((i : Int) - 1) = ((i - 1 : Nat) : Int) := by rw [i64w] <;> omega
          have hb1 : ((i - 1 : Nat) : Int) < l.length := by omega
          rw [hl1] at hsn
          generalize l.getD (i - 1) 0 = q at hsn hp
          by_cases c3 : v ≤ q
          · have e := hbad (by rw [hsn]; simp; omega)
            simp [go_sem, hlt']
            refine DrawW.rd rfl ?_
            simp [go_sem, hlt', hx, c1, c2, h0', hw1, hp, hb1, c3, e]
            kernel_rfl
          · have hg : isSet (l.take (i + 1)) = true := by rw [hsn]; simp; omega
            simp [go_sem, hlt']
            refine DrawW.rd rfl ?_
            simp [go_sem, hlt', hx, c1, c2, h0', hw1, hp, hb1, c3]
            exact ⟨by kernel_rfl, i + 1, ⟨by omega, hg⟩, by omega, Ent.chk (by simp [go_sem, hw])⟩
  · have hil : i = l.length := by omega
    subst hil
    rw [List.take_length] at hs
    simp [go_sem, hs]
theorem r1Has_c (a : List Int) (n : Int) (ha : a.length ≤ 140737488355328) : ACalls Tryd.prog 95 [ints a, iv n] (· = .one (.sv (bv (hasB a n)))) := by
  refine ACalls.of_bodyS (fun _ _ => Tryd.call95 _ _) Tryd.func95 rfl Tryd.ntmps95 (by simp) ?_
  refine Tr.ex ?_
  simp [go_sem]
  refine OpW.fn true (r1Right_c a ha) rfl rfl (by simp [go_sem]) (by rintro _ r rfl; simp [go_sem]) ?_
  rintro r rfl
  unfold hasB
  cases isSet a with
  | false => simp [go_sem]
  | true =>
    simp [go_sem]
    refine OpW.fn true (rIn_c a n ha) rfl rfl (by simp [go_sem]) (by rintro _ r rfl; simp [go_sem]) ?_
    rintro r rfl
    simp [go_sem]
theorem Over_c (g : List Thing) (n k : Nat) (hg : isGraph g = true) (hk : k < g.length) : ACalls Tryd.prog 113 [things g, iv n, iv k] (· = .one (.sv (bv (inU g n k)))) := by
  have hgl := isGraph_len hg
  refine ACalls.of_bodyS (fun _ _ => Tryd.call113 _ _) Tryd.func113 rfl Tryd.ntmps113 (by simp) ?_
  refine Tr.ex ?_
  simp [go_sem]
  let cur : Option Nat → Int := fun c => match c with | some i => (i : Int) | none => -1
  let rest : Option Nat → Bool := fun c => match c with | some i => inU g n i | none => false
  refine LoopW.of (fun s : Option Nat => ⟨18, [(0, .sv (things g)), (1, .sv (iv n)), (2, .sv (iv (cur s))), (6, .sv (bv false))], []⟩)
    (fun s => rest s = inU g n k ∧ ∀ i, s = some i → i < g.length) (fun s => match s with | some i => i + 1 | none => 0) (some k) ⟨rfl, fun i hi => by cases hi; omega⟩ (Ent.chk (by simp [go_sem, cur])) ?_
  rintro c ⟨hacc, hi⟩
  cases c with
  | none =>
    simp only [rest] at hacc
    have e1 : ¬ (n : Int) < -1 := by omega
    have e2 : ((-1 : Int) == n) = false := by simp
    simp [go_sem, cur, e1, e2, ← hacc]
  | some i =>
    have hil := hi i rfl
    simp only [rest] at hacc
    by_cases hni : n < i
    · have hni' : (n : Int) < i := by omega
      have hgi : g[i]? = some g[i] := List.getElem?_eq_getElem hil
      have hthi : th g i = g[i] := by unfold th; simp [hil]
      have hil' : (i : Int) < g.length := by omega
      have hup := isGraph_up hg (by omega) hil
      rw [inU.eq_1, dif_pos ⟨hup.1, hup.2.1⟩] at hacc
      have e : (i == n) = false := by simp; omega
      rw [e, Bool.false_or] at hacc
      rw [hthi] at hup hacc
      simp [go_sem, cur, hni', hni, hgi, hil, hil']
      exact ⟨some g[i].up.toNat, ⟨hacc, fun j hj => by cases hj; omega⟩, by simp; omega, Ent.chk (by simp [go_sem, cur] <;> omega)⟩
    · have hni' : ¬ (n : Int) < i := by omega
      have e : ((i : Int) == n) = inU g n k := by
        rw [← hacc]
        by_cases he : i = n
        · subst he; rw [inU_refl]; simp
        · have : inU g n i = false := by
            cases h : inU g n i with
            | false => rfl
            | true => have := inU_le h; omega
          rw [this]; simp; omega
      simp [go_sem, cur, hni', hni, e]
theorem rUnder_c (g : List Thing) (n : Int) (hg : g.length ≤ 140737488355328) (ht : Things g) : ACalls Tryd.prog 96 [things g, iv n] (· = .one (.sv (ints (underL g n)))) := by
  refine ACalls.of_bodyS (fun _ _ => Tryd.call96 _ _) Tryd.func96 rfl Tryd.ntmps96 (by simp) ?_
  refine Tr.ex ?_
  have hno : thereB g n = false → underL g n = [] := fun h => by unfold underL; rw [h]; rfl
  by_cases c1 : n < 0
  · have e := hno (by unfold thereB; simp; omega)
    simp [go_sem, c1, e]
  · by_cases c2 : (g.length : Int) ≤ n
    · have e := hno (by unfold thereB; simp; omega)
      simp [go_sem, c1, c2, e]
    · simp [go_sem, c1, c2]
      refine OpW.fn true (rRight_c g hg ht) rfl rfl (by simp [go_sem]) (by rintro _ r rfl; simp [go_sem]) ?_
      rintro r rfl
      cases hgr : isGraph g with
      | false =>
        have e := hno (by unfold thereB; simp [hgr])
        simp [go_sem, e]
      | true =>
        have hgl := isGraph_len hgr
        have hth : thereB g n = true := thereB_iff.2 ⟨by omega, by omega, hgr⟩
        rw [underL_eq hth]
        obtain ⟨m, rfl⟩ : ∃ m : Nat, n = m := ⟨n.toNat, by omega⟩
        simp only [Int.toNat_natCast]
        simp [go_sem]
        refine LoopW.of (fun i : Nat => ⟨35, [(0, .sv (things g)), (1, .sv (iv m)), (4, .nil), (5, .own 5), (6, .sv (iv i))], [(5, .row 1 ((rangeF (inU g m) i).map iv))]⟩)
          (fun i => i ≤ g.length) (fun i => g.length - i) 0 (by omega) (Ent.thaw 5 5 1 (by simp [go_sem]) (by simp [go_sem]) (by decide) (Ent.chk (by simp [go_sem, rangeF_zero]))) ?_
        rintro i hi
        by_cases hlt : i < g.length
        · have hlt' : (i : Int) < g.length := by omega
          have hw : IntKind.i64.wrap ((i : Int) + 1) = (i : Int) + 1 := by rw [i64w] <;> omega
          have hs := rangeF_succ (inU g m) i
          have hbl := rangeF_len (inU g m) i
          simp [go_sem, hlt']
          refine OpW.fn true (Over_c g m i hgr hlt) rfl rfl (by simp [go_sem]) (by rintro _ r rfl; simp [go_sem]) ?_
          rintro r rfl
          cases hm : inU g m i with
          | true =>
            rw [hm, if_pos rfl] at hs
            simp [go_sem]
            exact ⟨by omega, i + 1, by omega, by omega, Ent.rename2 33 5 (by simp [go_sem]) (Ent.chk (by simp [go_sem, hw, hs]))⟩
          | false =>
            rw [hm, if_neg (by simp)] at hs
            simp [go_sem]
            exact ⟨i + 1, by omega, by omega, Ent.chk (by simp [go_sem, hw, hs])⟩
        · have hil : i = g.length := by omega
          subst hil
          simp [go_sem]
theorem aboveL_eq {g : List Thing} {n : Int} (h : thereB g n = true) : aboveL g n = rangeF (fun k => inU g k n.toNat) (n.toNat + 1) := by
  have h1 := thereB_iff.1 h
  have h2 := isGraph_len h1.2.2
  refine set_ext (aboveL_set _ _) (rangeF_set _ (by omega)) fun k => ?_
  rw [aboveL_mem_iff, mem_rangeF]
  constructor
  · rintro ⟨_, k0, k1⟩; have := inU_le k1; exact ⟨k0, by omega, k1⟩
  · rintro ⟨k0, _, k1⟩; exact ⟨h, k0, k1⟩
theorem nodeOf_leaf {g : List Thing} {n : Int} (ht : thereB g n = true) (h3 : (th g n.toNat).kind = 3 ∨ (th g n.toNat).kind = 4) : nodeOf g n = (th g n.toNat).up := by
  have h1 := thereB_iff.1 ht
  have hu := leaf_up h1.2.2 (by omega) h3
  have hin : inU g (th g n.toNat).up.toNat n.toNat = true := (leaf_node h1.2.2 (by omega) h3 hu.2.2).2 (by omega)
  unfold nodeOf
  cases hf : (aboveL g n).find? fun k => (th g k.toNat).kind == 2 with
  | none =>
    rw [List.find?_eq_none] at hf
    have := hf (th g n.toNat).up (aboveL_mem_iff.2 ⟨ht, hu.1, hin⟩)
    simp [hu.2.2] at this
  | some k =>
    have hk := List.find?_some hf
    have hm := aboveL_mem_iff.1 (List.mem_of_find?_eq_some hf)
    have := (leaf_node h1.2.2 (by omega) h3 (by simpa using hk)).1 hm.2.2
    simp; omega
theorem nodeOf_none {g : List Thing} {n : Int} (ht : thereB g n = true) (h3 : (th g n.toNat).kind = 0 ∨ (th g n.toNat).kind = 1) : nodeOf g n = -1 := by
  have h1 := thereB_iff.1 ht
  unfold nodeOf
  have : (aboveL g n).find? (fun k => (th g k.toNat).kind == 2) = none := by
    rw [List.find?_eq_none]
    intro k hk
    have hm := aboveL_mem_iff.1 hk
    simp only [beq_iff_eq]
    intro h2
    by_cases he : k.toNat = n.toNat
    · rw [he] at h2; omega
    · have := inU_level h1.2.2 (by omega) hm.2.2 he
      rw [h2] at this
      unfold level at this
      rcases h3 with h3 | h3 <;> rw [h3] at this <;> simp at this
  rw [this]; rfl
theorem cnt_cntN {g : List Thing} {l : List Int} (hl : isSet l = true) (k : Int) : cnt g l k = cntN g (fun i => decide ((i : Int) ∈ l)) k := by
  have hl' := isSet_iff.1 hl
  have : (l.filter fun n : Int => decide (n < g.length) && (th g n.toNat).kind == k) = rangeF (fun i => decide ((i : Int) ∈ l) && (th g i).kind == k) g.length := by
    refine sorted_ext (hl'.1.filter _) (rangeF_sorted _ _) fun n => ?_
    rw [List.mem_filter, mem_rangeF]
    simp only [Bool.and_eq_true, decide_eq_true_eq]
    constructor
    · rintro ⟨h1, h2, h3⟩
      have := hl'.2 n h1
      exact ⟨this.1, h2, by rw [Int.toNat_of_nonneg this.1]; exact h1, h3⟩
    · rintro ⟨h1, h2, h3, h4⟩
      rw [Int.toNat_of_nonneg h1] at h3
      exact ⟨h3, h2, h4⟩
  unfold cnt cntN
  rw [this]; unfold rangeF; rw [List.length_map]
def cntTo (g : List Thing) (l : List Int) (i : Nat) (k : Int) : Nat := ((List.range i).filter fun i : Nat => hasB l i && (th g i).kind == k).length
theorem cntTo_succ (g : List Thing) (l : List Int) (i : Nat) (k : Int) : cntTo g l (i + 1) k = cntTo g l i k + if (hasB l i && (th g i).kind == k) = true then 1 else 0 := by
  unfold cntTo
  rw [List.range_succ, List.filter_append, List.length_append]
  congr 1
  cases h : (hasB l i && (th g i).kind == k) <;> simp [h]
theorem cntTo_le (g : List Thing) (l : List Int) (i : Nat) (k : Int) : cntTo g l i k ≤ i := by
  unfold cntTo; exact Nat.le_trans (List.length_filter_le _ _) (by simp)
theorem cntTo_all (g : List Thing) (l : List Int) (k : Int) : cntTo g l g.length k = if isSet l = true then cnt g l k else 0 := by
  cases hl : isSet l with
  | true =>
    rw [if_pos rfl, cnt_cntN hl]
    unfold cntTo cntN
    congr 1
    refine List.filter_congr fun i _ => ?_
    rw [hasB_iff hl]
  | false =>
    rw [if_neg (by simp)]
    unfold cntTo
    rw [List.length_eq_zero_iff, List.filter_eq_nil_iff]
    intro i _
    unfold hasB; rw [hl]; simp
end Go.Proofs.YtfcojlagmmgagaaDoor.Ab
