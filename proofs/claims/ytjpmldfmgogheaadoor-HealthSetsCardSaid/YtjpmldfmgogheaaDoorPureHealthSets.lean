/- HealthSets, HealthUsable. -/
import Derived.Test.YtjpmldfmgogheaaDoorPureGraphWhole
import Derived.Test.YtjpmldfmgogheaaDoorHeP
namespace Go.Proofs.YtjpmldfmgogheaaDoor.Ab
open Go.RowKit
set_option linter.unusedVariables false
set_option linter.unusedSimpArgs false

/-- What is set on a thing is seen under it alone. -/
theorem worstAt_apart {g : List Thing} {h : List Int} {n i : Nat} {v : Int} (hi : inU g n i = false) : worstAt g (h.set n v) i = worstAt g h i := by
  induction i using Nat.strongRecOn with
  | _ i ih =>
    have hne : n ≠ i := by rintro rfl; rw [inU_refl] at hi; cases hi
    have hgd : (h.set n v).getD i 0 = h.getD i 0 := by rw [List.getD_eq_getElem?_getD, List.getD_eq_getElem?_getD, List.getElem?_set_ne hne]
    rw [worstAt_mx g _ i, worstAt_mx g h i, hgd]
    split
    · rename_i hh
      have : inU g n (th g i).up.toNat = false := by
        cases hq : inU g n (th g i).up.toNat with
        | false => rfl
        | true => rw [inU_up hh.1 hh.2 hq] at hi; cases hi
      rw [ih _ (by omega) this]
    · rfl
theorem worstAt_ge {g : List Thing} {h : List Int} {n : Nat} : ∀ {i : Nat}, inU g n i = true → h.getD n 0 ≤ worstAt g h i := by
  intro i
  induction i using Nat.strongRecOn with
  | _ i ih =>
    intro hi
    rw [worstAt_mx g h i]
    by_cases he : n = i
    · subst he
      split
      · unfold mx; split <;> omega
      · exact Int.le_refl _
    · obtain ⟨q1, q2, q3⟩ := inU_step hi he
      rw [if_pos ⟨q1, q2⟩]
      have := ih _ (by omega) q3
      unfold mx; split <;> omega
/-- How bad a thing is, is how bad something above it is. -/
theorem worstAt_some (g : List Thing) (h : List Int) (i : Nat) : ∃ n, inU g n i = true ∧ h.getD n 0 = worstAt g h i := by
  induction i using Nat.strongRecOn with
  | _ i ih =>
    rw [worstAt_mx g h i]
    split
    · rename_i hh
      unfold mx
      split
      · obtain ⟨n, h1, h2⟩ := ih _ (show (th g i).up.toNat < i by omega)
        exact ⟨n, inU_up hh.1 hh.2 h1, h2⟩
      · exact ⟨i, inU_refl _ _, rfl⟩
    · exact ⟨i, inU_refl _ _, rfl⟩
set_option maxRecDepth 100000 in
set_option maxHeartbeats 4000000 in
theorem law_HealthSets (y0 : List Thing) (y1 : List Int) (y2 y3 : Int) (G0 : y0.length * 32 ≤ 140737488351232 ∧ y0.length ≤ maxLen ∧ ∀ x ∈ y0, ThingOk x) (G1 : y1.length * 8 ≤ 140737488351232 ∧ y1.length ≤ maxLen ∧ ∀ x ∈ y1, (Lit.int .i64 x).wf = true)
    (G2 : (Lit.int .i64 y2).wf = true) (G3 : (Lit.int .u8 y3).wf = true) : ACalls Tryd.prog 5 [things y0, ints y1, iv y2, .val (.int .u8 y3)] (· = .one (.sv (bv true))) := by
  have hl := things_len G0
  have ht := things_ok G0.2.2
  have hl1 := ints_len G1
  refine ACalls.of_bodyS (fun _ _ => Tryd.call5 _ _) Tryd.func5 rfl Tryd.ntmps5 (by simp) ?_
  refine Tr.ex ?_
  simp [go_sem]
  refine OpW.fn true awake6_c rfl rfl (by simp [go_sem]) (by rintro _ r rfl; simp [go_sem]) ?_
  rintro r rfl
  by_cases hs : 60 < (y0.length : Int)
  · simp [go_sem, hs]
  · simp [go_sem, hs]
    refine OpW.fn true (hRight_c y0 y1 hl ht (by omega)) rfl rfl (by simp [go_sem]) (by rintro _ r rfl; simp [go_sem]) ?_
    rintro r rfl
    cases hh : isHealth y0 y1 with
    | false => simp [go_sem]
    | true =>
      obtain ⟨hgr, hlen, hr⟩ := isHealth_spec hh
      by_cases c3 : y2 < 0
      · simp [go_sem, c3]
      · have c3' : 0 ≤ y2 := by omega
        by_cases c4 : y2 < y0.length
        · have c6 : ¬ (y0.length : Int) ≤ y2 := by omega
          have b3 : 0 ≤ y3 ∧ y3 ≤ 255 := by simpa [Lit.wf, IntKind.min, IntKind.max, IntKind.bits, IntKind.signed] using G3
          have m3 : 0 ≤ y3.tmod 3 ∧ y3.tmod 3 ≤ 2 := by rw [Int.tmod_eq_emod_of_nonneg b3.1]; omega
          have w3 : IntKind.i64.wrap (y3.tmod 3) = y3.tmod 3 := by rw [i64w] <;> omega
          generalize hkk : y3.tmod 3 = k at m3 w3
          have hn1 : y2.toNat < y1.length := by omega
          have hx1 : y1[y2.toNat]? = some y1[y2.toNat] := List.getElem?_eq_getElem hn1
          have hv := hr _ (List.getElem_mem hn1)
          have hb1 : y2 < y1.length := by omega
          have e1 := setH_ok hh c3' hb1 m3.1 m3.2
          have hx := isHealth_set hh (n := y2.toNat) m3.1 m3.2
          have e2 := setH_ok hx c3' (by simp; omega) hv.1 hv.2
          have e3 : (y1.set y2.toNat k).set y2.toNat y1[y2.toNat] = y1 := by rw [List.set_set, List.set_getElem_self]
          rw [e3] at e2
          have hth : thereB y0 y2 = true := thereB_iff.2 ⟨c3', c4, hgr⟩
          have hxl : (y1.set y2.toNat k).length = y0.length := by simp [hlen]
          have hap : ∀ i, inU y0 y2.toNat i = false → worstAt y0 (y1.set y2.toNat k) i = worstAt y0 y1 i := fun i hi => worstAt_apart hi
          have hge : ∀ i, inU y0 y2.toNat i = true → k ≤ worstAt y0 (y1.set y2.toNat k) i := fun i hi => by
            have := worstAt_ge (h := y1.set y2.toNat k) hi
            rwa [List.getD_eq_getElem?_getD, List.getElem?_set, if_pos rfl, if_pos hn1] at this
          generalize y1.set y2.toNat k = x at e1 e2 hx hxl hap hge
          have hless : lessL (belowL y0 x 0) (underL y0 y2) = lessL (belowL y0 y1 0) (underL y0 y2) := by
            refine set_ext (lessL_set _ _) (lessL_set _ _) fun n => ?_
            rw [lessL_mem (belowL_set _ _ _) (underL_set _ _), lessL_mem (belowL_set _ _ _) (underL_set _ _), belowL_mem, belowL_mem, underL_mem]
            constructor
            · rintro ⟨⟨_, n0, n1, n2⟩, n3⟩
              have : inU y0 y2.toNat n.toNat = false := by
                cases hq : inU y0 y2.toNat n.toNat with
                | false => rfl
                | true => exact (n3 ⟨hth, n0, n1, hq⟩).elim
              exact ⟨⟨hh, n0, n1, by rw [← hap _ this]; exact n2⟩, n3⟩
            · rintro ⟨⟨_, n0, n1, n2⟩, n3⟩
              have : inU y0 y2.toNat n.toNat = false := by
                cases hq : inU y0 y2.toNat n.toNat with
                | false => rfl
                | true => exact (n3 ⟨hth, n0, n1, hq⟩).elim
              exact ⟨⟨hx, n0, n1, by rw [hap _ this]; exact n2⟩, n3⟩
          have hapart : k = 2 → apartB (belowL y0 x 1) (underL y0 y2) = true := fun hk => by
            rw [apartB_iff (belowL_set _ _ _) (underL_set _ _)]
            intro n hn hu
            rw [belowL_mem] at hn
            rw [underL_mem] at hu
            have := hge _ hu.2.2.2
            omega
          have ul := underL_len y0 y2
          have bx0 := belowL_len y0 x 0
          have bx1 := belowL_len y0 x 1
          have by0 := belowL_len y0 y1 0
          have hls := set_len (lessL_set (belowL y0 y1 0) (underL y0 y2))
          simp [go_sem, c3, c4, c6, hkk, w3]
          refine OpW.fn false (hSet_c y0 y1 y2 k hl ht (by omega)) rfl rfl (by simp [go_sem]) (fun h => by cases h) ?_
          rintro r rfl
          rw [e1]
          simp [go_sem, hx1, c3', hb1]
          refine OpW.fn false (hSet_c y0 x y2 y1[y2.toNat] hl ht (by omega)) rfl rfl (by simp [go_sem]) (fun h => by cases h) ?_
          rintro r rfl
          rw [e2]
          simp [go_sem]
          refine OpW.fn false (Under_c y0 y2 hl ht) rfl rfl (by simp [go_sem]) (fun h => by cases h) ?_
          rintro r rfl
          simp [go_sem, bne]
          refine OpW.fn true (Same_c y1 y1 (by omega) (by omega)) rfl rfl (by simp [go_sem]) (by rintro _ r rfl; simp [go_sem]) ?_
          rintro r rfl
          simp [go_sem]
          refine OpW.fn false (Usable_c y0 x hl ht (by omega)) rfl rfl (by simp [go_sem]) (fun h => by cases h) ?_
          rintro r rfl
          simp [go_sem]
          refine OpW.fn false (Less_c (belowL y0 x 0) (underL y0 y2) (by omega) (by omega)) rfl rfl (by simp [go_sem]) (fun h => by cases h) ?_
          rintro r rfl
          rw [hless]
          simp [go_sem]
          refine OpW.fn false (Usable_c y0 y1 hl ht (by omega)) rfl rfl (by simp [go_sem]) (fun h => by cases h) ?_
          rintro r rfl
          simp [go_sem]
          refine OpW.fn false (Less_c (belowL y0 y1 0) (underL y0 y2) (by omega) (by omega)) rfl rfl (by simp [go_sem]) (fun h => by cases h) ?_
          rintro r rfl
          simp [go_sem]
          refine OpW.fn true (Same_c (lessL (belowL y0 y1 0) (underL y0 y2)) (lessL (belowL y0 y1 0) (underL y0 y2)) (by omega) (by omega)) rfl rfl (by simp [go_sem]) (by rintro _ r rfl; simp [go_sem]) ?_
          rintro r rfl
          by_cases hk : k = 2
          · have hap2 := hapart hk
            subst hk
            simp [go_sem, bne]
            refine OpW.fn false (Works_c y0 x hl ht (by omega)) rfl rfl (by simp [go_sem]) (fun h => by cases h) ?_
            rintro r rfl
            simp [go_sem]
            refine OpW.fn true (Apart_c (belowL y0 x 1) (underL y0 y2) (by omega) (by omega)) rfl rfl (by simp [go_sem]) (by rintro _ r rfl; simp [go_sem]) ?_
            rintro r rfl
            rw [hap2]
            simp [go_sem]
          · have hk' : (k == 2) = false := by simpa using hk
            simp [go_sem, bne, hk']
        · have c6 : (y0.length : Int) ≤ y2 := by omega
          simp [go_sem, c3, c4, c6]
def someTo (h : List Int) (a : List Int) (i : Nat) : Bool := (a.take i).any fun k => h.getD k.toNat 0 == 1
set_option maxRecDepth 100000 in
set_option maxHeartbeats 4000000 in
theorem law_HealthUsable (y0 : List Thing) (y1 : List Int) (G0 : y0.length * 32 ≤ 140737488351232 ∧ y0.length ≤ maxLen ∧ ∀ x ∈ y0, ThingOk x) (G1 : y1.length * 8 ≤ 140737488351232 ∧ y1.length ≤ maxLen ∧ ∀ x ∈ y1, (Lit.int .i64 x).wf = true) :
    ACalls Tryd.prog 6 [things y0, ints y1] (· = .one (.sv (bv true))) := by
  have hl := things_len G0
  have ht := things_ok G0.2.2
  have hl1 := ints_len G1
  refine ACalls.of_bodyS (fun _ _ => Tryd.call6 _ _) Tryd.func6 rfl Tryd.ntmps6 (by simp) ?_
  refine Tr.ex ?_
  simp [go_sem]
  refine OpW.fn true awake6_c rfl rfl (by simp [go_sem]) (by rintro _ r rfl; simp [go_sem]) ?_
  rintro r rfl
  by_cases hs : 60 < (y0.length : Int)
  · simp [go_sem, hs]
  · simp [go_sem, hs]
    refine OpW.fn true (hRight_c y0 y1 hl ht (by omega)) rfl rfl (by simp [go_sem]) (by rintro _ r rfl; simp [go_sem]) ?_
    rintro r rfl
    cases hh : isHealth y0 y1 with
    | false => simp [go_sem]
    | true =>
      obtain ⟨hgr, hlen, hr⟩ := isHealth_spec hh
      have hgl := isGraph_len hgr
      have hwhole : ∀ m, wholeL y0 (belowL y0 y1 m) = belowL y0 y1 m := fun m => by
        refine set_ext (wholeL_set _ _) (belowL_set _ _ _) fun k => ?_
        rw [wholeL_mem hgr (belowL_set _ _ _) (fun n hn => (belowL_mem.1 hn).2.2.1)]
        constructor
        · rintro ⟨h1, h2, n, hn, h3⟩
          rw [belowL_mem] at hn ⊢
          refine ⟨hh, h1, h2, ?_⟩
          obtain ⟨m', hm1, hm2⟩ := worstAt_some y0 y1 k.toNat
          have := worstAt_ge (h := y1) (inU_trans hm1 h3)
          omega
        · intro hk
          have := belowL_mem.1 hk
          exact ⟨this.2.1, this.2.2.1, k, hk, inU_refl _ _⟩
      have hpart : partB (belowL y0 y1 0) (belowL y0 y1 1) = true := by
        rw [partB_iff (belowL_set _ _ _) (belowL_set _ _ _)]
        intro n hn
        rw [belowL_mem] at hn ⊢
        exact ⟨hn.1, hn.2.1, hn.2.2.1, by omega⟩
      have b0 := belowL_len y0 y1 0
      have b1 := belowL_len y0 y1 1
      have hlm := fun n => lessL_mem (belowL_set y0 y1 1) (belowL_set y0 y1 0) (n := n)
      have hll := set_len (lessL_set (belowL y0 y1 1) (belowL y0 y1 0))
      have w0 := hwhole 0
      have w1 := hwhole 1
      simp [go_sem]
      refine OpW.fn false (Usable_c y0 y1 hl ht (by omega)) rfl rfl (by simp [go_sem]) (fun h => by cases h) ?_
      rintro r rfl
      simp [go_sem]
      refine OpW.fn false (Works_c y0 y1 hl ht (by omega)) rfl rfl (by simp [go_sem]) (fun h => by cases h) ?_
      rintro r rfl
      simp [go_sem]
      refine OpW.fn true (Part_c (belowL y0 y1 0) (belowL y0 y1 1) (by omega) (by omega)) rfl rfl (by simp [go_sem]) (by rintro _ r rfl; simp [go_sem]) ?_
      rintro r rfl
      rw [hpart]
      simp [go_sem]
      refine OpW.fn false (Whole_c y0 (belowL y0 y1 0) hl ht (by omega)) rfl rfl (by simp [go_sem]) (fun h => by cases h) ?_
      rintro r rfl
      rw [w0]
      simp [go_sem]
      refine OpW.fn true (Same_c (belowL y0 y1 0) (belowL y0 y1 0) (by omega) (by omega)) rfl rfl (by simp [go_sem]) (by rintro _ r rfl; simp [go_sem]) ?_
      rintro r rfl
      simp [go_sem]
      refine OpW.fn false (Whole_c y0 (belowL y0 y1 1) hl ht (by omega)) rfl rfl (by simp [go_sem]) (fun h => by cases h) ?_
      rintro r rfl
      rw [w1]
      simp [go_sem]
      refine OpW.fn true (Same_c (belowL y0 y1 1) (belowL y0 y1 1) (by omega) (by omega)) rfl rfl (by simp [go_sem]) (by rintro _ r rfl; simp [go_sem]) ?_
      rintro r rfl
      simp [go_sem]
      refine OpW.fn false (Less_c (belowL y0 y1 1) (belowL y0 y1 0) (by omega) (by omega)) rfl rfl (by simp [go_sem]) (fun h => by cases h) ?_
      rintro r rfl
      generalize lessL (belowL y0 y1 1) (belowL y0 y1 0) = l at hlm hll
      simp [go_sem]
      refine LoopW.of (fun i : Nat => ⟨83, [(0, .sv (things y0)), (1, .sv (ints y1)), (4, .sv (bv false)), (7, .sv (ints l)), (8, .sv (iv i))], []⟩)
        (fun i => i ≤ l.length) (fun i => l.length - i) 0 (by omega) (Ent.chk (by simp [go_sem])) ?_
      rintro i hi
      by_cases hlt : i < l.length
      · have hlt' : (i : Int) < l.length := by omega
        have hx : l[i]? = some l[i] := List.getElem?_eq_getElem hlt
        have hm := (hlm _).1 (List.getElem_mem hlt)
        have hw : IntKind.i64.wrap ((i : Int) + 1) = (i : Int) + 1 := by rw [i64w] <;> omega
        generalize l[i] = v at hx hm
        rw [belowL_mem, belowL_mem] at hm
        have hthv : thereB y0 v = true := thereB_iff.2 ⟨hm.1.2.1, hm.1.2.2.1, hgr⟩
        have hal := set_len (aboveL_set y0 v)
        have ham := fun k => aboveL_mem (g := y0) (n := v) (k := k)
        -- something above it is to be drained
        have hsome : someTo y1 (aboveL y0 v) (aboveL y0 v).length = true := by
          unfold someTo
          rw [List.take_length, List.any_eq_true]
          obtain ⟨n, h1, h2⟩ := worstAt_some y0 y1 v.toNat
          have h3 : ¬ worstAt y0 y1 v.toNat ≤ 0 := fun h => hm.2 ⟨hh, hm.1.2.1, hm.1.2.2.1, h⟩
          have h4 := hm.1.2.2.2
          refine ⟨(n : Int), aboveL_mem_iff.2 ⟨hthv, by omega, by simpa using h1⟩, ?_⟩
          simp only [Int.toNat_natCast, h2, beq_iff_eq]
          omega
        simp [go_sem, hlt', hx]
        refine OpW.fn false (Above_c y0 v hl ht) rfl rfl (by simp [go_sem]) (fun h => by cases h) ?_
        rintro r rfl
        generalize aboveL y0 v = a at hal ham hsome
        simp [go_sem]
        refine LoopW.of (fun k : Nat => ⟨83, [(0, .sv (things y0)), (1, .sv (ints y1)), (4, .sv (bv false)), (7, .sv (ints l)), (8, .sv (iv i)), (9, .sv (ints a)), (10, .sv (bv (someTo y1 a k))), (11, .sv (iv k))], []⟩)
          (fun k => k ≤ a.length) (fun k => a.length - k) 0 (by omega) (Ent.chk (by simp [go_sem, someTo])) ?_
        rintro k hk
        by_cases hkl : k < a.length
        · have hkl' : (k : Int) < a.length := by omega
          have hak : a[k]? = some a[k] := List.getElem?_eq_getElem hkl
          have hb := ham a[k] (List.getElem_mem hkl)
          have hwk : IntKind.i64.wrap ((k : Int) + 1) = (k : Int) + 1 := by rw [i64w] <;> omega
          have hst : someTo y1 a (k + 1) = (someTo y1 a k || y1.getD a[k].toNat 0 == 1) := by
            unfold someTo
            rw [List.take_add_one, hak, List.any_append]; simp
          generalize a[k] = q at hak hb hst
          have hqn : q.toNat < y1.length := by omega
          have hyq : y1[q.toNat]? = some y1[q.toNat] := List.getElem?_eq_getElem hqn
          have hgd : y1.getD q.toNat 0 = y1[q.toNat] := by simp [hqn]
          rw [hgd] at hst
          have hb1 : q < y1.length := by omega
          cases hsk : someTo y1 a k with
          | true =>
            rw [hsk, Bool.true_or] at hst
            simp [go_sem, hkl']
            exact ⟨k + 1, by omega, by omega, Ent.chk (by simp [go_sem, hwk, hst])⟩
          | false =>
            rw [hsk, Bool.false_or] at hst
            simp [go_sem, hkl', hak, hyq, hb.1, hb1]
            exact ⟨k + 1, by omega, by omega, Ent.chk (by simp [go_sem, hwk, hst])⟩
        · have hke : k = a.length := by omega
          subst hke
          rw [hsome]
          simp [go_sem]
          exact ⟨i + 1, by omega, by omega, Ent.chk (by simp [go_sem, hw])⟩
      · have hil : i = l.length := by omega
        subst hil
        simp [go_sem]
end Go.Proofs.YtjpmldfmgogheaaDoor.Ab
