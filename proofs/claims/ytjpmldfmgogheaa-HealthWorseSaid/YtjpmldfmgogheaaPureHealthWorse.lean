/- HealthWorse. -/
import Derived.Test.YtjpmldfmgogheaaPureHealthRight
import Derived.Test.YtjpmldfmgogheaaSetP
namespace Go.Proofs.Ytjpmldfmgogheaa.Ab
open Go.RowKit
set_option linter.unusedVariables false
set_option linter.unusedSimpArgs false

theorem worstAt_mono {g : List Thing} {a b : List Int} (h : ∀ j, a.getD j 0 ≤ b.getD j 0) (i : Nat) : worstAt g a i ≤ worstAt g b i := by
  induction i using Nat.strongRecOn with
  | _ i ih =>
    rw [worstAt_mx g a i, worstAt_mx g b i]
    have h1 := h i
    split
    · have h2 := ih (th g i).up.toNat (by omega)
      unfold mx; split <;> split <;> omega
    · exact h1
theorem belowL_set (g : List Thing) (h : List Int) (m : Int) : isSet (belowL g h m) = true := by
  unfold belowL
  split
  · rename_i hh
    exact rangeF_set _ (isGraph_len (isHealth_spec hh).1).2
  · rfl
theorem belowL_mem {g : List Thing} {h : List Int} {m k : Int} : k ∈ belowL g h m ↔ isHealth g h = true ∧ 0 ≤ k ∧ k < g.length ∧ worstAt g h k.toNat ≤ m := by
  unfold belowL
  split
  · rename_i hh
    rw [show belowTo g h m g.length = rangeF (fun j => decide (worstAt g h j ≤ m)) g.length from rfl, mem_rangeF]
    simp [hh]
  · rename_i hh
    simp [hh]
theorem belowL_part {g : List Thing} {a b : List Int} {m : Int} (ha : isHealth g a = true) (hb : isHealth g b = true) (h : ∀ j, a.getD j 0 ≤ b.getD j 0) : partB (belowL g b m) (belowL g a m) = true := by
  rw [partB_iff (belowL_set _ _ _) (belowL_set _ _ _)]
  intro n hn
  rw [belowL_mem] at hn ⊢
  have := worstAt_mono (g := g) h n.toNat
  exact ⟨ha, hn.2.1, hn.2.2.1, by omega⟩
set_option maxRecDepth 100000 in
set_option maxHeartbeats 4000000 in
theorem law_HealthWorse (y0 : List Thing) (y1 : List Int) (y2 y3 y4 : Int) (G0 : y0.length * 32 ≤ 140737488351232 ∧ y0.length ≤ maxLen ∧ ∀ x ∈ y0, ThingOk x) (G1 : y1.length * 8 ≤ 140737488351232 ∧ y1.length ≤ maxLen ∧ ∀ x ∈ y1, (Lit.int .i64 x).wf = true)
    (G2 : (Lit.int .i64 y2).wf = true) (G3 : (Lit.int .u8 y3).wf = true) (G4 : (Lit.int .u8 y4).wf = true) : ACalls Try.prog 7 [things y0, ints y1, iv y2, .val (.int .u8 y3), .val (.int .u8 y4)] (· = .one (.sv (bv true))) := by
  have hl := things_len G0
  have ht := things_ok G0.2.2
  have hl1 := ints_len G1
  refine ACalls.of_bodyS (fun _ _ => Try.call7 _ _) Try.func7 rfl Try.ntmps7 (by simp) ?_
  refine Tr.ex ?_
  simp [go_sem]
  refine OpW.fn true awake6_c rfl rfl (by simp [go_sem]) (by rintro _ r rfl; simp [go_sem]) ?_
  rintro r rfl
  by_cases hs : 60 < (y0.length : Int)
  · simp [go_sem, hs]
  · simp [go_sem, hs]
    refine OpW.fn true (hRight_c y0 y1 hl ht (by omega)) rfl rfl (by simp [go_sem]) (by rintro _ r rfl; simp [go_sem]) ?_
    rintro r rfl
    cases hh : isHealth y0 y1 with
    | false => simp [go_sem]
    | true =>
      obtain ⟨hgr, hlen, hr⟩ := isHealth_spec hh
      by_cases c3 : y2 < 0
      · simp [go_sem, c3]
      · have c3' : 0 ≤ y2 := by omega
        by_cases c4 : y2 < y0.length
        · have c6 : ¬ (y0.length : Int) ≤ y2 := by omega
          have b3 : 0 ≤ y3 ∧ y3 ≤ 255 := by simpa [Lit.wf, IntKind.min, IntKind.max, IntKind.bits, IntKind.signed] using G3
          have b4 : 0 ≤ y4 ∧ y4 ≤ 255 := by simpa [Lit.wf, IntKind.min, IntKind.max, IntKind.bits, IntKind.signed] using G4
          have m3 : 0 ≤ y3.tmod 3 ∧ y3.tmod 3 ≤ 2 := by rw [Int.tmod_eq_emod_of_nonneg b3.1]; omega
          have m4 : 0 ≤ y4.tmod 3 ∧ y4.tmod 3 ≤ 2 := by rw [Int.tmod_eq_emod_of_nonneg b4.1]; omega
          have w3 : IntKind.i64.wrap (y3.tmod 3) = y3.tmod 3 := by rw [i64w] <;> omega
          have w4 : IntKind.i64.wrap (y4.tmod 3) = y4.tmod 3 := by rw [i64w] <;> omega
          have e1 := setH_ok hh c3' (by omega) m3.1 m3.2
          have hx := isHealth_set hh (n := y2.toNat) m3.1 m3.2
          have hz := isHealth_set hh (n := y2.toNat) m4.1 m4.2
          have e3 := setH_ok hh c3' (by omega) m4.1 m4.2
          have e2 := setH_ok hx c3' (by simp; omega) m4.1 m4.2
          rw [List.set_set] at e2
          have hmono : ¬ y4.tmod 3 < y3.tmod 3 → ∀ j, (y1.set y2.toNat (y3.tmod 3)).getD j 0 ≤ (y1.set y2.toNat (y4.tmod 3)).getD j 0 := fun hle j => by
            rw [List.getD_eq_getElem?_getD, List.getD_eq_getElem?_getD, List.getElem?_set, List.getElem?_set]
            split
            · split <;> simp <;> omega
            · exact Int.le_refl _
          have hxl : (y1.set y2.toNat (y3.tmod 3)).length = y0.length := by simp [hlen]
          have hzl : (y1.set y2.toNat (y4.tmod 3)).length = y0.length := by simp [hlen]
          generalize y1.set y2.toNat (y3.tmod 3) = x at e1 e2 hx hmono hxl
          generalize y1.set y2.toNat (y4.tmod 3) = z at e2 e3 hz hmono hzl
          simp [go_sem, c3, c4, c6, w3, w4]
          refine OpW.fn false (hSet_c y0 y1 y2 (y3.tmod 3) hl ht (by omega)) rfl rfl (by simp [go_sem]) (fun h => by cases h) ?_
          rintro r rfl
          rw [e1]
          simp [go_sem, w3, w4]
          refine OpW.fn false (hSet_c y0 x y2 (y4.tmod 3) hl ht (by omega)) rfl rfl (by simp [go_sem]) (fun h => by cases h) ?_
          rintro r rfl
          rw [e2]
          simp [go_sem, w3, w4]
          refine OpW.fn false (hSet_c y0 y1 y2 (y4.tmod 3) hl ht (by omega)) rfl rfl (by simp [go_sem]) (fun h => by cases h) ?_
          rintro r rfl
          rw [e3]
          simp [go_sem, w3, w4]
          refine OpW.fn true (Same_c z z (by omega) (by omega)) rfl rfl (by simp [go_sem]) (by rintro _ r rfl; simp [go_sem]) ?_
          rintro r rfl
          by_cases hlt : y4.tmod 3 < y3.tmod 3
          · simp [go_sem, hlt]
          · have hm := hmono hlt
            have p0 := belowL_part (m := 0) hx hz hm
            have p1 := belowL_part (m := 1) hx hz hm
            have hw : WorstV y0 x y2 ≤ WorstV y0 z y2 := by
              unfold WorstV
              rw [if_pos ⟨hx, c3', by omega⟩, if_pos ⟨hz, c3', by omega⟩]
              exact worstAt_mono hm _
            have bx0 := belowL_len y0 x 0
            have bx1 := belowL_len y0 x 1
            have bz0 := belowL_len y0 z 0
            have bz1 := belowL_len y0 z 1
            simp [go_sem, hlt]
            refine OpW.fn false (Usable_c y0 z hl ht (by omega)) rfl rfl (by simp [go_sem]) (fun h => by cases h) ?_
            rintro r rfl
            simp [go_sem]
            refine OpW.fn false (Usable_c y0 x hl ht (by omega)) rfl rfl (by simp [go_sem]) (fun h => by cases h) ?_
            rintro r rfl
            simp [go_sem]
            refine OpW.fn true (Part_c (belowL y0 z 0) (belowL y0 x 0) (by omega) (by omega)) rfl rfl (by simp [go_sem]) (by rintro _ r rfl; simp [go_sem]) ?_
            rintro r rfl
            rw [p0]
            simp [go_sem]
            refine OpW.fn false (Works_c y0 z hl ht (by omega)) rfl rfl (by simp [go_sem]) (fun h => by cases h) ?_
            rintro r rfl
            simp [go_sem]
            refine OpW.fn false (Works_c y0 x hl ht (by omega)) rfl rfl (by simp [go_sem]) (fun h => by cases h) ?_
            rintro r rfl
            simp [go_sem]
            refine OpW.fn true (Part_c (belowL y0 z 1) (belowL y0 x 1) (by omega) (by omega)) rfl rfl (by simp [go_sem]) (by rintro _ r rfl; simp [go_sem]) ?_
            rintro r rfl
            rw [p1]
            simp [go_sem]
            refine OpW.fn true (Worst_c y0 z y2 hl ht (by omega)) rfl rfl (by simp [go_sem]) (by rintro _ r rfl; simp [go_sem]) ?_
            rintro r rfl
            simp [go_sem]
            refine OpW.fn true (Worst_c y0 x y2 hl ht (by omega)) rfl rfl (by simp [go_sem]) (by rintro _ r rfl; simp [go_sem]) ?_
            rintro r rfl
            simp [go_sem, hw]
        · have c6 : (y0.length : Int) ≤ y2 := by omega
          simp [go_sem, c3, c4, c6]
end Go.Proofs.Ytjpmldfmgogheaa.Ab
