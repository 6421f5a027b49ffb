/- GraphUnder. -/
import Derived.Test.YtjpmldfmgogheaaLaG
namespace Go.Proofs.Ytjpmldfmgogheaa.Ab
open Go.RowKit
set_option linter.unusedVariables false
set_option linter.unusedSimpArgs false

theorem aboveL_len' (g : List Thing) (n : Int) : (aboveL g n).length ≤ 256 := set_len (aboveL_set g n)
theorem under_parts {g : List Thing} {a b : Int} (ha : thereB g a = true) (hb : thereB g b = true) : partB (underL g a) (underL g b) = true ∨ partB (underL g b) (underL g a) = true ∨ apartB (underL g a) (underL g b) = true := by
  have ha1 := thereB_iff.1 ha
  have hb1 := thereB_iff.1 hb
  rw [partB_iff (underL_set _ _) (underL_set _ _), partB_iff (underL_set _ _) (underL_set _ _), apartB_iff (underL_set _ _) (underL_set _ _)]
  by_cases h1 : inU g b.toNat a.toNat = true
  · left
    intro n hn
    rw [underL_mem] at hn ⊢
    exact ⟨hb, hn.2.1, hn.2.2.1, inU_trans h1 hn.2.2.2⟩
  · by_cases h2 : inU g a.toNat b.toNat = true
    · right; left
      intro n hn
      rw [underL_mem] at hn ⊢
      exact ⟨ha, hn.2.1, hn.2.2.1, inU_trans h2 hn.2.2.2⟩
    · right; right
      intro n hn hn2
      rw [underL_mem] at hn hn2
      rcases Nat.le_total a.toNat b.toNat with h | h
      · exact h2 (inU_total h hn.2.2.2 hn2.2.2.2)
      · exact h1 (inU_total h hn2.2.2.2 hn.2.2.2)
set_option maxRecDepth 100000 in
set_option maxHeartbeats 4000000 in
theorem law_GraphUnder (y0 : List Thing) (y1 y2 : Int) (G0 : y0.length * 32 ≤ 140737488351232 ∧ y0.length ≤ maxLen ∧ ∀ x ∈ y0, ThingOk x) (G1 : (Lit.int .i64 y1).wf = true) (G2 : (Lit.int .i64 y2).wf = true) : ACalls Try.prog 6 [things y0, iv y1, iv y2] (· = .one (.sv (bv true))) := by
  have hl := things_len G0
  have ht := things_ok G0.2.2
  refine ACalls.of_bodyS (fun _ _ => Try.call6 _ _) Try.func6 rfl Try.ntmps6 (by simp) ?_
  refine Tr.ex ?_
  simp [go_sem]
  refine OpW.fn true awake5_c rfl rfl (by simp [go_sem]) (by rintro _ r rfl; simp [go_sem]) ?_
  rintro r rfl
  by_cases hs : 60 < (y0.length : Int)
  · simp [go_sem, hs]
  · simp [go_sem, hs]
    refine OpW.fn true (gRight_c y0 hl ht) rfl rfl (by simp [go_sem]) (by rintro _ r rfl; simp [go_sem]) ?_
    rintro r rfl
    cases hg : isGraph y0 with
    | false => simp [go_sem]
    | true =>
      have hgl := isGraph_len hg
      have th0 : thereB y0 0 = true := thereB_iff.2 ⟨by omega, by omega, hg⟩
      have u0 : (underL y0 0).length = y0.length := by
        rw [underL_eq th0]
        unfold rangeF
        rw [List.length_map, List.filter_eq_self.2 (fun i hi => by simpa using inU_root hg (List.mem_range.1 hi)), List.length_range]
      have u1 : underL y0 (-1) = [] := by
        unfold underL
        rw [if_neg (fun h => by have := (thereB_iff.1 h).1; omega)]
      have a1 : aboveL y0 y0.length = [] := by
        unfold aboveL
        rw [if_neg (fun h => by have := (thereB_iff.1 h).2.1; omega)]
      have ul := fun n => underL_len y0 n
      have al := fun n => aboveL_len' y0 n
      simp [go_sem]
      refine OpW.fn false (Under_c y0 0 hl ht) rfl rfl (by simp [go_sem]) (fun h => by cases h) ?_
      rintro r rfl
      simp [go_sem, u0, bne]
      refine OpW.fn false (Under_c y0 (-1) hl ht) rfl rfl (by simp [go_sem]) (fun h => by cases h) ?_
      rintro r rfl
      rw [u1]
      simp [go_sem]
      refine OpW.fn false (Above_c y0 y0.length hl ht) rfl rfl (by simp [go_sem]) (fun h => by cases h) ?_
      rintro r rfl
      rw [a1]
      simp [go_sem]
      refine LoopW.of (fun i : Nat => ⟨105, [(0, .sv (things y0)), (1, .sv (iv y1)), (2, .sv (iv y2)), (6, .sv (bv false)), (8, .sv (iv i))], []⟩)
        (fun i => i ≤ y0.length) (fun i => y0.length - i) 0 (by omega) (Ent.chk (by simp [go_sem])) ?_
      rintro i hi
      by_cases hlt : i < y0.length
      · have hlt' : (i : Int) < y0.length := by omega
        have hw : IntKind.i64.wrap ((i : Int) + 1) = (i : Int) + 1 := by rw [i64w] <;> omega
        have thi : thereB y0 i = true := thereB_iff.2 ⟨by omega, by omega, hg⟩
        simp [go_sem, hlt']
        refine OpW.fn false (Under_c y0 i hl ht) rfl rfl (by simp [go_sem]) (fun h => by cases h) ?_
        rintro r rfl
        simp [go_sem]
        refine LoopW.of (fun k : Nat => ⟨105, [(0, .sv (things y0)), (1, .sv (iv y1)), (2, .sv (iv y2)), (6, .sv (bv false)), (8, .sv (iv i)), (9, .sv (ints (underL y0 i))), (10, .sv (iv k))], []⟩)
          (fun k => k ≤ y0.length) (fun k => y0.length - k) 0 (by omega) (Ent.chk (by simp [go_sem])) ?_
        rintro k hk
        by_cases hkl : k < y0.length
        · have hkl' : (k : Int) < y0.length := by omega
          have hwk : IntKind.i64.wrap ((k : Int) + 1) = (k : Int) + 1 := by rw [i64w] <;> omega
          have thk : thereB y0 k = true := thereB_iff.2 ⟨by omega, by omega, hg⟩
          have hua := under_above thi thk
          have h1 := ul i
          have h2 := al k
          simp [go_sem, hkl']
          refine OpW.fn true (Has_c (underL y0 i) k (by omega)) rfl rfl (by simp [go_sem]) (by rintro _ r rfl; simp [go_sem]) ?_
          rintro r rfl
          simp [go_sem]
          refine OpW.fn false (Above_c y0 k hl ht) rfl rfl (by simp [go_sem]) (fun h => by cases h) ?_
          rintro r rfl
          simp [go_sem]
          refine OpW.fn true (Has_c (aboveL y0 k) i (by omega)) rfl rfl (by simp [go_sem]) (by rintro _ r rfl; simp [go_sem]) ?_
          rintro r rfl
          rw [hua]
          simp [go_sem]
          exact ⟨k + 1, by omega, by omega, Ent.chk (by simp [go_sem, hwk])⟩
        · have hkl' : ¬ (k : Int) < y0.length := by omega
          simp [go_sem, hkl']
          exact ⟨i + 1, by omega, by omega, Ent.chk (by simp [go_sem, hw])⟩
      · have hlt' : ¬ (i : Int) < y0.length := by omega
        by_cases c1 : y1 < 0
        · simp [go_sem, hlt', c1]
        · by_cases c2 : y2 < 0
          · simp [go_sem, hlt', c1, c2]
          · by_cases c3 : (y0.length : Int) ≤ y1
            · simp [go_sem, hlt', c1, c2, c3]
            · by_cases c4 : (y0.length : Int) ≤ y2
              · simp [go_sem, hlt', c1, c2, c3, c4]
              · have t1 : thereB y0 y1 = true := thereB_iff.2 ⟨by omega, by omega, hg⟩
                have t2 : thereB y0 y2 = true := thereB_iff.2 ⟨by omega, by omega, hg⟩
                have hp := under_parts t1 t2
                have h1 := ul y1
                have h2 := ul y2
                simp [go_sem, hlt', c1, c2, c3, c4]
                refine OpW.fn false (Under_c y0 y1 hl ht) rfl rfl (by simp [go_sem]) (fun h => by cases h) ?_
                rintro r rfl
                simp [go_sem]
                refine OpW.fn false (Under_c y0 y2 hl ht) rfl rfl (by simp [go_sem]) (fun h => by cases h) ?_
                rintro r rfl
                simp [go_sem]
                refine OpW.fn true (Part_c (underL y0 y1) (underL y0 y2) (by omega) (by omega)) rfl rfl (by simp [go_sem]) (by rintro _ r rfl; simp [go_sem]) ?_
                rintro r rfl
                cases p1 : partB (underL y0 y1) (underL y0 y2) with
                | true => simp [go_sem]
                | false =>
                  simp [go_sem]
                  refine OpW.fn true (Part_c (underL y0 y2) (underL y0 y1) (by omega) (by omega)) rfl rfl (by simp [go_sem]) (by rintro _ r rfl; simp [go_sem]) ?_
                  rintro r rfl
                  cases p2 : partB (underL y0 y2) (underL y0 y1) with
                  | true => simp [go_sem]
                  | false =>
                    rw [p1, p2] at hp
                    have hp : apartB (underL y0 y1) (underL y0 y2) = true := by simpa using hp
                    simp [go_sem]
                    refine OpW.fn true (Apart_c (underL y0 y1) (underL y0 y2) (by omega) (by omega)) rfl rfl (by simp [go_sem]) (by rintro _ r rfl; simp [go_sem]) ?_
                    rintro r rfl
                    rw [hp]
                    simp [go_sem]
end Go.Proofs.Ytjpmldfmgogheaa.Ab
