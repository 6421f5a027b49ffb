/- GraphWhole. -/
import Derived.Test.YtjpmldfmgogheaaDoorPureGraphRight
namespace Go.Proofs.YtjpmldfmgogheaaDoor.Ab
open Go.RowKit
set_option linter.unusedVariables false
set_option linter.unusedSimpArgs false

theorem kinds_set {g : List Thing} (hg : isGraph g = true) {l : List Int} (hl : isSet l = true) : kindsL g l = [((cnt g l 0 : Nat) : Int), ((cnt g l 1 : Nat) : Int), ((cnt g l 2 : Nat) : Int), ((cnt g l 3 : Nat) : Int), ((cnt g l 4 : Nat) : Int)] := by
  unfold kindsL; rw [if_pos ⟨hg, hl⟩]; rfl
theorem kinds_bad {g : List Thing} {l : List Int} (hl : isSet l = false) : kindsL g l = [0, 0, 0, 0, 0] := by
  unfold kindsL; rw [if_neg]; rw [hl]; simp
theorem kinds_split {g : List Thing} {a b : List Int} (ha : isSet a = true) (hb : isSet b = true) (k : Int) : cnt g (meetL a b) k + cnt g (lessL a b) k = cnt g a k := by
  rw [cnt_cntN (meetL_set _ _), cnt_cntN (lessL_set _ _), cnt_cntN ha, ← cntN_or]
  · refine cntN_congr fun i _ _ => ?_
    rw [Bool.eq_iff_iff]
    simp only [Bool.or_eq_true, decide_eq_true_eq, meetL_mem ha hb, lessL_mem ha hb]
    constructor
    · rintro (h | h) <;> exact h.1
    · intro h
      by_cases h2 : (i : Int) ∈ b
      · exact .inl ⟨h, h2⟩
      · exact .inr ⟨h, h2⟩
  · intro i _ _ h1 h2
    simp only [decide_eq_true_eq] at h1 h2
    exact ((lessL_mem ha hb).1 h2).2 ((meetL_mem ha hb).1 h1).2
theorem wholeL_set (g : List Thing) (l : List Int) : isSet (wholeL g l) = true := by
  unfold wholeL; split
  · rename_i h; exact rangeF_set _ (isGraph_len h.1).2
  · rfl
theorem wholeL_mem {g : List Thing} {l : List Int} (hg : isGraph g = true) (hl : isSet l = true) (hb : ∀ n ∈ l, n < (g.length : Int)) {k : Int} : k ∈ wholeL g l ↔ 0 ≤ k ∧ k < g.length ∧ ∃ n ∈ l, inU g k.toNat n.toNat = true := by
  unfold wholeL
  rw [if_pos ⟨hg, hl, hb⟩, mem_rangeF]
  unfold wholeP
  rw [List.any_eq_true]
theorem wholeL_part {g : List Thing} {l : List Int} (hg : isGraph g = true) (hl : isSet l = true) (hb : ∀ n ∈ l, n < (g.length : Int)) : partB l (wholeL g l) = true := by
  rw [partB_iff hl (wholeL_set _ _)]
  intro n hn
  rw [wholeL_mem hg hl hb]
  exact ⟨((isSet_iff.1 hl).2 n hn).1, hb n hn, n, hn, inU_refl _ _⟩
theorem wholeL_lt {g : List Thing} {l : List Int} : ∀ n ∈ wholeL g l, n < (g.length : Int) := by
  unfold wholeL; split
  · intro n hn; exact (mem_rangeF.1 hn).2.1
  · intro n hn; cases hn
theorem wholeL_twice {g : List Thing} {l : List Int} (hg : isGraph g = true) (hl : isSet l = true) (hb : ∀ n ∈ l, n < (g.length : Int)) : wholeL g (wholeL g l) = wholeL g l := by
  refine set_ext (wholeL_set _ _) (wholeL_set _ _) fun k => ?_
  rw [wholeL_mem hg (wholeL_set g l) wholeL_lt]
  constructor
  · rintro ⟨h1, h2, n, hn, h3⟩
    rw [wholeL_mem hg hl hb] at hn ⊢
    obtain ⟨m0, m1, m, hm, h4⟩ := hn
    exact ⟨h1, h2, m, hm, inU_trans h3 h4⟩
  · intro hk
    have := (wholeL_mem hg hl hb).1 hk
    exact ⟨this.1, this.2.1, k, hk, inU_refl _ _⟩
theorem wholeL_root {g : List Thing} {l : List Int} (hg : isGraph g = true) (hl : isSet l = true) (hb : ∀ n ∈ l, n < (g.length : Int)) : hasB (wholeL g l) 0 = decide (0 < l.length) := by
  have hgl := isGraph_len hg
  rw [hasB_iff (wholeL_set _ _), decide_eq_decide, wholeL_mem hg hl hb]
  constructor
  · rintro ⟨_, _, n, hn, _⟩; exact List.length_pos_of_mem hn
  · intro h
    refine ⟨by omega, by omega, l[0], List.getElem_mem h, ?_⟩
    have hm : l[0] ∈ l := List.getElem_mem h
    have := hb _ hm
    have := ((isSet_iff.1 hl).2 _ hm).1
    exact inU_root hg (by omega)

set_option maxRecDepth 100000 in
set_option maxHeartbeats 4000000 in
theorem law_GraphWhole (y0 : List Thing) (y1 y2 : List Int) (G0 : y0.length * 32 ≤ 140737488351232 ∧ y0.length ≤ maxLen ∧ ∀ x ∈ y0, ThingOk x) (G1 : y1.length * 8 ≤ 140737488351232 ∧ y1.length ≤ maxLen ∧ ∀ x ∈ y1, (Lit.int .i64 x).wf = true)
    (G2 : y2.length * 8 ≤ 140737488351232 ∧ y2.length ≤ maxLen ∧ ∀ x ∈ y2, (Lit.int .i64 x).wf = true) : ACalls Tryd.prog 4 [things y0, ints y1, ints y2] (· = .one (.sv (bv true))) := by
  have hl := things_len G0
  have ht := things_ok G0.2.2
  refine ACalls.of_bodyS (fun _ _ => Tryd.call4 _ _) Tryd.func4 rfl Tryd.ntmps4 (by simp) ?_
  refine Tr.ex ?_
  simp [go_sem]
  refine OpW.fn true awake5_c rfl rfl (by simp [go_sem]) (by rintro _ r rfl; simp [go_sem]) ?_
  rintro r rfl
  by_cases hs : 60 < (y0.length : Int)
  · simp [go_sem, hs]
  · by_cases hs1 : 60 < (y1.length : Int)
    · simp [go_sem, hs, hs1]
    · by_cases hs2 : 60 < (y2.length : Int)
      · simp [go_sem, hs, hs1, hs2]
      · simp [go_sem, hs, hs1, hs2]
        refine OpW.fn true (gRight_c y0 hl ht) rfl rfl (by simp [go_sem]) (by rintro _ r rfl; simp [go_sem]) ?_
        rintro r rfl
        cases hg : isGraph y0 with
        | false => simp [go_sem]
        | true =>
          have wl := wholeL_len y0 y1
          simp [go_sem]
          refine OpW.fn false (Whole_c y0 y1 hl ht (by omega)) rfl rfl (by simp [go_sem]) (fun h => by cases h) ?_
          rintro r rfl
          simp [go_sem]
          refine OpW.fn true (setRight_c y1 (by omega)) rfl rfl (by simp [go_sem]) (by rintro _ r rfl; simp [go_sem]) ?_
          rintro r rfl
          cases h1 : isSet y1 with
          | false =>
            have e : wholeL y0 y1 = [] := by unfold wholeL; rw [h1]; simp
            rw [e]
            simp [go_sem]
          | true =>
            have hlast : 0 < y1.length → y1[y1.length - 1]? = some (y1.getD (y1.length - 1) 0) := fun h => by rw [List.getD_eq_getElem?_getD, List.getElem?_eq_getElem (by omega)]; rfl
            have hmax := fun n (hn : n ∈ y1) => lastOf_max h1 hn
            have hw1 : 0 < y1.length → IntKind.i64.wrap ((y1.length : Int) - 1) = ((y1.length - 1 : Nat) : Int) := fun h => by rw [i64w] <;> omega
            generalize hq : y1.getD (y1.length - 1) 0 = q at hlast hmax
            by_cases hbad : 0 < y1.length ∧ (y0.length : Int) ≤ q
            · have q1 := hlast hbad.1
              have q2 := hw1 hbad.1
              have q3 : ((y1.length - 1 : Nat) : Int) < y1.length := by omega
              have q4 := hbad.1
              have q5 := hbad.2
              have e : wholeL y0 y1 = [] := by unfold wholeL; rw [if_neg]; rintro ⟨_, _, h⟩; have := h q (List.mem_of_getElem? q1); omega
              rw [e]
              simp [go_sem, q1, q2, q3, q4, q5]
            · have hb : ∀ n ∈ y1, n < (y0.length : Int) := fun n hn => by
                have := hmax n hn
                have h6 : 0 < y1.length := List.length_pos_of_mem hn
                have : ¬ (y0.length : Int) ≤ q := fun h => hbad ⟨h6, h⟩
                omega
              have e1 := wholeL_part hg h1 hb
              have e2 := wholeL_twice hg h1 hb
              have e3 := wholeL_root hg h1 hb
              have hpos : decide (0 < y1.length) = true ∨ decide (0 < y1.length) = false := by cases decide (0 < y1.length) <;> simp
              have hcase : y1.length = 0 ∨ 0 < y1.length := by omega
              rcases hcase with h0 | h0
              case' inl =>
                have h0' : ¬ 0 < y1.length := by omega
                simp [go_sem, h0']
              case' inr =>
                have q1 := hlast h0
                have q2 := hw1 h0
                have h0' := h0
                have q3 : ((y1.length - 1 : Nat) : Int) < y1.length := by omega
                have q5 : ¬ (y0.length : Int) ≤ q := fun h => hbad ⟨h0, h⟩
                simp [go_sem, q1, q2, q3, h0, q5]
              all_goals
                refine OpW.fn true (Part_c y1 (wholeL y0 y1) (by omega) (by omega)) rfl rfl (by simp [go_sem]) (by rintro _ r rfl; simp [go_sem]) ?_
                rintro r rfl
                rw [e1]
                simp [go_sem]
                refine OpW.fn false (Whole_c y0 (wholeL y0 y1) hl ht (by omega)) rfl rfl (by simp [go_sem]) (fun h => by cases h) ?_
                rintro r rfl
                rw [e2]
                simp [go_sem]
                refine OpW.fn true (Same_c (wholeL y0 y1) (wholeL y0 y1) (by omega) (by omega)) rfl rfl (by simp [go_sem]) (by rintro _ r rfl; simp [go_sem]) ?_
                rintro r rfl
                simp [go_sem]
                refine OpW.fn true (Has_c (wholeL y0 y1) 0 (by omega)) rfl rfl (by simp [go_sem]) (by rintro _ r rfl; simp [go_sem]) ?_
                rintro r rfl
                rw [e3]
                simp [go_sem, h0', bne]
                refine OpW.fn true (setRight_c y2 (by omega)) rfl rfl (by simp [go_sem]) (by rintro _ r rfl; simp [go_sem]) ?_
                rintro r rfl
                cases h2 : isSet y2
                case' false =>
                  have hk := Kinds_c y0 y2 hl ht (by omega)
                  rw [kinds_bad h2] at hk
                  simp [go_sem]
                  refine OpW.fn true hk rfl rfl (by simp [go_sem]) (by rintro _ r rfl; simp [go_sem]) ?_
                  rintro r rfl
                  simp [go_sem]
                  refine OpW.buildA rfl rfl (by simp [go_sem]; rfl) (by simp [go_sem]; exact ⟨rfl, rfl⟩) (by simp [go_sem]; rfl) (by simp [go_sem]) ?_
                  simp [go_sem]
                case' true =>
                  have hml := set_len (meetL_set y1 y2)
                  have hll := set_len (lessL_set y1 y2)
                  have k1 := Kinds_c y0 (meetL y1 y2) hl ht (by omega)
                  have k2 := Kinds_c y0 (lessL y1 y2) hl ht (by omega)
                  have k3 := Kinds_c y0 y1 hl ht (by omega)
                  rw [kinds_set hg (meetL_set _ _)] at k1
                  rw [kinds_set hg (lessL_set _ _)] at k2
                  rw [kinds_set hg h1] at k3
                  have ks := kinds_split (g := y0) h1 h2
                  have kl := fun k => cnt_le y0 y1 k
                  have kw : ∀ k, IntKind.i64.wrap ((cnt y0 (meetL y1 y2) k : Int) + cnt y0 (lessL y1 y2) k) = cnt y0 y1 k := fun k => by
                    have a1 := ks k
                    have a2 := kl k
                    rw [i64w] <;> omega
                  simp [go_sem]
                  refine OpW.fn false (Meet_c y1 y2 (by omega) (by omega)) rfl rfl (by simp [go_sem]) (fun h => by cases h) ?_
                  rintro r rfl
                  simp [go_sem]
                  refine OpW.fn false (Less_c y1 y2 (by omega) (by omega)) rfl rfl (by simp [go_sem]) (fun h => by cases h) ?_
                  rintro r rfl
                  simp [go_sem]
                  refine OpW.fn true k1 rfl rfl (by simp [go_sem]) (by rintro _ r rfl; simp [go_sem]) ?_
                  rintro r rfl
                  simp [go_sem]
                  refine OpW.fn true k2 rfl rfl (by simp [go_sem]) (by rintro _ r rfl; simp [go_sem]) ?_
                  rintro r rfl
                  simp [go_sem]
                  refine OpW.fn true k3 rfl rfl (by simp [go_sem]) (by rintro _ r rfl; simp [go_sem]) ?_
                  rintro r rfl
                  simp [go_sem]
                  refine LoopW.of (fun i : Nat => ⟨117, [(6, .sv (bv false)), (10, .box 10 0), (11, .box 11 0), (12, .box 12 0), (13, .sv (iv i))],
                      [(10, .box [.sv (iv (cnt y0 (meetL y1 y2) 0)), .sv (iv (cnt y0 (meetL y1 y2) 1)), .sv (iv (cnt y0 (meetL y1 y2) 2)), .sv (iv (cnt y0 (meetL y1 y2) 3)), .sv (iv (cnt y0 (meetL y1 y2) 4))]),
                       (11, .box [.sv (iv (cnt y0 (lessL y1 y2) 0)), .sv (iv (cnt y0 (lessL y1 y2) 1)), .sv (iv (cnt y0 (lessL y1 y2) 2)), .sv (iv (cnt y0 (lessL y1 y2) 3)), .sv (iv (cnt y0 (lessL y1 y2) 4))]),
                       (12, .box [.sv (iv (cnt y0 y1 0)), .sv (iv (cnt y0 y1 1)), .sv (iv (cnt y0 y1 2)), .sv (iv (cnt y0 y1 3)), .sv (iv (cnt y0 y1 4))])]⟩)
                    (fun i => i ≤ 5) (fun i => 5 - i) 0 (by omega) (Ent.chk (by simp [go_sem])) ?_
                  rintro i hi
                  have hi5 : i = 0 ∨ i = 1 ∨ i = 2 ∨ i = 3 ∨ i = 4 ∨ i = 5 := by omega
                  rcases hi5 with rfl | rfl | rfl | rfl | rfl | rfl
                  case' inl => simp [go_sem]; refine DrawW.rd rfl ?_; simp [go_sem, kw, bne]; exact ⟨by kernel_rfl, 1, by decide, by decide, Ent.chk (by simp [go_sem])⟩
                  case' inr.inl => simp [go_sem]; refine DrawW.rd rfl ?_; simp [go_sem, kw, bne]; exact ⟨by kernel_rfl, 2, by decide, by decide, Ent.chk (by simp [go_sem])⟩
                  case' inr.inr.inl => simp [go_sem]; refine DrawW.rd rfl ?_; simp [go_sem, kw, bne]; exact ⟨by kernel_rfl, 3, by decide, by decide, Ent.chk (by simp [go_sem])⟩
                  case' inr.inr.inr.inl => simp [go_sem]; refine DrawW.rd rfl ?_; simp [go_sem, kw, bne]; exact ⟨by kernel_rfl, 4, by decide, by decide, Ent.chk (by simp [go_sem])⟩
                  case' inr.inr.inr.inr.inl => simp [go_sem]; refine DrawW.rd rfl ?_; simp [go_sem, kw, bne]; exact ⟨by kernel_rfl, 5, by decide, by decide, Ent.chk (by simp [go_sem])⟩
                  case' inr.inr.inr.inr.inr => simp [go_sem]
end Go.Proofs.YtjpmldfmgogheaaDoor.Ab
