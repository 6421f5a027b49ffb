/- share: the reference's Order. -/
import Derived.Test.YtpjcicbohgcehaaShJ
namespace Go.Proofs.Ytpjcicbohgcehaa.Ab
open Go.RowKit Go.Proofs.Ytpjcicbohgcehaa.Fl
set_option linter.unusedVariables false
set_option linter.unusedSimpArgs false

def cntU (l : List Use) (i : Int) (k : Nat) : Nat := (idx k).countP fun z => decide (aheadU l z i)
theorem cntU_zero (l : List Use) (i : Int) : cntU l i 0 = 0 := rfl
theorem cntU_succ (l : List Use) (i : Int) (k : Nat) : cntU l i (k + 1) = cntU l i k + (if aheadU l k i then 1 else 0) := by
  unfold cntU
  rw [idx_succ, List.countP_append]
  by_cases h : aheadU l k i <;> simp [h]
theorem cntU_le (l : List Use) (i : Int) (k : Nat) : cntU l i k ≤ k := by
  unfold cntU
  have := List.countP_le_length (p := fun z => decide (aheadU l z i)) (l := idx k)
  rw [idx_len] at this
  exact this
set_option maxHeartbeats 4000000 in
set_option maxRecDepth 100000 in
theorem rOrder_c (l : List Use) (hl : l.length ≤ 10000000) (hw : UsesW l) : ACalls Try.prog 11 [uses l] (· = .one (.sv (ints (ordU l)))) := by
  refine ACalls.of_bodyS (fun _ _ => Try.call11 _ _) Try.func11 rfl Try.ntmps11 (by simp) ?_
  refine Tr.ex ?_
  simp [go_sem]
  refine ⟨by omega, ?_⟩
  refine LoopW.of (fun z : Nat × List Int => ⟨38, [(0, .sv (uses l)), (2, .nil), (3, .own 9), (4, .sv (iv z.1))], [(9, .row 1 (z.2.map iv))]⟩)
    (fun z => z.1 ≤ l.length ∧ z.2.length = l.length ∧ ∀ k : Nat, k < z.1 → z.2[rkU l k]? = some (k : Int)) (fun z => l.length - z.1) (0, List.replicate l.length 0) ⟨by simp, by simp, fun k h => by simp at h⟩ (Ent.chk (by simp [go_sem])) ?_
  rintro ⟨i, g⟩ ⟨hi, hg, hp⟩
  simp only at hi hg hp ⊢
  by_cases hlt : i < l.length
  · have hlt' : (i : Int) < l.length := by omega
    have hwi : IntKind.i64.wrap ((i : Int) + 1) = (i : Int) + 1 := by rw [i64w] <;> omega
    simp [go_sem, hlt, hlt']
    refine LoopW.of (fun k : Nat => ⟨38, [(0, .sv (uses l)), (2, .nil), (3, .own 9), (4, .sv (iv i)), (5, .sv (iv (cntU l i k))), (6, .sv (iv k)), (10, .sv (iv i)), (11, .sv (uses l)), (12, .sv (iv l.length)), (13, .sv (bv true))], [(9, .row 1 (g.map iv))]⟩)
      (fun k => k ≤ l.length) (fun k => l.length - k) 0 (by omega) (Ent.chk (by simp [go_sem, cntU_zero])) ?_
    intro k hk
    have hcs := cntU_succ l i k
    have hcl := cntU_le l i k
    have hwc : IntKind.i64.wrap ((cntU l i k : Int) + 1) = (cntU l i k : Int) + 1 := by rw [i64w] <;> omega
    by_cases hkt : k < l.length
    · have hkt' : (k : Int) < l.length := by omega
      have hwk : IntKind.i64.wrap ((k : Int) + 1) = (k : Int) + 1 := by rw [i64w] <;> omega
      have ha := ahead_c l (by omega) hw k i hkt hlt
      by_cases e : k = i
      · subst e
        rw [if_neg (aheadU_irr _)] at hcs
        generalize hc' : cntU l k (k + 1) = c' at *
        generalize hc : cntU l k k = c at *
        simp [go_sem, hkt, hkt']
        exact ⟨k + 1, by omega, by omega, Ent.chk (by simp [go_sem, hwk, hc', hcs])⟩
      · have e1 : ((k : Int) == i) = false := by simp; omega
        have e2 : ((k : Int) != i) = true := by simp; omega
        by_cases q : aheadU l k i
        · rw [if_pos q] at hcs
          rw [decide_eq_true q] at ha
          generalize hc' : cntU l i (k + 1) = c' at *
          generalize hc : cntU l i k = c at *
          simp [go_sem, hkt, hkt', e, e1, e2]
          refine OpW.fn true ha rfl rfl (by simp [go_sem]) (by rintro _ r rfl; simp [go_sem]) ?_
          rintro r rfl
          simp [go_sem]
          exact ⟨k + 1, by omega, by omega, Ent.chk (by simp [go_sem, hwk, hwc, hc', hcs])⟩
        · rw [if_neg q] at hcs
          rw [decide_eq_false q] at ha
          generalize hc' : cntU l i (k + 1) = c' at *
          generalize hc : cntU l i k = c at *
          simp [go_sem, hkt, hkt', e, e1, e2]
          refine OpW.fn true ha rfl rfl (by simp [go_sem]) (by rintro _ r rfl; simp [go_sem]) ?_
          rintro r rfl
          simp [go_sem]
          exact ⟨k + 1, by omega, by omega, Ent.chk (by simp [go_sem, hwk, hc', hcs])⟩
    · have hkl : k = l.length := by omega
      subst hkl
      have hr : cntU l i l.length = rkU l i := rfl
      have hrl := rkU_lt hlt
      have hset : ∀ j : Nat, j < i + 1 → (g.set (rkU l i) (i : Int))[rkU l j]? = some (j : Int) := fun j hj => by
        rw [List.getElem?_set]
        by_cases q : j = i
        · subst q
          rw [if_pos rfl, if_pos (by omega)]
        · have q2 : rkU l i ≠ rkU l j := fun q3 => by
            have h1 := ordU_has hlt
            rw [q3, ordU_has (show j < l.length by omega)] at h1
            simp only [Option.some.injEq] at h1
            omega
          rw [if_neg q2]
          exact hp j (by omega)
      rw [hr]
      have hrl' : (rkU l i : Int) < l.length := by omega
      have hrg : rkU l i < g.length := by omega
      have hrg' : (rkU l i : Int) < g.length := by omega
      generalize rkU l i = r at *
      obtain ⟨y, hy⟩ : ∃ y, g[r]? = some y := ⟨_, List.getElem?_eq_getElem hrg⟩
      simp [go_sem, hrl, hrl', hrg, hrg', hy, gE hy]
      exact ⟨i + 1, g.set r (i : Int), ⟨by omega, by simp [hg], hset⟩, by omega, Ent.chk (by simp [go_sem, hwi, List.map_set])⟩
  · have hil : i = l.length := by omega
    subst hil
    have := rk_uniq hg hp
    subst this
    simp [go_sem]
end Go.Proofs.Ytpjcicbohgcehaa.Ab
