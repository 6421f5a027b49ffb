/- HealthAll. -/
import Derived.Test.YtjpmldfmgogheaaLaC
namespace Go.Proofs.Ytjpmldfmgogheaa.Ab
open Go.RowKit
set_option linter.unusedVariables false
set_option linter.unusedSimpArgs false

theorem things_len {y : List Thing} (h : y.length * 32 ≤ 140737488351232 ∧ y.length ≤ maxLen ∧ ∀ x ∈ y, ThingOk x) : y.length ≤ 140737488355328 := by have := h.1; omega
theorem things_ok {y : List Thing} (h : ∀ x ∈ y, ThingOk x) : Things y := fun t ht => by have := (h t ht).2.2; omega
theorem worstAt_le {g : List Thing} {h : List Int} {m : Int} (hm : ∀ j, h.getD j 0 ≤ m) (i : Nat) : worstAt g h i ≤ m := by
  induction i using Nat.strongRecOn with
  | _ i ih =>
    rw [worstAt.eq_1]
    have h1 := hm i
    split
    · rename_i hh
      have h2 := ih (th g i).up.toNat (by omega)
      split <;> assumption
    · exact h1
theorem worstAt_root {g : List Thing} (hg : isGraph g = true) (h : List Int) (i : Nat) (hi : i < g.length) : h.getD 0 0 ≤ worstAt g h i := by
  induction i using Nat.strongRecOn with
  | _ i ih =>
    rw [worstAt.eq_1]
    by_cases h0 : 0 < i
    · have h1 := isGraph_up hg h0 hi
      rw [dif_pos ⟨h1.1, h1.2.1⟩]
      have h2 := ih (th g i).up.toNat (by omega) (by omega)
      split
      · exact h2
      · omega
    · have : i = 0 := by omega
      subst this
      rw [dif_neg (by omega)]
      exact Int.le_refl _
theorem belowTo_all {g : List Thing} {h : List Int} {m : Int} {n : Nat} (hm : ∀ i, i < n → worstAt g h i ≤ m) : (belowTo g h m n).length = n := by
  unfold belowTo
  rw [List.length_map, List.filter_eq_self.2 (fun i hi => by simpa using hm i (List.mem_range.1 hi)), List.length_range]
theorem belowTo_none {g : List Thing} {h : List Int} {m : Int} {n : Nat} (hm : ∀ i, i < n → m < worstAt g h i) : (belowTo g h m n).length = 0 := by
  unfold belowTo
  rw [List.length_map, List.filter_eq_nil_iff.2 (fun i hi => by have := hm i (List.mem_range.1 hi); simp; omega)]
  rfl
def freshH (g : List Thing) : List Int := List.replicate g.length 0
theorem fresh_ok {g : List Thing} (hg : isGraph g = true) : isHealth g (freshH g) = true := by
  unfold isHealth freshH
  rw [hg]
  simp
theorem isHealth_set {g : List Thing} {h : List Int} (hh : isHealth g h = true) {n : Nat} {v : Int} (h0 : 0 ≤ v) (h2 : v ≤ 2) : isHealth g (h.set n v) = true := by
  obtain ⟨h3, h4, h5⟩ := isHealth_spec hh
  unfold isHealth
  rw [h3]
  simp only [List.length_set, h4, decide_true, Bool.true_and, List.all_eq_true, Bool.and_eq_true, decide_eq_true_eq]
  intro x hx
  rcases List.mem_or_eq_of_mem_set hx with hx | rfl
  · exact h5 x hx
  · exact ⟨h0, h2⟩
theorem setH_ok {g : List Thing} {h : List Int} (hh : isHealth g h = true) {n v : Int} (hn : 0 ≤ n) (hn2 : n < h.length) (h0 : 0 ≤ v) (h2 : v ≤ 2) : setH g h n v = (h.set n.toNat v, 0) := by
  unfold setH
  rw [if_pos ⟨hh, h0, h2⟩, if_pos ⟨hn, hn2⟩]

theorem law_HealthAll (y0 : List Thing) (G0 : y0.length * 32 ≤ 140737488351232 ∧ y0.length ≤ maxLen ∧ ∀ x ∈ y0, ThingOk x) : ACalls Try.prog 4 [things y0] (· = .one (.sv (bv true))) := by
  have hl := things_len G0
  have ht := things_ok G0.2.2
  refine ACalls.of_bodyS (fun _ _ => Try.call4 _ _) Try.func4 rfl Try.ntmps4 (by simp) ?_
  refine Tr.ex ?_
  simp [go_sem]
  refine OpW.fn true awake6_c rfl rfl (by simp [go_sem]) (by rintro _ r rfl; simp [go_sem]) ?_
  rintro r rfl
  by_cases hs : 60 < (y0.length : Int)
  · simp [go_sem, hs]
  · simp [go_sem, hs]
    refine OpW.fn true (gRight_c y0 hl ht) rfl rfl (by simp [go_sem]) (by rintro _ r rfl; simp [go_sem]) ?_
    rintro r rfl
    cases hg : isGraph y0 with
    | false => simp [go_sem]
    | true =>
      have hgl := isGraph_len hg
      simp [go_sem]
      refine OpW.fn false (New_c y0 hl ht) rfl rfl (by simp [go_sem]) (fun h => by cases h) ?_
      rintro r rfl
      rw [hg, if_pos rfl]
      have hf := fresh_ok hg
      unfold freshH at hf
      have hfl : (List.replicate y0.length (0 : Int)).length = y0.length := by simp
      have hd := setH_ok hf (n := 0) (v := 2) (by omega) (by omega) (by omega) (by omega)
      have hr := setH_ok hf (n := 0) (v := 1) (by omega) (by omega) (by omega) (by omega)
      simp only [Int.toNat_zero] at hd hr
      have hfd := isHealth_set hf (n := 0) (v := 2) (by omega) (by omega)
      have hfr := isHealth_set hf (n := 0) (v := 1) (by omega) (by omega)
      have b1 : (belowL y0 (List.replicate y0.length 0) 0).length = y0.length := by
        unfold belowL; rw [if_pos hf]
        exact belowTo_all fun i hi => worstAt_le (fun j => by rw [List.getD_eq_getElem?_getD, List.getElem?_replicate]; split <;> simp) i
      have b2 : (belowL y0 ((List.replicate y0.length 0).set 0 2) 1).length = 0 := by
        unfold belowL; rw [if_pos hfd]
        exact belowTo_none fun i hi => by
          have := worstAt_root hg ((List.replicate y0.length 0).set 0 2) i hi
          simp [List.getElem?_set, show 0 < y0.length by omega] at this; omega
      have b3 : (belowL y0 ((List.replicate y0.length 0).set 0 1) 0).length = 0 := by
        unfold belowL; rw [if_pos hfr]
        exact belowTo_none fun i hi => by
          have := worstAt_root hg ((List.replicate y0.length 0).set 0 1) i hi
          simp [List.getElem?_set, show 0 < y0.length by omega] at this; omega
      have b4 : (belowL y0 ((List.replicate y0.length 0).set 0 1) 1).length = y0.length := by
        unfold belowL; rw [if_pos hfr]
        exact belowTo_all fun i hi => worstAt_le (fun j => by
          rw [List.getD_eq_getElem?_getD, List.getElem?_set, List.getElem?_replicate]
          split
          · split <;> simp
          · split <;> simp) i
      generalize hh : List.replicate y0.length (0 : Int) = h at *
      generalize hhd : h.set 0 2 = d at *
      generalize hhr : h.set 0 1 = r at *
      have hdl : d.length = y0.length := by rw [← hhd]; simpa using hfl
      have hrl : r.length = y0.length := by rw [← hhr]; simpa using hfl
      simp [go_sem]
      refine OpW.fn false (hSet_c y0 h 0 2 hl ht (by omega)) rfl rfl (by simp [go_sem]) (fun h => by cases h) ?_
      rintro r rfl
      rw [hd]
      simp [go_sem]
      refine OpW.fn false (hSet_c y0 h 0 1 hl ht (by omega)) rfl rfl (by simp [go_sem]) (fun h => by cases h) ?_
      rintro r rfl
      rw [hr]
      simp [go_sem]
      refine OpW.fn false (Usable_c y0 h hl ht (by omega)) rfl rfl (by simp [go_sem]) (fun h => by cases h) ?_
      rintro r rfl
      simp [go_sem, b1]
      refine OpW.fn false (Works_c y0 d hl ht (by omega)) rfl rfl (by simp [go_sem]) (fun h => by cases h) ?_
      rintro r rfl
      simp [go_sem, b2]
      refine OpW.fn false (Usable_c y0 r hl ht (by omega)) rfl rfl (by simp [go_sem]) (fun h => by cases h) ?_
      rintro r rfl
      simp [go_sem, b3]
      refine OpW.fn false (Works_c y0 r hl ht (by omega)) rfl rfl (by simp [go_sem]) (fun h => by cases h) ?_
      rintro r rfl
      simp [go_sem, b4]
end Go.Proofs.Ytjpmldfmgogheaa.Ab
