/- The law ShareOrder. -/
import Derived.Test.YtpjcicbohgcehaaShM
namespace Go.Proofs.Ytpjcicbohgcehaa.Ab
open Go.RowKit Go.Proofs.Ytpjcicbohgcehaa.Fl
set_option linter.unusedVariables false
set_option linter.unusedSimpArgs false
theorem cut_at {α : Type} (g : α → SV) (l : List α) (k : Nat) : List.take (if (k : Int) < l.length then (k : Int) else (l.length : Int)).toNat (l.map g) = (l.take k).map g := by
  rw [List.map_take]
  split
  · rw [Int.toNat_natCast]
  · rename_i h
    rw [Int.toNat_natCast, List.take_of_length_le (by simp), List.take_of_length_le (by simp; omega)]
/-- Which places were seen. -/
def seenU (o : List Int) (n i : Nat) : List Bool := (List.range n).map fun j : Nat => decide ((j : Int) ∈ o.take i)
theorem seenU_len (o : List Int) (n i : Nat) : (seenU o n i).length = n := by unfold seenU; simp
theorem seenU_zero (o : List Int) (n : Nat) : seenU o n 0 = List.replicate n false := by
  apply List.ext_getElem?
  intro j
  unfold seenU
  rw [List.getElem?_map, List.getElem?_replicate]
  by_cases h : j < n
  · rw [List.getElem?_range h, if_pos h]; simp
  · rw [List.getElem?_eq_none (by simp; omega), if_neg h]; rfl
theorem seenU_at {o : List Int} {n i j : Nat} (hd : o.Nodup) (hj : j < n) (hi : o[i]? = some (j : Int)) : (seenU o n i)[j]? = some false := by
  unfold seenU
  rw [List.getElem?_map, List.getElem?_range hj]
  simp only [Option.map_some, Option.some.injEq, decide_eq_false_iff_not]
  intro hm
  obtain ⟨k, hk⟩ := List.getElem?_of_mem hm
  have hlt := (List.getElem?_eq_some_iff.1 hk).1
  rw [List.length_take] at hlt
  rw [List.getElem?_take_of_lt (by omega)] at hk
  have h1 := (List.getElem?_eq_some_iff.1 hi)
  have h2 := (List.getElem?_eq_some_iff.1 hk)
  obtain ⟨h1l, h1e⟩ := h1
  obtain ⟨h2l, h2e⟩ := h2
  exact List.pairwise_iff_getElem.1 hd k i h2l h1l (by omega) (by rw [h1e, h2e])
theorem seenU_set {o : List Int} {n i j : Nat} (hj : j < n) (hi : o[i]? = some (j : Int)) : (seenU o n i).set j true = seenU o n (i + 1) := by
  have hil := (List.getElem?_eq_some_iff.1 hi).1
  apply List.ext_getElem?
  intro k
  rw [List.getElem?_set]
  unfold seenU
  simp only [List.length_map, List.length_range, List.getElem?_map]
  rw [List.take_succ_eq_append_getElem hil, gE hi]
  by_cases h : k < n
  · rw [List.getElem?_range h]
    by_cases q : j = k
    · subst q; rw [if_pos rfl, if_pos hj]; simp
    · rw [if_neg q]
      simp only [Option.map_some, Option.some.injEq]
      rw [decide_eq_decide, List.mem_append, List.mem_singleton]
      constructor
      · exact .inl
      · rintro (h2 | h2)
        · exact h2
        · omega
  · rw [if_neg (by omega), List.getElem?_eq_none (by simp; omega)]
    rfl
theorem ordU_nodup (l : List Use) : (ordU l).Nodup := (ordU_perm l).nodup_iff.2 (idx_nodup _)
theorem ordU_step {l : List Use} {i : Nat} {a b : Int} (ha : (ordU l)[i]? = some a) (hb : (ordU l)[i + 1]? = some b) : keyU l a ≤ keyU l b := by
  obtain ⟨h1, e1⟩ := List.getElem?_eq_some_iff.1 ha
  obtain ⟨h2, e2⟩ := List.getElem?_eq_some_iff.1 hb
  have := List.pairwise_iff_getElem.1 (ordU_sorted l) i (i + 1) h1 h2 (by omega)
  rw [e1, e2] at this
  unfold aheadU at this
  omega
theorem ordU_in {l : List Use} {i : Nat} (h : i < l.length) : ∃ j : Nat, (ordU l)[i]? = some (j : Int) ∧ j < l.length := by
  obtain ⟨z, hz⟩ : ∃ z, (ordU l)[i]? = some z := ⟨_, List.getElem?_eq_getElem (by rw [ordU_len]; exact h)⟩
  have hm := (ordU_perm l).mem_iff.1 (List.mem_of_getElem? hz)
  rw [idx_mem] at hm
  exact ⟨z.toNat, by rw [hz]; congr 1; omega, by omega⟩
set_option maxHeartbeats 4000000 in
set_option maxRecDepth 100000 in
theorem ShareOrder_c (l : List Use) (hlw : UsesW l) (hl : l.length ≤ 100000000000000) :
    ACalls Try.prog 4 [uses l] (· = .one (.sv (bv true))) := by
  refine ACalls.of_bodyS (fun _ _ => Try.call4 _ _) Try.func4 rfl Try.ntmps4 (by simp) ?_
  refine Tr.ex ?_
  have hw' : UsesW (l.take 60) := fun y hy => hlw y (List.mem_of_mem_take hy)
  have htl : (l.take 60).length ≤ 60 := by rw [List.length_take]; omega
  have hmt := cut_at useSV l 60
  have f1 := Order_c (l.take 60) (by omega) hw'
  generalize l.take 60 = L at *
  have hol := ordU_len L
  have hnd := ordU_nodup L
  have hin := fun {i : Nat} => @ordU_in L i
  have hst := fun {i : Nat} {a b : Int} => @ordU_step L i a b
  unfold keyU at hst
  generalize ordU L = o at *
  have e0 : ((o.length : Int) != L.length) = false := by simp [hol]
  simp only [useSV, iv, fv, Int.cast_ofNat_Int] at hmt
  simp [go_sem]
  refine OpW.fn true awake15_c rfl rfl (by simp [go_sem]) (by rintro _ r rfl; simp [go_sem]) ?_
  rintro r rfl
  simp [go_sem]
  refine ⟨⟨by split <;> omega, by split <;> omega⟩, ?_⟩
  rw [hmt]
  refine OpW.fn false f1 rfl rfl (by simp [go_sem]) (fun h => by cases h) ?_
  rintro r rfl
  simp [go_sem, e0, hol]
  refine ⟨by omega, ?_⟩
  refine LoopW.of (fun i : Nat => ⟨87, [(0, .sv (uses L)), (2, .sv (bv false)), (3, .sv (ints o)), (4, .own 23), (5, .sv (iv i))], [(23, .row 1 ((seenU o L.length i).map bv))]⟩)
    (fun i => i ≤ L.length) (fun i => L.length - i) 0 (by omega) (Ent.chk (by simp [go_sem, seenU_zero])) ?_
  intro i hi
  by_cases hlt : i < L.length
  case neg =>
    have hil : i = L.length := by omega
    subst hil
    simp [go_sem, hol]
  case pos =>
  have hlt' : (i : Int) < L.length := by omega
  have hwr : IntKind.i64.wrap ((i : Int) + 1) = (i : Int) + 1 := by rw [i64w] <;> omega
  obtain ⟨j, hj, hjl⟩ := hin hlt
  have hjl' : (j : Int) < L.length := by omega
  have hj0 : ¬ (j : Int) < 0 := by omega
  have hjn : ¬ (L.length : Int) ≤ j := by omega
  have hsl := seenU_len o L.length i
  have hsa := seenU_at hnd hjl hj
  have hss : ((seenU o L.length i).map bv).set j (SV.val (.bool true)) = (seenU o L.length (i + 1)).map bv := by
    rw [← seenU_set hjl hj, List.map_set]; rfl
  obtain ⟨u, hu⟩ : ∃ u, L[j]? = some u := ⟨_, List.getElem?_eq_getElem hjl⟩
  have hus := Share_c u (hw' u (List.mem_of_getElem? hu))
  have hul := shr_le u
  have hg1 := fGt_fin hul (Nat.zero_le INF)
  have hg2 := fEq_fin hul (Nat.zero_le INF)
  have hge : (fGt .f64 (shr u) 0 || fEq .f64 (shr u) 0) = true := by
    rw [hg1, hg2]
    rcases Nat.eq_zero_or_pos (shr u) with q | q
    · rw [decide_eq_true q, Bool.or_true]
    · rw [decide_eq_true q, Bool.true_or]
  have hku : shr (uz L (j : Int)) = shr u := by rw [uz_at hu]
  have hd1 : decide ((j : Int) < 0) = false := by simp
  simp [go_sem, hlt, hlt', hol, hj, gE hj, hjl, hjl', hj0, hjn, hsl, hsa, gE hsa, hu, gE hu]
  generalize hs : shr u = s at *
  refine OpW.fn true hus rfl rfl (by simp [go_sem]) (by rintro _ r rfl; simp [go_sem]) ?_
  rintro r rfl
  by_cases i0 : i = 0
  · subst i0
    simp [go_sem, hge]
    exact ⟨1, by omega, by omega, Ent.chk (by simp [go_sem, hss])⟩
  · have hi0 : (0 : Int) < i := by omega
    have hi0' : 0 < i := by omega
    have hwk : IntKind.i64.wrap ((i : Int) - 1) = ((i - 1 : Nat) : Int) := by rw [i64w] <;> omega
    obtain ⟨k, hk, hkl⟩ := hin (show i - 1 < L.length by omega)
    have hkl' : (k : Int) < L.length := by omega
    have hil1 : i - 1 < L.length := by omega
    have hil1' : ((i - 1 : Nat) : Int) < L.length := by omega
    have hk0 : ¬ (k : Int) < 0 := by omega
    obtain ⟨v, hv⟩ : ∃ v, L[k]? = some v := ⟨_, List.getElem?_eq_getElem hkl⟩
    have hle := hst hk (by rw [show i - 1 + 1 = i by omega]; exact hj)
    rw [uz_at hv, uz_at hu, hs] at hle
    have hvs := Share_c v (hw' v (List.mem_of_getElem? hv))
    have hfl := fLt_fin hul (shr_le v)
    rw [decide_eq_false (by omega)] at hfl
    generalize shr v = s2 at *
    simp [go_sem, hge, hi0, hi0', hwk, hol, hil1, hil1', hk, gE hk, hkl, hkl', hk0, hv, gE hv]
    refine OpW.fn true hvs rfl rfl (by simp [go_sem]) (by rintro _ r rfl; simp [go_sem]) ?_
    rintro r rfl
    simp [go_sem, hfl]
    exact ⟨i + 1, by omega, by omega, Ent.chk (by simp [go_sem, hwr, hss])⟩
theorem law_ShareOrder (l : List Use) (h0 : l.length * 24 ≤ 140737488351232 ∧ l.length ≤ maxLen ∧ ∀ x ∈ l, UseOk x) :
    ACalls Try.prog 4 [SV.lst (l.map useSV)] (· = .one (.sv (bv true))) :=
  ShareOrder_c l (fun u hu => (h0.2.2 u hu).w) (by omega)
end Go.Proofs.Ytpjcicbohgcehaa.Ab
