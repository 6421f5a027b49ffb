/- share: Order; the reference's. -/
import Derived.Test.YtpjcicbohgcehaaShI
import Derived.Test.YtpjcicbohgcehaaAbXs
namespace Go.Proofs.Ytpjcicbohgcehaa.Ab
open Go.RowKit Go.Proofs.Ytpjcicbohgcehaa.Fl
set_option linter.unusedVariables false
set_option linter.unusedSimpArgs false

def UsesW (l : List Use) : Prop := ∀ u ∈ l, UseW u
set_option maxHeartbeats 4000000 in
set_option maxRecDepth 100000 in
theorem ord1X (l : List Use) (i j s1 s2 : Nat) (u v : Use) (r3 r4 r5 : Int) (hu : l[i]? = some u) (hv : l[j]? = some v)
    (c1 : ACalls Try.prog 14 [useSV u] (· = .one (.sv (fv s1)))) (c2 : ACalls Try.prog 14 [useSV v] (· = .one (.sv (fv s2))))
    (c3 : ACalls Try.prog 28 [fv s1, fv s2] (· = .one (.sv (iv r3)))) (c4 : ACalls Try.prog 29 [iv u.who, iv v.who] (· = .one (.sv (iv r4))))
    (c5 : ACalls Try.prog 27 [.lst [iv r3, iv r4]] (· = .one (.sv (iv r5)))) : ACalls Try.prog 26 [iv i, iv j, .ref (.agg [uses l]) 0] (· = .one (.sv (iv r5))) := by
  refine ACalls.of_bodyS (fun _ _ => Try.call26 _ _) Try.func26 rfl Try.ntmps26 (by simp) ?_
  refine Tr.ex ?_
  have hi := (List.getElem?_eq_some_iff.1 hu).1
  have hj := (List.getElem?_eq_some_iff.1 hv).1
  have hi' : (i : Int) < l.length := by omega
  have hj' : (j : Int) < l.length := by omega
  simp [go_sem]
  refine DrawW.rdN [28] (by simp [go_sem]) rfl ?_
  simp [go_sem, hi, hi', hj, hj', hu, hv, gE hu, gE hv]
  refine OpD.call true c1 rfl rfl (by simp [go_sem]) (by intro _; simp [go_sem]) (by simp [go_sem]) (by simp [go_sem]) ?_
  simp [go_sem, hi, hi', hj, hj', hu, hv, gE hu, gE hv]
  refine OpD.call true c2 rfl rfl (by simp [go_sem]) (by intro _; simp [go_sem]) (by simp [go_sem]) (by simp [go_sem]) ?_
  simp [go_sem]
  refine OpD.call true c3 rfl rfl (by simp [go_sem]) (by intro _; simp [go_sem]) (by simp [go_sem]) (by simp [go_sem]) ?_
  simp [go_sem, hi, hi', hj, hj', hu, hv, gE hu, gE hv]
  refine OpD.call true c4 rfl rfl (by simp [go_sem]) (by intro _; simp [go_sem]) (by simp [go_sem]) (by simp [go_sem]) ?_
  simp [go_sem]
  refine OpD.bslice rfl rfl (by simp [go_sem]) (by simp [go_sem]) (by simp [go_sem]; rfl) (by simp [go_sem]; rfl) (by simp [go_sem]) (by simp [go_sem]) (by decide) (by simp [go_sem]) (by simp [go_sem]; rfl) ?_
  simp [go_sem]
  refine OpD.call true c5 rfl rfl (by simp [go_sem]) (by intro _; simp [go_sem]) (by simp [go_sem]) (by simp [go_sem]) ?_
  simp [go_sem]
  show _ = true
  kernel_rfl
theorem ord1_c (l : List Use) (hw : UsesW l) (i j : Nat) (hi : i < l.length) (hj : j < l.length) : ACalls Try.prog 26 [iv i, iv j, .ref (.agg [uses l]) 0] (· = .one (.sv (iv (cmpU l i j)))) := by
  obtain ⟨u, hu⟩ : ∃ x, l[i]? = some x := ⟨_, List.getElem?_eq_getElem hi⟩
  obtain ⟨v, hv⟩ : ∃ x, l[j]? = some x := ⟨_, List.getElem?_eq_getElem hj⟩
  have e : cmpU l i j = or2 (c3N (shr u) (shr v)) (c3I u.who v.who) := by unfold cmpU keyU; rw [uz_at hu, uz_at hv]
  rw [e]
  exact ord1X l i j (shr u) (shr v) u v _ _ _ hu hv (Share_c u (hw u (List.mem_of_getElem? hu))) (Share_c v (hw v (List.mem_of_getElem? hv))) (CmpF_c _ _ (shr_le u) (shr_le v)) (CmpI_c _ _) (Or_c _ _)
set_option maxHeartbeats 4000000 in
set_option maxRecDepth 100000 in
theorem Order_c (l : List Use) (hl : l.length ≤ 10000000) (hw : UsesW l) : ACalls Try.prog 10 [uses l] (· = .one (.sv (ints (ordU l)))) := by
  refine ACalls.of_bodyS (fun _ _ => Try.call10 _ _) Try.func10 rfl Try.ntmps10 (by simp) ?_
  refine Tr.ex ?_
  have hst := sortStableSI_c (aheadU l) (fun a b c => aheadU_trans) 26 [.ref (.agg [uses l]) 0] (cmpU l) (fun z => 0 ≤ z ∧ z < l.length) (fun a b ha hb => by
    have := ord1_c l hw a.toNat b.toNat (by omega) (by omega)
    rwa [Int.toNat_of_nonneg ha.1, Int.toNat_of_nonneg hb.1] at this) (idx l.length) (idx_ord l l.length) (fun z hz => by rw [idx_mem] at hz; exact hz) (by rw [idx_len]; omega)
  have huq := @ordU_uniq l
  have hol := ordU_len l
  simp [go_sem]
  refine LoopW.ent (Ent.thaw 3 3 1 (by simp [go_sem]) (by simp [go_sem]) (by decide) (Ent.refl _)) ?_
  refine LoopW.of (fun i : Nat => ⟨19, [(1, .box 1 0), (2, .nil), (3, .own 3), (6, .sv (iv l.length)), (7, .sv (iv i))], [(1, .box [.sv (uses l)]), (3, .row 1 ((idx i).map iv))]⟩)
    (fun i => i ≤ l.length) (fun i => l.length - i) 0 (by omega) (Ent.chk (by simp [go_sem, idx_zero])) ?_
  intro i hi
  by_cases hlt : i < l.length
  · have hlt' : (i : Int) < l.length := by omega
    have hwr : IntKind.i64.wrap ((i : Int) + 1) = (i : Int) + 1 := by rw [i64w] <;> omega
    have hix := idx_succ i
    have hil := idx_len i
    have hm := congrArg (List.map iv) hix
    rw [List.map_append] at hm
    simp only [List.map_cons, List.map_nil, iv, sv'] at hm
    generalize hnx : idx (i + 1) = nx at *
    generalize hcu : idx i = cu at *
    simp [go_sem, hlt, hlt']
    exact ⟨by omega, i + 1, by omega, by omega, Ent.rename2 13 3 (by simp [go_sem]) (Ent.chk (by simp [go_sem, hwr, hnx, hm]))⟩
  · have hil : i = l.length := by omega
    subst hil
    have hxl := idx_len l.length
    generalize idx l.length = cu at *
    simp [go_sem]
    refine OpW.frz 1 (OpW.go ?_)
    simp [go_sem]
    refine OpW.fnS 16 rfl rfl ?_
    simp [go_sem]
    refine OpW.callI 3 hst rfl (by simp [go_sem]) (by simp [go_sem]) (by simp [go_sem]) (by simp [go_sem]) ?_
    rintro r o ⟨rfl, g, hg, rfl⟩
    have hgl := hg.1.length_eq
    have hge := huq hg
    subst hge
    simp [go_sem, hgl]
def ltB (s1 s2 : Nat) (p q i j : Int) : Bool := decide (s1 < s2) || (decide (s1 = s2) && (decide (p < q) || (decide (p = q) && decide (i < j))))
theorem ltB_iff (s1 s2 : Nat) (p q i j : Int) : ltB s1 s2 p q i j = decide (s1 < s2 ∨ (s1 = s2 ∧ (p < q ∨ (p = q ∧ i < j)))) := by
  unfold ltB
  simp only [Bool.decide_or, Bool.decide_and]
theorem aheadX (l : List Use) (i j s1 s2 : Nat) (u v : Use) (hu : l[i]? = some u) (hv : l[j]? = some v)
    (c1 : ACalls Try.prog 22 [useSV u] (· = .one (.sv (fv s1)))) (c2 : ACalls Try.prog 22 [useSV v] (· = .one (.sv (fv s2))))
    (f1 : fEq .f64 s1 s2 = decide (s1 = s2)) (f2 : fLt .f64 s1 s2 = decide (s1 < s2)) : ACalls Try.prog 30 [uses l, iv i, iv j] (· = .one (.sv (bv (ltB s1 s2 u.who v.who i j)))) := by
  refine ACalls.of_bodyS (fun _ _ => Try.call30 _ _) Try.func30 rfl Try.ntmps30 (by simp) ?_
  refine Tr.ex ?_
  have hi := (List.getElem?_eq_some_iff.1 hu).1
  have hj := (List.getElem?_eq_some_iff.1 hv).1
  have hi' : (i : Int) < l.length := by omega
  have hj' : (j : Int) < l.length := by omega
  unfold ltB
  simp [go_sem]
  refine DrawW.rd rfl ?_
  simp [go_sem, hi, hi', hj, hj', hu, hv, gE hu, gE hv]
  refine OpD.call true c1 rfl rfl (by simp [go_sem]) (by intro _; simp [go_sem]) (by simp [go_sem]) (by simp [go_sem]) ?_
  simp [go_sem, hi, hi', hj, hj', hu, hv, gE hu, gE hv]
  refine OpD.call true c2 rfl rfl (by simp [go_sem]) (by intro _; simp [go_sem]) (by simp [go_sem]) (by simp [go_sem]) ?_
  simp [go_sem]
  refine ⟨by kernel_rfl, ?_⟩
  by_cases q : s1 = s2
  · subst q
    rw [decide_eq_true rfl] at f1
    simp [go_sem, f1]
    refine DrawW.rd rfl ?_
    simp [go_sem, hi, hi', hj, hj', hu, hv, gE hu, gE hv]
    refine ⟨by kernel_rfl, ?_⟩
    by_cases q2 : u.who = v.who
    · have q3 : (u.who != v.who) = false := by simpa using q2
      simp [go_sem, q2]
    · have q3 : (u.who != v.who) = true := by simpa using q2
      simp [go_sem, q2, q3]
      refine DrawW.rd rfl ?_
      simp [go_sem, hi, hi', hj, hj', hu, hv, gE hu, gE hv, q2]
      show _ = true
      kernel_rfl
  · rw [decide_eq_false q] at f1
    simp [go_sem, f1, f2, q]
theorem ahead_c (l : List Use) (hl : l.length ≤ 1000000000) (hw : UsesW l) (i j : Nat) (hi : i < l.length) (hj : j < l.length) : ACalls Try.prog 30 [uses l, iv i, iv j] (· = .one (.sv (bv (decide (aheadU l i j))))) := by
  obtain ⟨u, hu⟩ : ∃ x, l[i]? = some x := ⟨_, List.getElem?_eq_getElem hi⟩
  obtain ⟨v, hv⟩ : ∃ x, l[j]? = some x := ⟨_, List.getElem?_eq_getElem hj⟩
  have e : aheadU l i j ↔ shr u < shr v ∨ (shr u = shr v ∧ (u.who < v.who ∨ (u.who = v.who ∧ (i : Int) < j))) := by unfold aheadU keyU; rw [uz_at hu, uz_at hv]
  rw [decide_eq_decide.2 e, ← ltB_iff]
  exact aheadX l i j _ _ u v hu hv (rShare_c u (hw u (List.mem_of_getElem? hu))) (rShare_c v (hw v (List.mem_of_getElem? hv))) (fEq_fin (shr_le u) (shr_le v)) (fLt_fin (shr_le u) (shr_le v))
end Go.Proofs.Ytpjcicbohgcehaa.Ab
