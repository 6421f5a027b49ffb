/- Graphs, plainly: what is under what; counts. -/
import Derived.Test.YtfcojlagmmgagaaDoorGrW
import Derived.Test.YtfcojlagmmgagaaDoorSetP
namespace Go.Proofs.YtfcojlagmmgagaaDoor.Ab
set_option linter.unusedVariables false
set_option linter.unusedSimpArgs false

theorem inU_refl (g : List Thing) (n : Nat) : inU g n n = true := by rw [inU.eq_1]; simp
theorem inU_le {g : List Thing} {a : Nat} : ∀ {k : Nat}, inU g a k = true → a ≤ k := by
  intro k
  induction k using Nat.strongRecOn with
  | _ k ih =>
    intro h
    rw [inU.eq_1] at h
    by_cases hk : k = a
    · omega
    · have : (k == a) = false := by simpa using hk
      rw [this, Bool.false_or] at h
      split at h
      · rename_i hh; have := ih _ (by omega) h; omega
      · cases h
/-- A step up. -/
theorem inU_step {g : List Thing} {a k : Nat} (h : inU g a k = true) (hne : a ≠ k) : 0 ≤ (th g k).up ∧ (th g k).up < k ∧ inU g a (th g k).up.toNat = true := by
  rw [inU.eq_1] at h
  have : (k == a) = false := by simp; omega
  rw [this, Bool.false_or] at h
  split at h
  · rename_i hh; exact ⟨hh.1, hh.2, h⟩
  · cases h
theorem inU_up {g : List Thing} {a k : Nat} (h0 : 0 ≤ (th g k).up) (h1 : (th g k).up < k) (h : inU g a (th g k).up.toNat = true) : inU g a k = true := by
  rw [inU.eq_1, dif_pos ⟨h0, h1⟩, h, Bool.or_true]
theorem inU_trans {g : List Thing} {a b : Nat} : ∀ {k : Nat}, inU g a b = true → inU g b k = true → inU g a k = true := by
  intro k
  induction k using Nat.strongRecOn with
  | _ k ih =>
    intro h1 h2
    by_cases hk : b = k
    · exact hk ▸ h1
    · obtain ⟨q1, q2, q3⟩ := inU_step h2 hk
      exact inU_up q1 q2 (ih _ (by omega) h1 q3)
theorem inU_total {g : List Thing} {a b : Nat} (hab : a ≤ b) : ∀ {k : Nat}, inU g a k = true → inU g b k = true → inU g a b = true := by
  intro k
  induction k using Nat.strongRecOn with
  | _ k ih =>
    intro h1 h2
    by_cases hk : b = k
    · exact hk ▸ h1
    · by_cases hk2 : a = k
      · have := inU_le h2; omega
      · obtain ⟨q1, q2, q3⟩ := inU_step h2 hk
        exact ih _ (by omega) (inU_step h1 hk2).2.2 q3
theorem inU_root {g : List Thing} (hg : isGraph g = true) : ∀ {k : Nat}, k < g.length → inU g 0 k = true := by
  intro k
  induction k using Nat.strongRecOn with
  | _ k ih =>
    intro hk
    by_cases h0 : k = 0
    · subst h0; exact inU_refl _ _
    · have := isGraph_up hg (by omega) hk
      exact inU_up this.1 this.2.1 (ih _ (by omega) (by omega))
theorem thereB_iff {g : List Thing} {n : Int} : thereB g n = true ↔ 0 ≤ n ∧ n < g.length ∧ isGraph g = true := by
  unfold thereB; simp [and_assoc]
theorem underL_eq {g : List Thing} {n : Int} (h : thereB g n = true) : underL g n = rangeF (inU g n.toNat) g.length := by unfold underL; rw [if_pos h]; rfl
theorem underL_set (g : List Thing) (n : Int) : isSet (underL g n) = true := by
  cases h : thereB g n with
  | true => rw [underL_eq h]; exact rangeF_set _ (isGraph_len (thereB_iff.1 h).2.2).2
  | false => unfold underL; rw [h]; rfl
theorem underL_mem {g : List Thing} {n k : Int} : k ∈ underL g n ↔ thereB g n = true ∧ 0 ≤ k ∧ k < g.length ∧ inU g n.toNat k.toNat = true := by
  cases h : thereB g n with
  | true => rw [underL_eq h, mem_rangeF]; simp
  | false => unfold underL; rw [h]; simp
theorem underL_len (g : List Thing) (n : Int) : (underL g n).length ≤ g.length := by
  cases h : thereB g n with
  | true => rw [underL_eq h]; exact rangeF_len _ _
  | false => unfold underL; rw [h]; simp
theorem chainL_iff {g : List Thing} {j : Int} : ∀ {i : Nat}, j ∈ chainL g i ↔ 0 ≤ j ∧ inU g j.toNat i = true := by
  intro i
  induction i using Nat.strongRecOn with
  | _ i ih =>
    rw [chainL.eq_1, List.mem_cons]
    constructor
    · rintro (rfl | h)
      · exact ⟨by omega, by simpa using inU_refl g i⟩
      · split at h
        · rename_i hh
          have := (ih _ (by omega)).1 h
          exact ⟨this.1, inU_up hh.1 hh.2 this.2⟩
        · cases h
    · rintro ⟨h0, h⟩
      by_cases he : j.toNat = i
      · left; omega
      · right
        obtain ⟨q1, q2, q3⟩ := inU_step h he
        rw [dif_pos ⟨q1, q2⟩]
        exact (ih _ (by omega)).2 ⟨h0, q3⟩
theorem chainL_sorted (g : List Thing) (i : Nat) : (chainL g i).Pairwise (· > ·) := by
  induction i using Nat.strongRecOn with
  | _ i ih =>
    rw [chainL.eq_1, List.pairwise_cons]
    split
    · rename_i hh
      refine ⟨fun a ha => ?_, ih _ (by omega)⟩
      have := chainL_mem ha
      omega
    · exact ⟨fun a ha => (by cases ha), List.Pairwise.nil⟩
theorem aboveL_mem_iff {g : List Thing} {n k : Int} : k ∈ aboveL g n ↔ thereB g n = true ∧ 0 ≤ k ∧ inU g k.toNat n.toNat = true := by
  unfold aboveL
  cases h : thereB g n with
  | true => rw [if_pos rfl, List.mem_reverse, chainL_iff]; simp
  | false => simp
theorem aboveL_set (g : List Thing) (n : Int) : isSet (aboveL g n) = true := by
  rw [isSet_iff]
  constructor
  · unfold aboveL
    split
    · rw [List.pairwise_reverse]; exact (chainL_sorted g _).imp (fun h => h)
    · exact List.Pairwise.nil
  · intro k hk
    have h := aboveL_mem hk
    have h2 := aboveL_mem_iff.1 hk
    have := isGraph_len (thereB_iff.1 h2.1).2.2
    omega
theorem hasB_iff {l : List Int} {n : Int} (h : isSet l = true) : hasB l n = decide (n ∈ l) := by unfold hasB; rw [h]; simp
theorem under_above {g : List Thing} {n k : Int} (hn : thereB g n = true) (hk : thereB g k = true) : hasB (underL g n) k = hasB (aboveL g k) n := by
  rw [hasB_iff (underL_set _ _), hasB_iff (aboveL_set _ _), decide_eq_decide, underL_mem, aboveL_mem_iff]
  have h1 := thereB_iff.1 hn
  have h2 := thereB_iff.1 hk
  constructor
  · rintro ⟨_, _, _, h⟩; exact ⟨hk, h1.1, h⟩
  · rintro ⟨_, _, h⟩; exact ⟨hn, h2.1, h2.2.1, h⟩

/-! ### Kinds -/
def level (k : Int) : Int := if k ≤ 3 then k else 3
theorem kindOk_level {k up : Int} (h : kindOk k up = true) : level up < level k := by
  unfold kindOk at h
  unfold level
  simp only [Bool.or_eq_true, Bool.and_eq_true, beq_iff_eq] at h
  split <;> split <;> omega
theorem inU_level {g : List Thing} (hg : isGraph g = true) {a : Nat} : ∀ {k : Nat}, k < g.length → inU g a k = true → a ≠ k → level (th g a).kind < level (th g k).kind := by
  intro k
  induction k using Nat.strongRecOn with
  | _ k ih =>
    intro hk h hne
    obtain ⟨q1, q2, q3⟩ := inU_step h hne
    have h0 : 0 < k := by omega
    have h3 := kindOk_level (isGraph_up hg h0 hk).2.2
    by_cases he : a = (th g k).up.toNat
    · rw [he]; exact h3
    · have := ih _ (by omega) (by omega) q3 he
      omega
/-- A node is under itself alone, of all nodes. -/
theorem node_one {g : List Thing} (hg : isGraph g = true) {a k : Nat} (hk : k < g.length) (ha2 : (th g a).kind = 2) (hk2 : (th g k).kind = 2) (h : inU g a k = true) : a = k := by
  by_cases he : a = k
  · exact he
  · have := inU_level hg hk h he
    rw [ha2, hk2] at this; omega
/-- A core or gpu is part of a node. -/
theorem leaf_up {g : List Thing} (hg : isGraph g = true) {k : Nat} (hk : k < g.length) (h3 : (th g k).kind = 3 ∨ (th g k).kind = 4) : 0 ≤ (th g k).up ∧ (th g k).up < k ∧ (th g (th g k).up.toNat).kind = 2 := by
  have h0 : 0 < k := by
    rcases Nat.eq_zero_or_pos k with rfl | h
    · have := (isGraph_root hg).1; omega
    · exact h
  have h := isGraph_up hg h0 hk
  refine ⟨h.1, h.2.1, ?_⟩
  have := h.2.2
  unfold kindOk at this
  simp only [Bool.or_eq_true, Bool.and_eq_true, beq_iff_eq] at this
  omega
theorem leaf_node {g : List Thing} (hg : isGraph g = true) {a k : Nat} (hk : k < g.length) (h3 : (th g k).kind = 3 ∨ (th g k).kind = 4) (ha : (th g a).kind = 2) : inU g a k = true ↔ (th g k).up = a := by
  have hu := leaf_up hg hk h3
  constructor
  · intro h
    have hne : a ≠ k := by rintro rfl; omega
    have := node_one hg (by omega) ha hu.2.2 (inU_step h hne).2.2
    omega
  · intro h
    refine inU_up hu.1 hu.2.1 ?_
    rw [h]; simpa using inU_refl g a
theorem kind_zero {g : List Thing} (hg : isGraph g = true) {k : Nat} (hk : k < g.length) : (th g k).kind = 0 ↔ k = 0 := by
  constructor
  · intro h
    rcases Nat.eq_zero_or_pos k with h0 | h0
    · exact h0
    · have := (isGraph_up hg h0 hk).2.2
      unfold kindOk at this
      simp only [Bool.or_eq_true, Bool.and_eq_true, beq_iff_eq] at this
      omega
  · rintro rfl; exact (isGraph_root hg).1
/-- How many things that are so are of a kind. -/
def cntN (g : List Thing) (p : Nat → Bool) (k : Int) : Nat := ((List.range g.length).filter fun i => p i && (th g i).kind == k).length
theorem cnt_rangeF (g : List Thing) (p : Nat → Bool) (k : Int) : cnt g (rangeF p g.length) k = cntN g p k := by
  unfold cnt cntN rangeF
  rw [List.filter_map, List.length_map, List.filter_filter]
  congr 1
  refine List.filter_congr fun i hi => ?_
  have : i < g.length := List.mem_range.1 hi
  simp [this, Bool.and_comm]
theorem kinds_under {g : List Thing} {n : Int} (h : thereB g n = true) : kindsL g (underL g n) = [((cntN g (inU g n.toNat) 0 : Nat) : Int), ((cntN g (inU g n.toNat) 1 : Nat) : Int), ((cntN g (inU g n.toNat) 2 : Nat) : Int), ((cntN g (inU g n.toNat) 3 : Nat) : Int), ((cntN g (inU g n.toNat) 4 : Nat) : Int)] := by
  unfold kindsL
  rw [if_pos ⟨(thereB_iff.1 h).2.2, underL_set _ _⟩, underL_eq h]
  simp only [List.map_cons, List.map_nil, cnt_rangeF]
theorem cntN_le (g : List Thing) (p : Nat → Bool) (k : Int) : cntN g p k ≤ g.length := by
  unfold cntN; exact Nat.le_trans (List.length_filter_le _ _) (by simp)
theorem cntN_congr {g : List Thing} {p q : Nat → Bool} {k : Int} (h : ∀ i, i < g.length → (th g i).kind = k → p i = q i) : cntN g p k = cntN g q k := by
  unfold cntN
  congr 1
  refine List.filter_congr fun i hi => ?_
  cases hk : ((th g i).kind == k) with
  | false => simp
  | true => simp [h i (List.mem_range.1 hi) (by simpa using hk)]
theorem cntN_or {g : List Thing} {p q : Nat → Bool} {k : Int} (h : ∀ i, i < g.length → (th g i).kind = k → p i = true → q i = true → False) : cntN g (fun i => p i || q i) k = cntN g p k + cntN g q k := by
  unfold cntN
  have : ∀ l : List Nat, (∀ i ∈ l, i < g.length) → (l.filter fun i => (p i || q i) && (th g i).kind == k).length = (l.filter fun i => p i && (th g i).kind == k).length + (l.filter fun i => q i && (th g i).kind == k).length := by
    intro l
    induction l with
    | nil => intro _; rfl
    | cons i l ih =>
      intro hl
      have ih := ih (fun j hj => hl j (List.mem_cons_of_mem _ hj))
      have hi := hl i List.mem_cons_self
      simp only [List.filter_cons]
      cases hk : ((th g i).kind == k) with
      | false => simpa using ih
      | true =>
        have hk' : (th g i).kind = k := by simpa using hk
        cases hp : p i <;> cases hq : q i
        · simpa using ih
        · simp; omega
        · simp; omega
        · exact (h i hi hk' hp hq).elim
  exact this _ (fun i hi => List.mem_range.1 hi)
theorem cntN_none {g : List Thing} {p : Nat → Bool} {k : Int} (h : ∀ i, i < g.length → (th g i).kind = k → p i = false) : cntN g p k = 0 := by
  unfold cntN
  rw [List.length_eq_zero_iff, List.filter_eq_nil_iff]
  intro i hi
  cases hk : ((th g i).kind == k) with
  | false => simp
  | true => simp [h i (List.mem_range.1 hi) (by simpa using hk)]
theorem cntN_one {g : List Thing} {p : Nat → Bool} {k : Int} {a : Nat} (ha : a < g.length) (h1 : p a = true) (h2 : (th g a).kind = k) (h : ∀ i, i < g.length → (th g i).kind = k → p i = true → i = a) : cntN g p k = 1 := by
  have e : cntN g p k = cntN g (fun i => i == a) k := cntN_congr fun i hi hk => by
    by_cases hia : i = a
    · subst hia; simp [h1]
    · cases hp : p i with
      | false => simp [hia]
      | true => exact absurd (h i hi hk hp) hia
  rw [e]
  unfold cntN
  have : ∀ n, ((List.range n).filter fun i => i == a && (th g i).kind == k).length = if a < n then 1 else 0 := by
    intro n
    induction n with
    | zero => simp
    | succ n ih =>
      rw [List.range_succ, List.filter_append, List.length_append, ih]
      by_cases hn : n = a
      · subst hn
        have : ((th g n).kind == k) = true := by simp [h2]
        simp [this]
      · have hna : (n == a) = false := by simpa using hn
        have h0 : (List.filter (fun i => i == a && (th g i).kind == k) [n]).length = 0 := by simp [hna]
        rw [h0]
        by_cases hlt : a < n
        · rw [if_pos hlt, if_pos (by omega)]
        · rw [if_neg hlt, if_neg (by omega)]
  rw [this, if_pos ha]
theorem cntN_all {g : List Thing} (hg : isGraph g = true) : cntN g (inU g 0) 0 + cntN g (inU g 0) 1 + cntN g (inU g 0) 2 + cntN g (inU g 0) 3 + cntN g (inU g 0) 4 = g.length := by
  have : ∀ k, cntN g (inU g 0) k = ((List.range g.length).filter fun i => (th g i).kind == k).length := fun k => by
    unfold cntN
    congr 1
    refine List.filter_congr fun i hi => ?_
    rw [inU_root hg (List.mem_range.1 hi), Bool.true_and]
  simp only [this]
  have key : ∀ l : List Nat, (∀ i ∈ l, i < g.length) → (l.filter fun i => (th g i).kind == 0).length + (l.filter fun i => (th g i).kind == 1).length + (l.filter fun i => (th g i).kind == 2).length + (l.filter fun i => (th g i).kind == 3).length + (l.filter fun i => (th g i).kind == 4).length = l.length := by
    intro l
    induction l with
    | nil => intro _; rfl
    | cons i l ih =>
      intro hl
      have ih := ih (fun j hj => hl j (List.mem_cons_of_mem _ hj))
      have hk := kind_rng hg (hl i List.mem_cons_self)
      simp only [List.filter_cons, List.length_cons]
      rcases hk with h | h | h | h | h <;> rw [h] <;> simp <;> omega
  have := key (List.range g.length) (fun i hi => List.mem_range.1 hi)
  simpa using this
theorem nodes_len {g : List Thing} (hg : isGraph g = true) : (nodesL g).length = cntN g (inU g 0) 2 := by
  unfold nodesL cntN
  rw [if_pos hg, List.length_map]
  congr 1
  refine List.filter_congr fun i hi => ?_
  rw [inU_root hg (List.mem_range.1 hi), Bool.true_and]
theorem nodesL_eq {g : List Thing} (hg : isGraph g = true) : nodesL g = rangeF (fun i => (th g i).kind == 2) g.length := by unfold nodesL; rw [if_pos hg]; rfl
theorem nodesL_mem {g : List Thing} {k : Int} : k ∈ nodesL g ↔ isGraph g = true ∧ 0 ≤ k ∧ k < g.length ∧ (th g k.toNat).kind = 2 := by
  cases hg : isGraph g with
  | true => rw [nodesL_eq hg, mem_rangeF]; simp
  | false => unfold nodesL; rw [hg]; simp
theorem nodesL_sorted (g : List Thing) : (nodesL g).Pairwise (· < ·) := by
  cases hg : isGraph g with
  | true => rw [nodesL_eq hg]; exact rangeF_sorted _ _
  | false => unfold nodesL; rw [hg]; exact List.Pairwise.nil
theorem nodeOf_node {g : List Thing} {a : Int} (ht : thereB g a = true) (h2 : (th g a.toNat).kind = 2) : nodeOf g a = a := by
  have h1 := thereB_iff.1 ht
  unfold nodeOf
  cases hf : (aboveL g a).find? fun k => (th g k.toNat).kind == 2 with
  | none =>
    rw [List.find?_eq_none] at hf
    have := hf a (aboveL_mem_iff.2 ⟨ht, h1.1, inU_refl _ _⟩)
    simp [h2] at this
  | some k =>
    have hk := List.find?_some hf
    have hm := aboveL_mem_iff.1 (List.mem_of_find?_eq_some hf)
    have := node_one h1.2.2 (by omega) (by simpa using hk) h2 hm.2.2
    simp; omega
/-- The leaves of a kind under some of the nodes. -/
def leafTo (g : List Thing) (l : List Int) (k : Int) : Nat := cntN g (fun i => decide ((th g i).up ∈ l)) k
theorem leafTo_succ {g : List Thing} (hg : isGraph g = true) {i : Nat} (hi : i < (nodesL g).length) {k : Int} (hk : k = 3 ∨ k = 4) : leafTo g ((nodesL g).take (i + 1)) k = leafTo g ((nodesL g).take i) k + cntN g (inU g (nodesL g)[i].toNat) k := by
  have hm := nodesL_mem.1 (List.getElem_mem hi)
  have hs := nodesL_sorted g
  unfold leafTo
  have htk : (nodesL g).take (i + 1) = (nodesL g).take i ++ [(nodesL g)[i]] := by rw [List.take_add_one, List.getElem?_eq_getElem hi]; rfl
  rw [← cntN_or]
  · refine cntN_congr fun j hj hjk => ?_
    have := leaf_node hg hj (by rw [hjk]; exact hk) hm.2.2.2
    rw [Bool.eq_iff_iff, htk]
    simp only [List.mem_append, List.mem_singleton, decide_eq_true_eq, Bool.or_eq_true, this]
    constructor
    · rintro (h | h)
      · exact .inl h
      · right; omega
    · rintro (h | h)
      · exact .inl h
      · right; omega
  · intro j hj hjk h1 h2
    have h3 := (leaf_node hg hj (by rw [hjk]; exact hk) hm.2.2.2).1 h2
    have h4 : (th g j).up ∈ (nodesL g).take i := by simpa using h1
    have h5 : (th g j).up = (nodesL g)[i] := by omega
    rw [h5] at h4
    obtain ⟨q, hq, he⟩ := List.getElem_of_mem h4
    rw [List.getElem_take] at he
    have hqi : q < i := by simp at hq; omega
    have := List.pairwise_iff_getElem.1 hs q i (by omega) hi hqi
    omega
theorem leafTo_all {g : List Thing} (hg : isGraph g = true) {k : Int} (hk : k = 3 ∨ k = 4) : leafTo g (nodesL g) k = cntN g (inU g 0) k := by
  unfold leafTo
  refine cntN_congr fun j hj hjk => ?_
  have hu := leaf_up hg hj (by rw [hjk]; exact hk)
  rw [inU_root hg hj, decide_eq_true_eq, nodesL_mem]
  exact ⟨hg, hu.1, by omega, hu.2.2⟩
end Go.Proofs.YtfcojlagmmgagaaDoor.Ab
