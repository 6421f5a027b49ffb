/- Insertion, plainly. -/
import Derived.Test.YtpjcicbohgcehaaAx1
namespace Go.Proofs.Ytpjcicbohgcehaa.Ab
set_option linter.unusedVariables false
set_option linter.unusedSimpArgs false

section
variable {α : Type}
/-- Into a list that stands the other way round: x goes ahead of the first that it is not less than. -/
def insR (lt : α → α → Bool) (x : α) : List α → List α
  | [] => [x]
  | y :: ys => if lt x y = true then y :: insR lt x ys else x :: y :: ys
def srtR (lt : α → α → Bool) (l : List α) : List α := l.foldl (fun r x => insR lt x r) []
/-- Sorted by insertion. -/
def srt (lt : α → α → Bool) (l : List α) : List α := (srtR lt l).reverse
theorem insR_perm (lt : α → α → Bool) (x : α) : ∀ l : List α, (insR lt x l).Perm (x :: l)
  | [] => List.Perm.refl _
  | y :: ys => by
    unfold insR
    split
    · exact ((insR_perm lt x ys).cons y).trans (List.Perm.swap x y ys)
    · exact List.Perm.refl _
theorem insR_len (lt : α → α → Bool) (x : α) (l : List α) : (insR lt x l).length = l.length + 1 := by rw [(insR_perm lt x l).length_eq]; rfl
theorem srtR_snoc (lt : α → α → Bool) (l : List α) (x : α) : srtR lt (l ++ [x]) = insR lt x (srtR lt l) := by unfold srtR; rw [List.foldl_append]; rfl
theorem srtR_perm (lt : α → α → Bool) (l : List α) : (srtR lt l).Perm l := by
  have key : ∀ (l r : List α), (l.foldl (fun r x => insR lt x r) r).Perm (l ++ r) := by
    intro l
    induction l with
    | nil => intro r; exact List.Perm.refl _
    | cons x l ih =>
      intro r
      rw [List.foldl_cons]
      refine (ih _).trans ?_
      refine ((insR_perm lt x r).append_left l).trans ?_
      rw [List.cons_append]; exact List.perm_middle
  have := key l []
  rwa [List.append_nil] at this
theorem srtR_len (lt : α → α → Bool) (l : List α) : (srtR lt l).length = l.length := (srtR_perm lt l).length_eq
theorem srt_perm (lt : α → α → Bool) (l : List α) : (srt lt l).Perm l := (List.reverse_perm _).trans (srtR_perm lt l)
theorem srt_len (lt : α → α → Bool) (l : List α) : (srt lt l).length = l.length := (srt_perm lt l).length_eq
/-- What comes of it, where the order is one and what is equal stands as it came. -/
theorem insR_sorted {lt : α → α → Bool} {R : α → α → Prop} {x : α} : ∀ {l : List α}, l.Pairwise (fun a b => R b a) → (∀ y ∈ l, lt x y = true → R x y) → (∀ y ∈ l, lt x y = false → R y x) → (∀ a b c, R a b → R b c → R a c) → (insR lt x l).Pairwise (fun a b => R b a)
  | [], _, _, _, _ => by simp [insR]
  | y :: ys, hp, h1, h2, ht => by
    unfold insR
    rw [List.pairwise_cons] at hp
    split
    · rename_i h
      rw [List.pairwise_cons]
      refine ⟨fun z hz => ?_, insR_sorted hp.2 (fun z hz => h1 z (List.mem_cons_of_mem _ hz)) (fun z hz => h2 z (List.mem_cons_of_mem _ hz)) ht⟩
      rcases List.mem_cons.1 ((insR_perm lt x ys).mem_iff.1 hz) with rfl | hz
      · exact h1 y List.mem_cons_self h
      · exact hp.1 z hz
    · rename_i h
      have hyx := h2 y List.mem_cons_self (by simpa using h)
      rw [List.pairwise_cons]
      refine ⟨fun z hz => ?_, List.pairwise_cons.2 hp⟩
      rcases List.mem_cons.1 hz with rfl | hz
      · exact hyx
      · exact ht _ _ _ (hp.1 z hz) hyx
theorem srt_sorted {lt : α → α → Bool} {R : α → α → Prop} {l : List α} (hl : l.Pairwise fun a b => (lt b a = true → R b a) ∧ (lt b a = false → R a b)) (ht : ∀ a b c, R a b → R b c → R a c) : (srt lt l).Pairwise R := by
  have key : ∀ (l r : List α), l.Pairwise (fun a b => (lt b a = true → R b a) ∧ (lt b a = false → R a b)) → r.Pairwise (fun a b => R b a) → (∀ a ∈ r, ∀ b ∈ l, (lt b a = true → R b a) ∧ (lt b a = false → R a b)) → (l.foldl (fun r x => insR lt x r) r).Pairwise (fun a b => R b a) := by
    intro l
    induction l with
    | nil => intro r _ hr _; exact hr
    | cons x l ih =>
      intro r hl hr hx
      rw [List.foldl_cons]
      rw [List.pairwise_cons] at hl
      refine ih _ hl.2 (insR_sorted hr (fun y hy => (hx y hy x List.mem_cons_self).1) (fun y hy => (hx y hy x List.mem_cons_self).2) ht) fun a ha b hb => ?_
      rcases List.mem_cons.1 ((insR_perm lt x r).mem_iff.1 ha) with rfl | ha
      · exact hl.1 b hb
      · exact hx a ha b (List.mem_cons_of_mem _ hb)
  unfold srt srtR
  rw [List.pairwise_reverse]
  exact key l [] hl List.Pairwise.nil (fun a ha => by cases ha)
/-- Two lists of the same, that stand in the same strict order, are one. -/
theorem sorted_unique {R : α → α → Prop} (hirr : ∀ a, ¬ R a a) (hasym : ∀ a b, R a b → ¬ R b a) : ∀ {l m : List α}, l.Perm m → l.Pairwise R → m.Pairwise R → l = m
  | [], m, hp, _, _ => (List.nil_perm.1 hp).symm
  | x :: l, [], hp, _, _ => by cases List.perm_nil.1 hp
  | x :: l, y :: m, hp, hl, hm => by
    rw [List.pairwise_cons] at hl hm
    have hxy : x = y := by
      rcases List.mem_cons.1 (hp.mem_iff.1 List.mem_cons_self) with h | h
      · exact h
      · rcases List.mem_cons.1 (hp.mem_iff.2 (List.mem_cons_self (a := y) (l := m))) with h2 | h2
        · exact h2.symm
        · exact (hasym _ _ (hl.1 y h2) (hm.1 x h)).elim
    subst hxy
    rw [sorted_unique hirr hasym (List.Perm.cons_inv hp) hl.2 hm.2]

/-! ### One insertion, step by step -/
def midL (A rp : List α) (x : α) (k : Nat) (C : List α) : List α := A ++ (rp.drop k).reverse ++ x :: ((rp.take k).reverse ++ C)
theorem set2 (B D : List α) (x y : α) {i j : Nat} (hi : i = B.length + 1) (hj : j = B.length) : ((B ++ y :: x :: D).set i y).set j x = B ++ x :: y :: D := by
  subst hi; subst hj
  rw [List.set_append_right _ _ (by omega), List.set_append_right _ _ (by omega)]
  simp
theorem midL_len (A rp : List α) (x : α) (k : Nat) (C : List α) (hk : k ≤ rp.length) : (midL A rp x k C).length = A.length + rp.length + 1 + C.length := by
  unfold midL; simp; omega
theorem midL_split {A rp : List α} {x y : α} {k : Nat} {C : List α} (hy : rp[k]? = some y) : midL A rp x k C = (A ++ (rp.drop (k + 1)).reverse) ++ y :: x :: ((rp.take k).reverse ++ C) := by
  obtain ⟨hk, rfl⟩ := List.getElem?_eq_some_iff.1 hy
  unfold midL
  rw [List.drop_eq_getElem_cons hk]
  generalize rp[k] = y
  generalize rp.drop (k + 1) = D
  simp
theorem midL_split2 {A rp : List α} {x y : α} {k : Nat} {C : List α} (hy : rp[k]? = some y) : midL A rp x (k + 1) C = (A ++ (rp.drop (k + 1)).reverse) ++ x :: y :: ((rp.take k).reverse ++ C) := by
  obtain ⟨hk, rfl⟩ := List.getElem?_eq_some_iff.1 hy
  unfold midL
  rw [List.take_succ_eq_append_getElem hk]
  generalize rp[k] = y
  generalize rp.take k = D
  simp
theorem midL_at {A rp : List α} {x : α} {k i : Nat} {C : List α} (hk : k ≤ rp.length) (hi : i = A.length + (rp.length - k)) : (midL A rp x k C)[i]? = some x := by
  unfold midL
  rw [List.getElem?_append_right (by simp; omega)]
  have : i - (A ++ (rp.drop k).reverse).length = 0 := by simp; omega
  rw [this]; rfl
theorem midL_pre {A rp : List α} {x y : α} {k i : Nat} {C : List α} (hy : rp[k]? = some y) (hi : i + 1 = A.length + (rp.length - k)) : (midL A rp x k C)[i]? = some y := by
  have hk := (List.getElem?_eq_some_iff.1 hy).1
  rw [midL_split hy, List.getElem?_append_right (by simp; omega)]
  have : i - (A ++ (rp.drop (k + 1)).reverse).length = 0 := by simp; omega
  rw [this]; rfl
theorem midL_step {A rp : List α} {x y : α} {k i j : Nat} {C : List α} (hy : rp[k]? = some y) (hi : i = A.length + (rp.length - k)) (hj : j + 1 = i) : ((midL A rp x k C).set i y).set j x = midL A rp x (k + 1) C := by
  have hk := (List.getElem?_eq_some_iff.1 hy).1
  rw [midL_split hy, midL_split2 hy]
  exact set2 _ _ _ _ (by simp; omega) (by simp; omega)
theorem insR_step {lt : α → α → Bool} {x y : α} {rp : List α} {k : Nat} (hy : rp[k]? = some y) (h : insR lt x rp = rp.take k ++ insR lt x (rp.drop k)) : (lt x y = true → insR lt x rp = rp.take (k + 1) ++ insR lt x (rp.drop (k + 1))) ∧ (lt x y = false → insR lt x rp = rp.take k ++ x :: rp.drop k) := by
  obtain ⟨hk, rfl⟩ := List.getElem?_eq_some_iff.1 hy
  rw [List.drop_eq_getElem_cons hk] at h ⊢
  have e : insR lt x (rp[k] :: rp.drop (k + 1)) = if lt x rp[k] = true then rp[k] :: insR lt x (rp.drop (k + 1)) else x :: rp[k] :: rp.drop (k + 1) := rfl
  rw [e] at h
  constructor
  · intro hl
    rw [if_pos hl] at h
    rw [List.take_succ_eq_append_getElem hk, List.append_assoc]
    exact h
  · intro hl
    rw [if_neg (by simp [hl])] at h
    exact h
/-- Where the loop is: so many are sorted. -/
def srtL (lt : α → α → Bool) (A l C : List α) (m : Nat) : List α := A ++ (srtR lt (l.take m)).reverse ++ (l.drop m ++ C)
theorem srtL_one (lt : α → α → Bool) (A l C : List α) : srtL lt A l C 1 = A ++ l ++ C := by
  unfold srtL
  cases l with
  | nil => rfl
  | cons x l => simp [srtR, insR]
theorem srtL_mid {lt : α → α → Bool} {A l C : List α} {m : Nat} {x : α} (hx : l[m]? = some x) : srtL lt A l C m = midL A (srtR lt (l.take m)) x 0 (l.drop (m + 1) ++ C) := by
  obtain ⟨hm, rfl⟩ := List.getElem?_eq_some_iff.1 hx
  unfold srtL midL
  rw [List.drop_eq_getElem_cons hm]
  generalize l.drop (m + 1) = D
  generalize l[m] = y
  simp
theorem srtL_end {lt : α → α → Bool} {A l C : List α} {m k : Nat} {x : α} (hx : l[m]? = some x) (h : insR lt x (srtR lt (l.take m)) = (srtR lt (l.take m)).take k ++ x :: (srtR lt (l.take m)).drop k) :
    midL A (srtR lt (l.take m)) x k (l.drop (m + 1) ++ C) = srtL lt A l C (m + 1) := by
  obtain ⟨hm, rfl⟩ := List.getElem?_eq_some_iff.1 hx
  unfold srtL midL
  rw [List.take_succ_eq_append_getElem hm, srtR_snoc, h]
  simp
theorem srtL_all {lt : α → α → Bool} {A l C : List α} {m : Nat} (h : l.length ≤ m) : srtL lt A l C m = A ++ srt lt l ++ C := by
  unfold srtL srt
  rw [List.take_of_length_le h, List.drop_eq_nil_of_le h]
  simp
theorem srtL_len (lt : α → α → Bool) (A l C : List α) (m : Nat) : (srtL lt A l C m).length = A.length + l.length + C.length := by
  unfold srtL; simp [srtR_len]; omega
end
end Go.Proofs.Ytpjcicbohgcehaa.Ab
