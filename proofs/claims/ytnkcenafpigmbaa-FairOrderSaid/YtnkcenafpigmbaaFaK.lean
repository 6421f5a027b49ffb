/- fair: those of nobody stand as in the line. -/
import Derived.Test.YtnkcenafpigmbaaFaJ
namespace Go.Proofs.Ytnkcenafpigmbaa.Ab
open Go.RowKit Go.Proofs.Ytnkcenafpigmbaa.Fl
set_option linter.unusedVariables false
set_option linter.unusedSimpArgs false

section
variable {α : Type}
/-- The place of one among those that are asked for. -/
theorem filter_at {p : α → Bool} : ∀ {l : List α} {k : Nat} {x : α}, l[k]? = some x → p x = true → (l.filter p)[(l.take k).countP p]? = some x
  | [], k, x, h, _ => by simp at h
  | y :: l, 0, x, h, hp => by
    simp at h
    subst h
    simp [List.filter_cons, hp]
  | y :: l, k + 1, x, h, hp => by
    simp only [List.getElem?_cons_succ] at h
    have ih := filter_at h hp
    rw [List.take_succ_cons, List.countP_cons, List.filter_cons]
    by_cases hy : p y = true
    · rw [if_pos hy, if_pos hy, List.getElem?_cons_succ]; exact ih
    · rw [if_neg hy, if_neg hy]; exact ih
theorem countP_gap {p : α → Bool} {l : List α} {a b : Nat} (hab : a ≤ b) (hn : ∀ (j : Nat) (x : α), a ≤ j → j < b → l[j]? = some x → p x = false) : (l.take b).countP p = (l.take a).countP p := by
  obtain ⟨d, rfl⟩ : ∃ d, b = a + d := ⟨b - a, by omega⟩
  induction d with
  | zero => rfl
  | succ d ih =>
    have h1 := ih (by omega) (fun j x h1 h2 => hn j x h1 (by omega))
    rcases Nat.lt_or_ge (a + d) l.length with q | q
    · have e := List.getElem?_eq_getElem q
      rw [show a + (d + 1) = a + d + 1 by omega, List.take_succ_eq_append_getElem q, List.countP_append, h1]
      have := hn (a + d) _ (by omega) (by omega) e
      simp [this]
    · rw [List.take_of_length_le (show l.length ≤ a + (d + 1) by omega)]
      rw [List.take_of_length_le q] at h1
      exact h1
end
/-- Of those that p asks for, which all have one rank's excess, the two orders tell the same. -/
theorem order_own {l : List Job} {ow : List Owned} {us : List Use} : (orderF l ow us).filter (fun id => decide (whoO ow id = 0)) = (readyL l).filter (fun id => decide (whoO ow id = 0)) := by
  unfold orderF readyL
  cases hq : isQ l with
  | false => rfl
  | true =>
    simp only [if_true]
    have hs := q_sorted hq
    rw [List.filter_map, List.filter_map]
    congr 1
    refine sorted_unique (R := aheadJ fun j => j.spec.prio) aheadJ_irr aheadJ_asym ?_ ?_ ?_
    · exact ((byRank_perm _ l).trans (readyJ_perm l).symm).filter _
    · have h1 := (byRank_sorted (rkJ ow us) hs).filter ((fun id => decide (whoO ow id = 0)) ∘ fun x : Job => x.id)
      refine h1.imp_of_mem fun {a b} ha hb hab => ?_
      have e1 : whoO ow a.id = 0 := by simpa using (List.mem_filter.1 ha).2
      have e2 : whoO ow b.id = 0 := by simpa using (List.mem_filter.1 hb).2
      unfold aheadJ rkJ at hab
      rw [e1, e2] at hab
      unfold aheadJ
      simp only
      omega
    · exact (readyJ_sorted hs).filter _
theorem order_perm (l : List Job) (ow : List Owned) (us : List Use) : (orderF l ow us).Perm (readyL l) := by
  unfold orderF readyL
  cases hq : isQ l with
  | false => exact List.Perm.refl _
  | true =>
    simp only [if_true]
    exact ((byRank_perm _ l).trans (readyJ_perm l).symm).map _
theorem readyL_nodup (l : List Job) : (readyL l).Nodup := by
  unfold readyL
  cases hq : isQ l with
  | false => simp
  | true =>
    simp only [if_true]
    have hs := q_sorted hq
    have h1 : ((readyJ l).map (·.id)).Perm ((l.filter (readyB l)).map (·.id)) := (readyJ_perm l).map _
    rw [h1.nodup_iff, List.nodup_iff_pairwise_ne, List.pairwise_map]
    exact (hs.sublist List.filter_sublist).imp fun {a b} h => by omega
/-- What the law's rounds know: the last of nobody that was told stands at 'last'. -/
def LastAt (p : Int → Bool) (O R : List Int) (i : Nat) (last : Int) : Prop :=
  ∃ q : Nat, last + 1 = q ∧ q ≤ O.length ∧ (O.take q).countP p = (R.take i).countP p
/-- The place of one, so far. -/
def SeenAt (O : List Int) (x : Int) (k : Nat) (a : Int) : Prop := (a = -1 ∧ ∀ (j : Nat), j < k → O[j]? ≠ some x) ∨ ∃ j : Nat, a = j ∧ j < k ∧ O[j]? = some x
/-- The first of nobody behind the last one, so far. -/
def OwnAt (p : Int → Bool) (O : List Int) (last : Int) (k : Nat) (b : Int) : Prop :=
  (b = -1 ∧ ∀ (j : Nat) (x : Int), last < j → j < k → O[j]? = some x → p x = false) ∨ ∃ (j : Nat) (y : Int), b = j ∧ j < k ∧ last < j ∧ O[j]? = some y ∧ p y = true ∧ ∀ (i : Nat) (x : Int), last < i → i < j → O[i]? = some x → p x = false
theorem own_eq {p : Int → Bool} {O R : List Int} {i : Nat} {x last a b : Int} (hf : O.filter p = R.filter p) (hn : O.Nodup) (hx : R[i]? = some x) (hp : p x = true) (hl : LastAt p O R i last) (ha : SeenAt O x O.length a) (hm : x ∈ O) (hb : OwnAt p O last O.length b) :
    b = a ∧ LastAt p O R (i + 1) a := by
  obtain ⟨q, hq, hqo, hc⟩ := hl
  have hR := filter_at hx hp
  rw [← hf, ← hc] at hR
  -- the place of x
  have hxa : ∃ j : Nat, a = j ∧ j < O.length ∧ O[j]? = some x := by
    rcases ha with ⟨_, h⟩ | h
    · obtain ⟨j, hj⟩ := List.getElem?_of_mem hm
      exact absurd hj (h j (List.getElem?_eq_some_iff.1 hj).1)
    · exact h
  obtain ⟨j, rfl, hj, hjx⟩ := hxa
  have hfn : (O.filter p).Nodup := hn.filter _
  have hO := filter_at hjx hp
  have hcj : (O.take j).countP p = (O.take q).countP p := by
    obtain ⟨h1, e1⟩ := List.getElem?_eq_some_iff.1 hO
    obtain ⟨h2, e2⟩ := List.getElem?_eq_some_iff.1 hR
    rcases Nat.lt_trichotomy ((O.take j).countP p) ((O.take q).countP p) with g | g | g
    · exact absurd (e1.trans e2.symm) (List.pairwise_iff_getElem.1 (List.nodup_iff_pairwise_ne.1 hfn) _ _ h1 h2 g)
    · exact g
    · exact absurd (e2.trans e1.symm) (List.pairwise_iff_getElem.1 (List.nodup_iff_pairwise_ne.1 hfn) _ _ h2 h1 g)
  have hjq : q ≤ j := by
    rcases Nat.lt_or_ge j q with g | g
    · exfalso
      have h1 : (O.take q).countP p = (O.take (j + 1)).countP p + ((O.take q).drop (j + 1)).countP p := by
        conv => lhs; rw [← List.take_append_drop (j + 1) (O.take q)]
        rw [List.countP_append, List.take_take, show min (j + 1) q = j + 1 by omega]
      have h2 : (O.take (j + 1)).countP p = (O.take j).countP p + 1 := by
        rw [List.take_succ_eq_append_getElem hj, gE hjx, List.countP_append]
        simp [hp]
      omega
    · exact g
  have hnext : LastAt p O R (i + 1) (j : Int) := by
    refine ⟨j + 1, rfl, by omega, ?_⟩
    have hi := (List.getElem?_eq_some_iff.1 hx).1
    rw [List.take_succ_eq_append_getElem hj, gE hjx, List.countP_append, List.take_succ_eq_append_getElem hi, gE hx, List.countP_append, hcj, hc]
  refine ⟨?_, hnext⟩
  rcases hb with ⟨_, h⟩ | ⟨k, y, rfl, hk, hlk, hky, hpy, h⟩
  · have := h j x (by omega) hj hjx
    rw [hp] at this; cases this
  · -- both are the first of p behind
    have hck : (O.take k).countP p = (O.take q).countP p := countP_gap (by omega) (fun i z h1 h2 h3 => h i z (by omega) h2 h3)
    rcases Nat.lt_trichotomy k j with g | g | g
    · exfalso
      have h1 : (O.take j).countP p = (O.take (k + 1)).countP p + ((O.take j).drop (k + 1)).countP p := by
        conv => lhs; rw [← List.take_append_drop (k + 1) (O.take j)]
        rw [List.countP_append, List.take_take, show min (k + 1) j = k + 1 by omega]
      have h2 : (O.take (k + 1)).countP p = (O.take k).countP p + 1 := by
        rw [List.take_succ_eq_append_getElem hk, gE hky, List.countP_append]
        simp [hpy]
      omega
    · rw [g]
    · have := h j x (by omega) g hjx
      rw [hp] at this; cases this
theorem last_skip {p : Int → Bool} {O R : List Int} {i : Nat} {x last : Int} (hx : R[i]? = some x) (hp : p x = false) (hl : LastAt p O R i last) : LastAt p O R (i + 1) last := by
  obtain ⟨q, hq, hqo, hc⟩ := hl
  refine ⟨q, hq, hqo, ?_⟩
  have hi := (List.getElem?_eq_some_iff.1 hx).1
  rw [hc, List.take_succ_eq_append_getElem hi, gE hx, List.countP_append]
  simp [hp]
end Go.Proofs.Ytnkcenafpigmbaa.Ab
