/- Sets, plainly: what is strictly increasing, below 256. -/
import Derived.Test.YtfcojlagmmgagaaDoorGrS
namespace Go.Proofs.YtfcojlagmmgagaaDoor.Ab
set_option linter.unusedVariables false
set_option linter.unusedSimpArgs false

theorem setFrom_iff : ∀ {l : List Int} {last : Int}, setFrom last l = true ↔ (l.Pairwise (· < ·) ∧ ∀ n ∈ l, last < n ∧ n < 256)
  | [], last => by simp [setFrom]
  | m :: l, last => by
    simp only [setFrom, Bool.and_eq_true, decide_eq_true_eq, setFrom_iff (l := l) (last := m), List.pairwise_cons, List.mem_cons]
    constructor
    · rintro ⟨⟨h1, h2⟩, h3, h4⟩
      exact ⟨⟨fun a ha => (h4 a ha).1, h3⟩, fun n hn => by
        rcases hn with rfl | hn
        · exact ⟨h1, h2⟩
        · have := h4 n hn; omega⟩
    · rintro ⟨⟨h1, h2⟩, h3⟩
      exact ⟨h3 m (.inl rfl), h2, fun n hn => ⟨h1 n hn, (h3 n (.inr hn)).2⟩⟩
theorem isSet_iff {l : List Int} : isSet l = true ↔ (l.Pairwise (· < ·) ∧ ∀ n ∈ l, 0 ≤ n ∧ n < 256) := by
  unfold isSet
  rw [setFrom_iff]
  constructor
  · rintro ⟨h1, h2⟩; exact ⟨h1, fun n hn => by have := h2 n hn; omega⟩
  · rintro ⟨h1, h2⟩; exact ⟨h1, fun n hn => by have := h2 n hn; omega⟩
theorem sorted_ext : ∀ {a b : List Int}, a.Pairwise (· < ·) → b.Pairwise (· < ·) → (∀ n, n ∈ a ↔ n ∈ b) → a = b
  | [], [], _, _, _ => rfl
  | [], y :: b, _, _, h => by have := (h y).2 List.mem_cons_self; cases this
  | x :: a, [], _, _, h => by have := (h x).1 List.mem_cons_self; cases this
  | x :: a, y :: b, ha, hb, h => by
    rw [List.pairwise_cons] at ha hb
    have hxy : x = y := by
      have h1 := (h x).1 List.mem_cons_self
      have h2 := (h y).2 List.mem_cons_self
      rcases List.mem_cons.1 h1 with h1 | h1
      · exact h1
      · rcases List.mem_cons.1 h2 with h2 | h2
        · exact h2.symm
        · have := hb.1 x h1; have := ha.1 y h2; omega
    subst hxy
    congr 1
    refine sorted_ext ha.2 hb.2 fun n => ?_
    have := h n
    constructor
    · intro hn
      rcases List.mem_cons.1 (this.1 (List.mem_cons_of_mem _ hn)) with rfl | h3
      · have := ha.1 n hn; omega
      · exact h3
    · intro hn
      rcases List.mem_cons.1 (this.2 (List.mem_cons_of_mem _ hn)) with rfl | h3
      · have := hb.1 n hn; omega
      · exact h3
theorem set_ext {a b : List Int} (ha : isSet a = true) (hb : isSet b = true) (h : ∀ n, n ∈ a ↔ n ∈ b) : a = b := sorted_ext (isSet_iff.1 ha).1 (isSet_iff.1 hb).1 h
/-- The numbers below n of which p holds. -/
def rangeF (p : Nat → Bool) (n : Nat) : List Int := ((List.range n).filter p).map Int.ofNat
theorem mem_rangeF {p : Nat → Bool} {n : Nat} {k : Int} : k ∈ rangeF p n ↔ 0 ≤ k ∧ k < n ∧ p k.toNat = true := by
  unfold rangeF
  simp only [List.mem_map, List.mem_filter, List.mem_range]
  constructor
  · rintro ⟨i, ⟨h1, h2⟩, rfl⟩
    exact ⟨by simp, by simpa using h1, by simpa using h2⟩
  · rintro ⟨h1, h2, h3⟩
    exact ⟨k.toNat, ⟨by omega, h3⟩, by simp; omega⟩
theorem rangeF_sorted (p : Nat → Bool) (n : Nat) : (rangeF p n).Pairwise (· < ·) := by
  unfold rangeF
  rw [List.pairwise_map]
  refine List.Pairwise.imp ?_ (List.Pairwise.filter p List.pairwise_lt_range)
  intro a b h
  simpa using h
theorem rangeF_set (p : Nat → Bool) {n : Nat} (hn : n ≤ 256) : isSet (rangeF p n) = true := isSet_iff.2 ⟨rangeF_sorted p n, fun k hk => by have := mem_rangeF.1 hk; omega⟩
theorem rangeF_len (p : Nat → Bool) (n : Nat) : (rangeF p n).length ≤ n := by
  unfold rangeF; rw [List.length_map]; exact Nat.le_trans (List.length_filter_le _ _) (by simp)
theorem rangeF_succ (p : Nat → Bool) (i : Nat) : rangeF p (i + 1) = if p i = true then rangeF p i ++ [(i : Int)] else rangeF p i := by
  unfold rangeF
  rw [List.range_succ, List.filter_append, List.map_append]
  split
  · rename_i h; simp [h]
  · rename_i h; simp [h]
theorem rangeF_zero (p : Nat → Bool) : rangeF p 0 = [] := rfl
theorem rangeF_congr {p q : Nat → Bool} {n : Nat} (h : ∀ i, i < n → p i = q i) : rangeF p n = rangeF q n := by
  unfold rangeF
  rw [List.filter_congr fun i hi => h i (List.mem_range.1 hi)]
theorem nil_set : isSet [] = true := rfl
theorem set_len {l : List Int} (h : isSet l = true) : l.length ≤ 256 := by
  have h2 := (isSet_iff.1 h).2
  have : l = rangeF (fun i => decide ((i : Int) ∈ l)) 256 := set_ext h (rangeF_set _ (Nat.le_refl _)) fun n => by
    rw [mem_rangeF]
    constructor
    · intro hn
      have := h2 n hn
      exact ⟨this.1, this.2, by simpa [Int.toNat_of_nonneg this.1] using hn⟩
    · rintro ⟨h3, _, h4⟩
      simpa [Int.toNat_of_nonneg h3] using h4
  rw [this]; exact rangeF_len _ _
theorem partB_iff {a b : List Int} (ha : isSet a = true) (hb : isSet b = true) : partB a b = true ↔ ∀ n ∈ a, n ∈ b := by
  unfold partB; rw [ha, hb]; simp
theorem apartB_iff {a b : List Int} (ha : isSet a = true) (hb : isSet b = true) : apartB a b = true ↔ ∀ n ∈ a, n ∉ b := by
  unfold apartB; rw [ha, hb]; simp
end Go.Proofs.YtfcojlagmmgagaaDoor.Ab
