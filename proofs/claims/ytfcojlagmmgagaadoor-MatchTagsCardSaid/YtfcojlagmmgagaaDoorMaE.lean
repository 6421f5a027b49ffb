/- match: what is got, in plain words. -/
import Derived.Test.YtfcojlagmmgagaaDoorMaD
import Derived.Test.YtfcojlagmmgagaaDoorGrP
namespace Go.Proofs.YtfcojlagmmgagaaDoor.Ab
open Go.RowKit
set_option linter.unusedVariables false
set_option linter.unusedSimpArgs false

theorem take_snoc {α : Type} (l : List α) (x : α) (k : Nat) : (l ++ [x]).take k = if l.length < k then l.take k ++ [x] else l.take k := by
  by_cases h : l.length < k
  · rw [if_pos h, List.take_of_length_le (by simp; omega), List.take_of_length_le (by omega)]
  · rw [if_neg h, List.take_append_of_le_length (by omega)]
theorem set_filter {l : List Int} (p : Int → Bool) (h : isSet l = true) : isSet (l.filter p) = true := by
  rw [isSet_iff] at h ⊢
  exact ⟨h.1.sublist List.filter_sublist, fun n hn => h.2 n (List.mem_filter.1 hn).1⟩
theorem set_sub {l m : List Int} (hs : m.Sublist l) (h : isSet l = true) : isSet m = true := by
  rw [isSet_iff] at h ⊢
  exact ⟨h.1.sublist hs, fun n hn => h.2 n (hs.subset hn)⟩
theorem kidsL_eq (g : List Thing) (u : Nat) : kidsL g u = rangeF (fun j => decide (2 < (th g j).kind) && (th g j).up == (u : Int)) g.length := rfl
theorem kidsL_set {g : List Thing} (hg : isGraph g = true) (u : Nat) : isSet (kidsL g u) = true := by
  rw [kidsL_eq]; exact rangeF_set _ (isGraph_len hg).2
theorem kidsL_iff {g : List Thing} {u : Nat} {n : Int} : n ∈ kidsL g u ↔ 0 ≤ n ∧ n < g.length ∧ 2 < (th g n.toNat).kind ∧ (th g n.toNat).up = u := by
  rw [kidsL_eq, mem_rangeF]; simp
theorem kidsL_gt {g : List Thing} (hg : isGraph g = true) {u : Nat} {n : Int} (h : n ∈ kidsL g u) : (u : Int) < n := by
  rw [kidsL_iff] at h
  have := isGraph_le hg (i := n.toNat) (by omega)
  omega
theorem ofKind_set {g : List Thing} {free : List Int} {k : Int} {l : List Int} (h : isSet l = true) : isSet (ofKind g free k l) = true := set_filter _ h
theorem coresL_set {g : List Thing} (hg : isGraph g = true) (free : List Int) (s : Spec) (u : Nat) : isSet (coresL g free s u) = true := isSet_take (ofKind_set (kidsL_set hg u))
theorem gpusL_set {g : List Thing} (hg : isGraph g = true) (free : List Int) (s : Spec) (u : Nat) : isSet (gpusL g free s u) = true := isSet_take (ofKind_set (kidsL_set hg u))
theorem ofKind_mem {g : List Thing} {free : List Int} {k : Int} {l : List Int} {n : Int} : n ∈ ofKind g free k l ↔ n ∈ l ∧ n ∈ free ∧ (th g n.toNat).kind = k := by unfold ofKind; simp
/-- What is under a node: it and its cores and gpus. -/
theorem under_node {g : List Thing} (hg : isGraph g = true) {u : Nat} (hu : u < g.length) (h2 : (th g u).kind = 2) : underL g u = (u : Int) :: kidsL g u := by
  have hth : thereB g u = true := thereB_iff.2 ⟨by omega, by omega, hg⟩
  refine sorted_ext (isSet_iff.1 (underL_set g u)).1 (List.pairwise_cons.2 ⟨fun n hn => kidsL_gt hg hn, (isSet_iff.1 (kidsL_set hg u)).1⟩) fun n => ?_
  rw [underL_mem, List.mem_cons, kidsL_iff]
  simp only [Int.toNat_natCast]
  constructor
  · rintro ⟨_, h0, hn, hin⟩
    by_cases e : u = n.toNat
    · left; omega
    · right
      have hl := inU_level hg (k := n.toNat) (by omega) hin e
      have hr := kind_rng hg (i := n.toNat) (by omega)
      have h3 : (th g n.toNat).kind = 3 ∨ (th g n.toNat).kind = 4 := by
        rw [h2] at hl; unfold level at hl
        rcases hr with h | h | h | h | h
        · rw [h] at hl; exact absurd hl (by decide)
        · rw [h] at hl; exact absurd hl (by decide)
        · rw [h] at hl; exact absurd hl (by decide)
        · exact .inl h
        · exact .inr h
      exact ⟨h0, hn, by omega, (leaf_node hg (by omega) h3 h2).1 hin⟩
  · rintro (rfl | ⟨h0, hn, hk, hup⟩)
    · exact ⟨hth, by omega, by omega, by simp [inU_refl]⟩
    · have hr := kind_rng hg (i := n.toNat) (by omega)
      have h3 : (th g n.toNat).kind = 3 ∨ (th g n.toNat).kind = 4 := by omega
      exact ⟨hth, h0, hn, (leaf_node hg (by omega) h3 h2).2 hup⟩
theorem nodeOk_iff {g : List Thing} {free : List Int} {s : Spec} {u : Nat} : nodeOk g free s u = true ↔ (th g u).kind = 2 ∧ (u : Int) ∈ free ∧ (s.tag.toList = [] ∨ (th g u).tag.toList = s.tag.toList) := by
  unfold nodeOk; simp [and_assoc]
theorem nat_lt_take {a : List Int} {c : Int} (hc : 0 ≤ c) : ((a.take c.toNat).length : Int) < c ↔ (a.length : Int) < c := by
  rw [List.length_take]; omega
theorem here_ok {g : List Thing} {free : List Int} {s : Spec} {u : Nat} (hc : 0 ≤ s.cores) (hp : 0 ≤ s.gpus) : (hereL g free s u).2 = true ↔
    nodeOk g free s u = true ∧ s.cores ≤ ((ofKind g free 3 (kidsL g u)).length : Int) ∧ s.gpus ≤ ((ofKind g free 4 (kidsL g u)).length : Int) ∧ (s.whole = true → ∀ n ∈ kidsL g u, n ∈ free) := by
  unfold hereL coresL gpusL
  simp only [nat_lt_take hc, nat_lt_take hp]
  cases h : nodeOk g free s u with
  | false => simp
  | true =>
    simp only [if_true, true_and]
    by_cases h1 : ((ofKind g free 3 (kidsL g u)).length : Int) < s.cores
    · rw [if_pos (.inl h1)]; simp; omega
    · by_cases h2 : ((ofKind g free 4 (kidsL g u)).length : Int) < s.gpus
      · rw [if_pos (.inr h2)]; simp; omega
      · rw [if_neg (by omega)]
        have e1 : s.cores ≤ ((ofKind g free 3 (kidsL g u)).length : Int) := by omega
        have e2 : s.gpus ≤ ((ofKind g free 4 (kidsL g u)).length : Int) := by omega
        simp only [e1, e2, true_and]
        cases hw : s.whole with
        | false => simp
        | true =>
          simp only [if_true, true_implies, List.all_eq_true, decide_eq_true_eq]
          by_cases ha : ∀ n ∈ kidsL g u, n ∈ free
          · rw [if_pos ha]; simpa using ha
          · rw [if_neg ha]; simpa using ha
theorem here_no {g : List Thing} {free : List Int} {s : Spec} {u : Nat} (h : (hereL g free s u).2 = false) : (hereL g free s u).1 = [] := by
  revert h; unfold hereL
  split
  · split
    · intro _; rfl
    · split
      · split
        · intro h; cases h
        · intro _; rfl
      · intro h; cases h
  · intro _; rfl
theorem here_whole {g : List Thing} {free : List Int} {s : Spec} {u : Nat} (h : (hereL g free s u).2 = true) (hw : s.whole = true) : (hereL g free s u).1 = (u : Int) :: kidsL g u := by
  revert h; unfold hereL; rw [hw]
  simp only [if_true]
  split
  · split
    · intro h; cases h
    · split
      · intro _; rfl
      · intro h; cases h
  · intro h; cases h
theorem here_part {g : List Thing} {free : List Int} {s : Spec} {u : Nat} (h : (hereL g free s u).2 = true) (hw : s.whole = false) : (hereL g free s u).1 = joinL (coresL g free s u) (gpusL g free s u) := by
  revert h; unfold hereL; rw [hw]
  simp only [Bool.false_eq_true, if_false]
  split
  · split
    · intro h; cases h
    · intro _; rfl
  · intro h; cases h
theorem here_node {g : List Thing} {free : List Int} {s : Spec} {u : Nat} (h : (hereL g free s u).2 = true) : nodeOk g free s u = true := by
  revert h; unfold hereL
  split
  · rename_i h; intro _; exact h
  · intro h; cases h
theorem here_set {g : List Thing} (hg : isGraph g = true) {u : Nat} (hu : u < g.length) (free : List Int) (s : Spec) : isSet (hereL g free s u).1 = true := by
  cases h : (hereL g free s u).2 with
  | false => rw [here_no h]; rfl
  | true =>
    cases hw : s.whole with
    | true => rw [here_whole h hw, ← under_node hg hu (nodeOk_iff.1 (here_node h)).1]; exact underL_set _ _
    | false => rw [here_part h hw]; exact joinL_set _ _
theorem cores_sub {g : List Thing} {free : List Int} {s : Spec} {u : Nat} {n : Int} (h : n ∈ coresL g free s u) : n ∈ kidsL g u ∧ n ∈ free ∧ (th g n.toNat).kind = 3 := ofKind_mem.1 (List.mem_of_mem_take h)
theorem gpus_sub {g : List Thing} {free : List Int} {s : Spec} {u : Nat} {n : Int} (h : n ∈ gpusL g free s u) : n ∈ kidsL g u ∧ n ∈ free ∧ (th g n.toNat).kind = 4 := ofKind_mem.1 (List.mem_of_mem_take h)
/-- What is got in a node is free, and under it. -/
theorem here_mem {g : List Thing} (hg : isGraph g = true) {free : List Int} {s : Spec} {u : Nat} (hc : 0 ≤ s.cores) (hp : 0 ≤ s.gpus) {n : Int} (hn : n ∈ (hereL g free s u).1) : n ∈ free ∧ (n = u ∨ n ∈ kidsL g u) := by
  cases h : (hereL g free s u).2 with
  | false => rw [here_no h] at hn; cases hn
  | true =>
    cases hw : s.whole with
    | true =>
      rw [here_whole h hw] at hn
      have h2 := nodeOk_iff.1 (here_node h)
      have h3 := ((here_ok hc hp).1 h).2.2.2 hw
      rcases List.mem_cons.1 hn with rfl | hn
      · exact ⟨h2.2.1, .inl rfl⟩
      · exact ⟨h3 n hn, .inr hn⟩
    | false =>
      rw [here_part h hw, joinL_mem (coresL_set hg _ _ _) (gpusL_set hg _ _ _)] at hn
      rcases hn with hn | hn
      · exact ⟨(cores_sub hn).2.1, .inr (cores_sub hn).1⟩
      · exact ⟨(gpus_sub hn).2.1, .inr (gpus_sub hn).1⟩
/-- The nodes that are taken, of the first i things. -/
def selTo (g : List Thing) (free : List Int) (s : Spec) (i : Nat) : List Nat := ((List.range i).filter fun u => (hereL g free s u).2).take s.nodes.toNat
def outOf (g : List Thing) (free : List Int) (s : Spec) (l : List Nat) : List Int := l.foldl (fun o u => joinL o (hereL g free s u).1) []
def outTo (g : List Thing) (free : List Int) (s : Spec) (i : Nat) : List Int := outOf g free s (selTo g free s i)
def findL (g : List Thing) (free : List Int) (s : Spec) : List Int × Bool :=
  if mayB g free s = true then (if ((selTo g free s g.length).length : Int) < s.nodes then ([], false) else (outTo g free s g.length, true)) else ([], false)
theorem selTo_succ (g : List Thing) (free : List Int) (s : Spec) (i : Nat) : selTo g free s (i + 1) = if (hereL g free s i).2 = true ∧ (selTo g free s i).length < s.nodes.toNat then selTo g free s i ++ [i] else selTo g free s i := by
  unfold selTo
  rw [List.range_succ, List.filter_append]
  cases h : (hereL g free s i).2 with
  | false => simp [h]
  | true =>
    simp only [List.filter_cons, h, if_true, List.filter_nil, true_and]
    rw [take_snoc]
    have : ((List.take s.nodes.toNat (List.filter (fun u => (hereL g free s u).2) (List.range i))).length < s.nodes.toNat) ↔ (List.filter (fun u => (hereL g free s u).2) (List.range i)).length < s.nodes.toNat := by rw [List.length_take]; omega
    by_cases hl : (List.filter (fun u => (hereL g free s u).2) (List.range i)).length < s.nodes.toNat
    · rw [if_pos hl, if_pos (this.2 hl)]
    · rw [if_neg hl, if_neg (fun h => hl (this.1 h))]
theorem selTo_le (g : List Thing) (free : List Int) (s : Spec) (i : Nat) : (selTo g free s i).length ≤ s.nodes.toNat ∧ (selTo g free s i).length ≤ i := by
  unfold selTo
  have := List.length_filter_le (fun u => (hereL g free s u).2) (List.range i)
  rw [List.length_range] at this
  rw [List.length_take]; omega
theorem selTo_many (g : List Thing) (free : List Int) (s : Spec) (i : Nat) : (selTo g free s i).length = min s.nodes.toNat (manyTo g free s i) := by
  unfold selTo manyTo; rw [List.length_take]
theorem selTo_stay {g : List Thing} {free : List Int} {s : Spec} {i : Nat} (h : (selTo g free s i).length = s.nodes.toNat) : ∀ j, selTo g free s (i + j) = selTo g free s i := by
  intro j
  induction j with
  | zero => rfl
  | succ j ih => rw [← Nat.add_assoc, selTo_succ, ih, if_neg (by omega)]
theorem selTo_mem {g : List Thing} {free : List Int} {s : Spec} {i u : Nat} (h : u ∈ selTo g free s i) : u < i ∧ (hereL g free s u).2 = true := by
  have := List.mem_of_mem_take h
  simp only [List.mem_filter, List.mem_range] at this
  exact this
theorem selTo_nodup (g : List Thing) (free : List Int) (s : Spec) (i : Nat) : (selTo g free s i).Nodup :=
  List.Nodup.sublist ((List.take_sublist _ _).trans List.filter_sublist) List.nodup_range
theorem outOf_snoc (g : List Thing) (free : List Int) (s : Spec) (l : List Nat) (u : Nat) : outOf g free s (l ++ [u]) = joinL (outOf g free s l) (hereL g free s u).1 := by unfold outOf; rw [List.foldl_append]; rfl
theorem outTo_succ (g : List Thing) (free : List Int) (s : Spec) (i : Nat) : outTo g free s (i + 1) = if (hereL g free s i).2 = true ∧ (selTo g free s i).length < s.nodes.toNat then joinL (outTo g free s i) (hereL g free s i).1 else outTo g free s i := by
  unfold outTo
  rw [selTo_succ]
  split
  · rw [outOf_snoc]
  · rfl
theorem outTo_zero (g : List Thing) (free : List Int) (s : Spec) : outTo g free s 0 = [] := by unfold outTo selTo outOf; simp
theorem outTo_set (g : List Thing) (free : List Int) (s : Spec) : ∀ i, isSet (outTo g free s i) = true := by
  intro i
  induction i with
  | zero => rw [outTo_zero]; rfl
  | succ i ih => rw [outTo_succ]; split; exact joinL_set _ _; exact ih
theorem outTo_mem {g : List Thing} (hg : isGraph g = true) {free : List Int} {s : Spec} {n : Int} : ∀ {i : Nat}, i ≤ g.length → (n ∈ outTo g free s i ↔ ∃ u ∈ selTo g free s i, n ∈ (hereL g free s u).1) := by
  intro i
  induction i with
  | zero => intro _; unfold outTo selTo outOf; simp
  | succ i ih =>
    intro hi
    rw [outTo_succ, selTo_succ]
    split
    · rw [joinL_mem (outTo_set _ _ _ _) (here_set hg (by omega) _ _), ih (by omega)]
      constructor
      · rintro (⟨u, hu, hn⟩ | hn)
        · exact ⟨u, List.mem_append.2 (.inl hu), hn⟩
        · exact ⟨i, List.mem_append.2 (.inr (List.mem_singleton.2 rfl)), hn⟩
      · rintro ⟨u, hu, hn⟩
        rcases List.mem_append.1 hu with hu | hu
        · exact .inl ⟨u, hu, hn⟩
        · rw [List.mem_singleton.1 hu] at hn; exact .inr hn
    · exact ih (by omega)
end Go.Proofs.YtfcojlagmmgagaaDoor.Ab
