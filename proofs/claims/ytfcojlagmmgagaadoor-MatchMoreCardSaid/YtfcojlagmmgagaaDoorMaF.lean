/- match: with more that is free, with no tag, with parts of nodes; what is got under each node. -/
import Derived.Test.YtfcojlagmmgagaaDoorMaE
namespace Go.Proofs.YtfcojlagmmgagaaDoor.Ab
open Go.RowKit
set_option linter.unusedVariables false
set_option linter.unusedSimpArgs false

theorem ofKind_mono {g : List Thing} {a b : List Int} (h : ∀ n, n ∈ a → n ∈ b) (k : Int) (l : List Int) : (ofKind g a k l).length ≤ (ofKind g b k l).length := by
  unfold ofKind
  rw [← List.countP_eq_length_filter, ← List.countP_eq_length_filter]
  refine List.countP_mono_left fun x _ hx => ?_
  simp only [Bool.and_eq_true, decide_eq_true_eq, beq_iff_eq] at hx ⊢
  exact ⟨h _ hx.1, hx.2⟩
theorem here_mono {g : List Thing} {a b : List Int} {s : Spec} {u : Nat} (hc : 0 ≤ s.cores) (hp : 0 ≤ s.gpus) (h : ∀ n, n ∈ a → n ∈ b) (ho : (hereL g a s u).2 = true) : (hereL g b s u).2 = true := by
  rw [here_ok hc hp] at ho ⊢
  obtain ⟨h1, h2, h3, h4⟩ := ho
  rw [nodeOk_iff] at h1 ⊢
  have m3 := ofKind_mono (g := g) h 3 (kidsL g u)
  have m4 := ofKind_mono (g := g) h 4 (kidsL g u)
  exact ⟨⟨h1.1, h _ h1.2.1, h1.2.2⟩, by omega, by omega, fun hw n hn => h _ (h4 hw n hn)⟩
theorem ofKind_congr {g : List Thing} {a b : List Int} {k : Int} {l : List Int} (h : ∀ n ∈ l, (n ∈ a ↔ n ∈ b)) : ofKind g a k l = ofKind g b k l := by
  unfold ofKind
  refine List.filter_congr fun n hn => ?_
  rw [decide_eq_decide.2 (h n hn)]
theorem here_congr {g : List Thing} {a b : List Int} {s : Spec} {u : Nat} (h : ∀ n ∈ (u : Int) :: kidsL g u, (n ∈ a ↔ n ∈ b)) : hereL g a s u = hereL g b s u := by
  have h1 := h u List.mem_cons_self
  have h2 : ∀ n ∈ kidsL g u, (n ∈ a ↔ n ∈ b) := fun n hn => h n (List.mem_cons_of_mem _ hn)
  unfold hereL coresL gpusL nodeOk
  rw [ofKind_congr h2, ofKind_congr h2, decide_eq_decide.2 h1]
  have e : ((kidsL g u).all fun n => decide (n ∈ a)) = ((kidsL g u).all fun n => decide (n ∈ b)) := by
    rw [Bool.eq_iff_iff]
    simp only [List.all_eq_true, decide_eq_true_eq]
    exact ⟨fun hh n hn => (h2 n hn).1 (hh n hn), fun hh n hn => (h2 n hn).2 (hh n hn)⟩
  rw [e]
def noTag (s : Spec) : Spec := { s with tag := ⟨#[]⟩ }
theorem here_noTag {g : List Thing} {a : List Int} {s : Spec} {u : Nat} (hc : 0 ≤ s.cores) (hp : 0 ≤ s.gpus) : (hereL g a s u).2 = true ↔ (hereL g a (noTag s) u).2 = true ∧ (s.tag.toList = [] ∨ (th g u).tag.toList = s.tag.toList) := by
  rw [here_ok hc hp, here_ok (s := noTag s) hc hp, nodeOk_iff, nodeOk_iff]
  have e : (noTag s).tag.toList = [] := by show (ByteArray.mk #[]).toList = []; kernel_rfl
  rw [e]
  unfold noTag
  constructor
  · rintro ⟨⟨h1, h2, h3⟩, h4⟩
    exact ⟨⟨⟨h1, h2, .inl rfl⟩, h4⟩, h3⟩
  · rintro ⟨⟨⟨h1, h2, _⟩, h4⟩, h3⟩
    exact ⟨⟨h1, h2, h3⟩, h4⟩
def inPart (s : Spec) (b : Bool) : Spec := { s with whole := b }
theorem here_part_of {g : List Thing} {a : List Int} {s : Spec} {u : Nat} (hc : 0 ≤ s.cores) (hp : 0 ≤ s.gpus) (h : (hereL g a (inPart s true) u).2 = true) : (hereL g a (inPart s false) u).2 = true := by
  rw [here_ok (s := inPart s true) hc hp] at h
  rw [here_ok (s := inPart s false) hc hp]
  rw [nodeOk_iff] at h ⊢
  refine ⟨h.1, h.2.1, h.2.2.1, fun hw => ?_⟩
  unfold inPart at hw; cases hw
theorem manyTo_mono {g : List Thing} {a b : List Int} {s t : Spec} {i : Nat} (h : ∀ u, u < i → (hereL g a s u).2 = true → (hereL g b t u).2 = true) : manyTo g a s i ≤ manyTo g b t i := by
  unfold manyTo
  rw [← List.countP_eq_length_filter, ← List.countP_eq_length_filter]
  exact List.countP_mono_left fun x hx hp => h x (List.mem_range.1 hx) hp
theorem manyTo_nodes {g : List Thing} (hg : isGraph g = true) (a : List Int) (s : Spec) : manyTo g a s g.length ≤ (nodesL g).length := by
  unfold manyTo nodesL
  rw [if_pos hg, List.length_map, ← List.countP_eq_length_filter, ← List.countP_eq_length_filter]
  refine List.countP_mono_left fun x hx hp => ?_
  have := (nodeOk_iff.1 (here_node hp)).1
  simpa using this
/-- Is it had? As many nodes suit as are asked for. -/
theorem findL_ok {g : List Thing} {free : List Int} {s : Spec} : (findL g free s).2 = true ↔ mayB g free s = true ∧ s.nodes ≤ (manyTo g free s g.length : Int) := by
  unfold findL
  have h := selTo_many g free s g.length
  cases hm : mayB g free s with
  | false => simp
  | true =>
    simp only [if_true, true_and]
    by_cases hl : ((selTo g free s g.length).length : Int) < s.nodes
    · rw [if_pos hl]; simp; omega
    · rw [if_neg hl]; simp; omega
theorem findL_no {g : List Thing} {free : List Int} {s : Spec} (h : (findL g free s).2 = false) : (findL g free s).1 = [] := by
  revert h; unfold findL
  split
  · split
    · intro _; rfl
    · intro h; cases h
  · intro _; rfl
theorem findL_yes {g : List Thing} {free : List Int} {s : Spec} (h : (findL g free s).2 = true) : (findL g free s).1 = outTo g free s g.length ∧ ((selTo g free s g.length).length : Int) = s.nodes := by
  have hk := findL_ok.1 h
  have h2 := selTo_le g free s g.length
  have h3 := selTo_many g free s g.length
  unfold findL
  rw [if_pos hk.1, if_neg (by omega)]
  refine ⟨rfl, ?_⟩
  have : (0 : Int) ≤ s.nodes := by
    have := hk.1; unfold mayB isSpec inR at this
    simp only [Bool.and_eq_true, decide_eq_true_eq] at this; omega
  omega
theorem findL_set (g : List Thing) (free : List Int) (s : Spec) : isSet (findL g free s).1 = true := by
  cases h : (findL g free s).2 with
  | false => rw [findL_no h]; rfl
  | true => rw [(findL_yes h).1]; exact outTo_set _ _ _ _
theorem spec_nn {s : Spec} (h : isSpec s = true) : 0 ≤ s.cores ∧ 0 ≤ s.gpus ∧ 1 ≤ s.nodes ∧ s.nodes ≤ 64 ∧ s.cores ≤ 64 ∧ s.gpus ≤ 64 := by
  unfold isSpec inR at h
  simp only [Bool.and_eq_true, decide_eq_true_eq] at h; omega
theorem mayB_iff {g : List Thing} {free : List Int} {s : Spec} : mayB g free s = true ↔ isGraph g = true ∧ isSet free = true ∧ isSpec s = true := by unfold mayB; simp [and_assoc]
theorem kids_apart {g : List Thing} {u v : Nat} {n : Int} (h1 : n ∈ kidsL g u) (h2 : n ∈ kidsL g v) : u = v := by
  rw [kidsL_iff] at h1 h2; omega
theorem kids_node {g : List Thing} {u : Nat} {n : Int} (h1 : n ∈ kidsL g u) : 2 < (th g n.toNat).kind := (kidsL_iff.1 h1).2.2.1
/-- What is got, and under a node: what is got in it, or nothing. -/
theorem got_under {g : List Thing} (hg : isGraph g = true) {free : List Int} {s : Spec} (hs : isSpec s = true) {a : Nat} (ha : a < g.length) (h2 : (th g a).kind = 2) (n : Int) :
    (n ∈ outTo g free s g.length ∧ n ∈ underL g a) ↔ (a ∈ selTo g free s g.length ∧ n ∈ (hereL g free s a).1) := by
  have hn := spec_nn hs
  rw [outTo_mem hg (Nat.le_refl _), under_node hg ha h2]
  constructor
  · rintro ⟨⟨u, hu, hm⟩, hna⟩
    have hmu := here_mem hg hn.1 hn.2.1 hm
    have hsel := selTo_mem hu
    have h2u := (nodeOk_iff.1 (here_node hsel.2)).1
    have e : u = a := by
      rcases hmu.2 with rfl | hk
      · rcases List.mem_cons.1 hna with e | hk2
        · omega
        · have := kids_node hk2; simp only [Int.toNat_natCast] at this; omega
      · rcases List.mem_cons.1 hna with e | hk2
        · have := kids_node hk; rw [e] at this; simp only [Int.toNat_natCast] at this; omega
        · exact kids_apart hk hk2
    subst e
    exact ⟨hu, hm⟩
  · rintro ⟨hu, hm⟩
    have hmu := here_mem hg hn.1 hn.2.1 hm
    exact ⟨⟨a, hu, hm⟩, List.mem_cons.2 hmu.2⟩
theorem meet_sel {g : List Thing} (hg : isGraph g = true) {free : List Int} {s : Spec} (hs : isSpec s = true) {a : Nat} (ha : a < g.length) (h2 : (th g a).kind = 2) :
    meetL (outTo g free s g.length) (underL g a) = if a ∈ selTo g free s g.length then (hereL g free s a).1 else [] := by
  have hset : isSet (if a ∈ selTo g free s g.length then (hereL g free s a).1 else []) = true := by split; exact here_set hg ha _ _; rfl
  refine set_ext (meetL_set _ _) hset fun n => ?_
  rw [meetL_mem (outTo_set _ _ _ _) (underL_set _ _), got_under hg hs ha h2]
  by_cases h : a ∈ selTo g free s g.length
  · rw [if_pos h]; simp [h]
  · rw [if_neg h]; simp [h]
/-- The nodes that are taken are nodes. -/
theorem sel_nodes {g : List Thing} (hg : isGraph g = true) (free : List Int) (s : Spec) : ((nodesL g).filter fun a => decide (a.toNat ∈ selTo g free s g.length)).length = (selTo g free s g.length).length := by
  have e : ((nodesL g).filter fun a => decide (a.toNat ∈ selTo g free s g.length)) = rangeF (fun i => decide (i ∈ selTo g free s g.length)) g.length := by
    refine sorted_ext (List.Pairwise.sublist List.filter_sublist (nodesL_sorted g)) (rangeF_sorted _ _) fun n => ?_
    rw [List.mem_filter, nodesL_mem, mem_rangeF]
    simp only [decide_eq_true_eq]
    constructor
    · rintro ⟨⟨_, h0, h1, _⟩, h3⟩; exact ⟨h0, h1, h3⟩
    · rintro ⟨h0, h1, h3⟩; exact ⟨⟨hg, h0, h1, (nodeOk_iff.1 (here_node (selTo_mem h3).2)).1⟩, h3⟩
  rw [e]
  unfold rangeF
  rw [List.length_map]
  have hp : ((List.range g.length).filter fun i => decide (i ∈ selTo g free s g.length)).Perm (selTo g free s g.length) := by
    rw [List.perm_ext_iff_of_nodup (List.nodup_range.sublist List.filter_sublist) (selTo_nodup _ _ _ _)]
    intro i
    simp only [List.mem_filter, List.mem_range, decide_eq_true_eq]
    exact ⟨fun h => h.2, fun h => ⟨(selTo_mem h).1, h⟩⟩
  exact hp.length_eq
end Go.Proofs.YtfcojlagmmgagaaDoor.Ab
