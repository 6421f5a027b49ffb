/- match: facts for the laws. -/
import Derived.Test.YtfcojlagmmgagaaDoorMaK
import Derived.Test.YtfcojlagmmgagaaDoorGrE
namespace Go.Proofs.YtfcojlagmmgagaaDoor.Ab
open Go.RowKit
set_option linter.unusedVariables false
set_option linter.unusedSimpArgs false

theorem find_len (g : List Thing) (free : List Int) (s : Spec) : (findL g free s).1.length ≤ 256 := set_len (findL_set g free s)
theorem nodes_get {g : List Thing} {i : Nat} {x : Int} (h : (nodesL g)[i]? = some x) : ∃ a : Nat, x = a ∧ a < g.length ∧ (th g a).kind = 2 := by
  have hm := nodesL_mem.1 (List.mem_of_getElem? h)
  exact ⟨x.toNat, by omega, by omega, hm.2.2.2⟩
theorem nodes_le (g : List Thing) : (nodesL g).length ≤ g.length := by
  unfold nodesL; split
  · rw [List.length_map]; exact Nat.le_trans (List.length_filter_le _ _) (by simp)
  · simp
theorem suits_at {g : List Thing} {free : List Int} {s : Spec} {a : Nat} (ha : a < g.length) : suitsL g free s a = (mayB g free s && (hereL g free s a).2) := by
  unfold suitsL
  have h1 : (0 : Int) ≤ a := by omega
  have h2 : (a : Int) < g.length := by omega
  simp [h1, h2]
theorem many_le {g : List Thing} {a b : List Int} {s t : Spec} (hm : mayB g a s = true → mayB g b t = true) (h : ∀ u, u < g.length → mayB g a s = true → (hereL g a s u).2 = true → (hereL g b t u).2 = true) : manyL g a s ≤ manyL g b t := by
  unfold manyL
  cases h1 : mayB g a s with
  | false => simp
  | true =>
    rw [hm h1]
    exact manyTo_mono fun u hu => h u hu h1
theorem many_nodes {g : List Thing} {a : List Int} {s : Spec} : manyL g a s ≤ (nodesL g).length := by
  unfold manyL
  cases h1 : mayB g a s with
  | false => simp
  | true => rw [if_pos rfl]; exact manyTo_nodes (mayB_iff.1 h1).1 a s
theorem many_bound (g : List Thing) (a : List Int) (s : Spec) : manyL g a s ≤ g.length := by
  unfold manyL; split
  · exact manyTo_le _ _ _ _
  · omega
/-! ### Tags -/
theorem spec_noTag {s : Spec} (h : isSpec s = true) : isSpec (noTag s) = true := by
  unfold isSpec at h ⊢
  have e : isTag (noTag s).tag = true := by show isTag ⟨#[]⟩ = true; kernel_rfl
  rw [e]
  unfold noTag
  simp only [Bool.and_eq_true] at h ⊢
  exact ⟨⟨⟨⟨h.1.1.1.1, h.1.1.1.2⟩, trivial⟩, h.1.2⟩, h.2⟩
theorem may_noTag {g : List Thing} {free : List Int} {s : Spec} (h : isSpec s = true) : mayB g free (noTag s) = mayB g free s := by
  unfold mayB; rw [h, spec_noTag h]
theorem suits_tag {g : List Thing} {free : List Int} {s : Spec} {a : Nat} (ha : a < g.length) (h : isSpec s = true) : suitsL g free s a = (suitsL g free (noTag s) a && (s.tag.toList == [] || (th g a).tag.toList == s.tag.toList)) := by
  rw [suits_at ha, suits_at ha, may_noTag h]
  have hn := spec_nn h
  have := here_noTag (g := g) (a := free) (s := s) (u := a) hn.1 hn.2.1
  cases mayB g free s with
  | false => rfl
  | true =>
    rw [Bool.eq_iff_iff]
    simp only [Bool.true_and, Bool.and_eq_true, Bool.or_eq_true, beq_iff_eq]
    exact this
theorem suits_bad {g : List Thing} {free : List Int} {s : Spec} {n : Int} (h : isSpec s = false) : suitsL g free s n = false := by
  unfold suitsL mayB; rw [h]; simp
theorem many_noTag {g : List Thing} {free : List Int} {s : Spec} : manyL g free s ≤ manyL g free (noTag s) := by
  refine many_le (fun h => by rw [may_noTag (mayB_iff.1 h).2.2]; exact h) fun u hu hm hh => ?_
  have hn := spec_nn (mayB_iff.1 hm).2.2
  exact ((here_noTag hn.1 hn.2.1).1 hh).1
/-! ### Whole nodes, and parts -/
def selN (g : List Thing) (free : List Int) (s : Spec) : List Nat := selTo g free s g.length
def cntSel (g : List Thing) (free : List Int) (s : Spec) (i : Nat) : Nat := (((nodesL g).take i).filter fun a => decide (a.toNat ∈ selN g free s)).length
theorem cntSel_succ {g : List Thing} {free : List Int} {s : Spec} {i : Nat} {a : Nat} (h : (nodesL g)[i]? = some (a : Int)) : cntSel g free s (i + 1) = if a ∈ selN g free s then cntSel g free s i + 1 else cntSel g free s i := by
  unfold cntSel
  have hlt : i < (nodesL g).length := (List.getElem?_eq_some_iff.1 h).1
  rw [List.take_succ_eq_append_getElem hlt, gE h, List.filter_append]
  by_cases q : a ∈ selN g free s
  · rw [if_pos q]; simp [q]
  · rw [if_neg q]; simp [q]
theorem cntSel_le (g : List Thing) (free : List Int) (s : Spec) (i : Nat) : cntSel g free s i ≤ i := by
  unfold cntSel
  refine Nat.le_trans (List.length_filter_le _ _) ?_
  rw [List.length_take]; omega
theorem cntSel_all {g : List Thing} {free : List Int} {s : Spec} (h : (findL g free s).2 = true) : (cntSel g free s (nodesL g).length : Int) = s.nodes := by
  have hm := mayB_iff.1 (findL_ok.1 h).1
  unfold cntSel selN
  rw [List.take_length, sel_nodes hm.1, (findL_yes h).2]
theorem part_sel {g : List Thing} {free : List Int} {s : Spec} (h : (findL g free s).2 = true) (hw : s.whole = true) {a : Nat} (ha : a < g.length) (h2 : (th g a).kind = 2) : partB (underL g a) (findL g free s).1 = decide (a ∈ selN g free s) := by
  have hm := mayB_iff.1 (findL_ok.1 h).1
  have hu := under_node hm.1 ha h2
  rw [Bool.eq_iff_iff, partB_iff (underL_set _ _) (findL_set _ _ _), decide_eq_true_eq, (findL_yes h).1]
  unfold selN
  constructor
  · intro hp
    have h1 : (a : Int) ∈ underL g a := by rw [hu]; exact List.mem_cons_self
    exact ((got_under hm.1 hm.2.2 ha h2 a).1 ⟨hp a h1, h1⟩).1
  · intro hs n hn
    have h1 := (selTo_mem hs).2
    refine ((got_under hm.1 hm.2.2 ha h2 n).2 ⟨hs, ?_⟩).1
    rw [here_whole h1 hw, ← hu]; exact hn
theorem apart_sel {g : List Thing} {free : List Int} {s : Spec} (h : (findL g free s).2 = true) {a : Nat} (ha : a < g.length) (h2 : (th g a).kind = 2) (hs : a ∉ selN g free s) : apartB (underL g a) (findL g free s).1 = true := by
  have hm := mayB_iff.1 (findL_ok.1 h).1
  rw [apartB_iff (underL_set _ _) (findL_set _ _ _), (findL_yes h).1]
  intro n hn hno
  exact hs ((got_under hm.1 hm.2.2 ha h2 n).1 ⟨hno, hn⟩).1
theorem find_part {g : List Thing} {free : List Int} {s : Spec} (h : (findL g free (inPart s true)).2 = true) : (findL g free (inPart s false)).2 = (decide (0 < s.cores) || decide (0 < s.gpus)) := by
  have hk := findL_ok.1 h
  have hm := mayB_iff.1 hk.1
  have hs := hm.2.2
  have e : isSpec (inPart s false) = (decide (0 < s.cores) || decide (0 < s.gpus)) := by
    unfold isSpec inPart at hs ⊢
    simp only [Bool.and_eq_true] at hs
    simp only [hs.1.1.1.1, hs.1.1.2, hs.1.2, hs.2]
    simp
  rw [Bool.eq_iff_iff, findL_ok, mayB_iff, ← e]
  constructor
  · rintro ⟨⟨_, _, h1⟩, _⟩; exact h1
  · intro h1
    have hn := spec_nn hs
    have hmono : manyTo g free (inPart s true) g.length ≤ manyTo g free (inPart s false) g.length := manyTo_mono fun u _ hh => here_part_of hn.1 hn.2.1 hh
    refine ⟨⟨hm.1, hm.2.1, h1⟩, ?_⟩
    have h2 : (inPart s false).nodes = (inPart s true).nodes := rfl
    rw [h2]; omega
/-! ### More that is free -/
theorem find_more {g : List Thing} {a b : List Int} {s : Spec} (ha : isSet a = true) (hb : isSet b = true) (h : ∀ n, n ∈ a → n ∈ b) (ho : (findL g a s).2 = true) : (findL g b s).2 = true := by
  rw [findL_ok] at ho ⊢
  have hm := mayB_iff.1 ho.1
  have hn := spec_nn hm.2.2
  have hmono : manyTo g a s g.length ≤ manyTo g b s g.length := manyTo_mono fun u _ hh => here_mono hn.1 hn.2.1 h hh
  exact ⟨mayB_iff.2 ⟨hm.1, hb, hm.2.2⟩, by omega⟩
theorem many_more {g : List Thing} {a b : List Int} {s : Spec} (hb : isSet b = true) (h : ∀ n, n ∈ a → n ∈ b) : manyL g a s ≤ manyL g b s := by
  refine many_le (fun hm => ?_) fun u hu hm hh => ?_
  · have := mayB_iff.1 hm; exact mayB_iff.2 ⟨this.1, hb, this.2.2⟩
  · have hn := spec_nn (mayB_iff.1 hm).2.2
    exact here_mono hn.1 hn.2.1 h hh
theorem find_free {g : List Thing} {free : List Int} {s : Spec} {n : Int} (hn : n ∈ (findL g free s).1) : n ∈ free := by
  cases h : (findL g free s).2 with
  | false => rw [findL_no h] at hn; cases hn
  | true =>
    have hm := mayB_iff.1 (findL_ok.1 h).1
    have hs := spec_nn hm.2.2
    rw [(findL_yes h).1, outTo_mem hm.1 (Nat.le_refl _)] at hn
    obtain ⟨u, _, hh⟩ := hn
    exact (here_mem hm.1 hs.1 hs.2.1 hh).1
theorem find_apart {g : List Thing} {free : List Int} {s t : Spec} (hf : isSet free = true) : apartB (findL g free s).1 (findL g (lessL free (findL g free s).1) t).1 = true := by
  rw [apartB_iff (findL_set _ _ _) (findL_set _ _ _)]
  intro n h1 h2
  have h3 := find_free h2
  rw [lessL_mem hf (findL_set _ _ _)] at h3
  exact h3.2 h1
theorem suits_left {g : List Thing} {free l : List Int} {t : Spec} (hg : isGraph g = true) (hf : isSet free = true) (hl : isSet l = true) {a : Nat} (ha : a < g.length) (h2 : (th g a).kind = 2) (hap : apartB l (underL g a) = true) : suitsL g (lessL free l) t a = suitsL g free t a := by
  rw [suits_at ha, suits_at ha]
  have e : mayB g (lessL free l) t = mayB g free t := by unfold mayB; rw [hf, lessL_set]
  rw [e, here_congr (a := lessL free l) (b := free)]
  intro n hn
  rw [← under_node hg ha h2] at hn
  rw [apartB_iff hl (underL_set _ _)] at hap
  rw [lessL_mem hf hl]
  exact ⟨fun h => h.1, fun h => ⟨h, fun h3 => hap n h3 hn⟩⟩
/-! ### What is got -/
theorem could_of {g : List Thing} {free : List Int} {s : Spec} (h : (findL g free s).2 = true) : couldB g s = true := by
  have hk := findL_ok.1 h
  have hm := mayB_iff.1 hk.1
  have hs := spec_nn hm.2.2
  have hl := isGraph_len hm.1
  unfold couldB
  rw [findL_ok]
  have hmono : manyTo g free s g.length ≤ manyTo g (underL g 0) s g.length := manyTo_mono fun u hu hh => by
    have h1 := (here_ok hs.1 hs.2.1).1 hh
    have hin : ∀ k : Int, 0 ≤ k → k < g.length → k ∈ underL g 0 := fun k h0 h1 => by
      rw [underL_mem]; exact ⟨thereB_iff.2 ⟨by omega, by omega, hm.1⟩, h0, h1, inU_root hm.1 (by omega)⟩
    have hc : ∀ k, (ofKind g free k (kidsL g u)).length ≤ (ofKind g (underL g 0) k (kidsL g u)).length := fun k => by
      unfold ofKind
      rw [← List.countP_eq_length_filter, ← List.countP_eq_length_filter]
      refine List.countP_mono_left fun x hx hx2 => ?_
      simp only [Bool.and_eq_true, decide_eq_true_eq, beq_iff_eq] at hx2 ⊢
      have := kidsL_iff.1 hx
      exact ⟨hin x this.1 this.2.1, hx2.2⟩
    refine (here_ok hs.1 hs.2.1).2 ⟨?_, Int.le_trans h1.2.1 (by have := hc 3; omega), Int.le_trans h1.2.2.1 (by have := hc 4; omega), fun _ n hn => ?_⟩
    · have := nodeOk_iff.1 h1.1
      exact nodeOk_iff.2 ⟨this.1, hin u (by omega) (by omega), this.2.2⟩
    · have := kidsL_iff.1 hn; exact hin n this.1 this.2.1
  exact ⟨mayB_iff.2 ⟨hm.1, underL_set _ _, hm.2.2⟩, by omega⟩
theorem find_partB {g : List Thing} {free : List Int} {s : Spec} (hf : isSet free = true) : partB (findL g free s).1 free = true := by
  rw [partB_iff (findL_set _ _ _) hf]; exact fun n hn => find_free hn
theorem find_many {g : List Thing} {free : List Int} {s : Spec} (h : (findL g free s).2 = true) : s.nodes ≤ (manyL g free s : Int) := by
  have hk := findL_ok.1 h
  unfold manyL; rw [if_pos hk.1]; exact hk.2
theorem find_few {g : List Thing} {free : List Int} {s : Spec} (h : (findL g free s).2 = false) (hs : isSpec s = true) : (manyL g free s : Int) < s.nodes := by
  have hn := spec_nn hs
  unfold manyL
  cases hm : mayB g free s with
  | false => simp; omega
  | true =>
    simp only [if_true]
    have := mt (findL_ok (g := g) (free := free) (s := s)).2 (by rw [h]; simp)
    by_cases hh : s.nodes ≤ (manyTo g free s g.length : Int)
    · exact (this ⟨hm, hh⟩).elim
    · omega
/-- What is got in a node that is taken. -/
def gotL (g : List Thing) (free : List Int) (s : Spec) (a : Nat) : List Int := if a ∈ selN g free s then (hereL g free s a).1 else []
theorem meet_got {g : List Thing} {free : List Int} {s : Spec} (h : (findL g free s).2 = true) {a : Nat} (ha : a < g.length) (h2 : (th g a).kind = 2) : meetL (findL g free s).1 (underL g a) = gotL g free s a := by
  have hm := mayB_iff.1 (findL_ok.1 h).1
  rw [(findL_yes h).1]
  exact meet_sel hm.1 hm.2.2 ha h2
theorem spec_some {s : Spec} (h : isSpec s = true) : s.whole = true ∨ 0 < s.cores ∨ 0 < s.gpus := by
  unfold isSpec at h
  simp only [Bool.and_eq_true, Bool.or_eq_true, decide_eq_true_eq] at h
  rcases h.1.1.1.2 with (h | h) | h
  · exact .inl h
  · exact .inr (.inl h)
  · exact .inr (.inr h)
theorem cnt_join {g : List Thing} (hg : isGraph g = true) {free : List Int} {s : Spec} {a : Nat} {k : Int} : cnt g (joinL (coresL g free s a) (gpusL g free s a)) k = (if k = 3 then (coresL g free s a).length else 0) + (if k = 4 then (gpusL g free s a).length else 0) := by
  have hperm : (joinL (coresL g free s a) (gpusL g free s a)).Perm (coresL g free s a ++ gpusL g free s a) := by
    have nd : ∀ {l : List Int}, isSet l = true → l.Nodup := fun h => ((isSet_iff.1 h).1).imp (fun h => by omega)
    rw [List.perm_ext_iff_of_nodup (nd (joinL_set _ _))]
    · intro n; rw [joinL_mem (coresL_set hg _ _ _) (gpusL_set hg _ _ _), List.mem_append]
    · rw [List.nodup_append]
      refine ⟨nd (coresL_set hg _ _ _), nd (gpusL_set hg _ _ _), fun x hx y hy e => ?_⟩
      subst e
      have h1 := (cores_sub hx).2.2
      have h2 := (gpus_sub hy).2.2
      omega
  unfold cnt
  rw [(hperm.filter _).length_eq, List.filter_append, List.length_append]
  have h3 : ((coresL g free s a).filter fun n : Int => decide (n < g.length) && (th g n.toNat).kind == k) = if k = 3 then coresL g free s a else [] := by
    by_cases hk : k = 3
    · subst hk
      rw [if_pos rfl, List.filter_eq_self]
      intro n hn
      have := cores_sub hn
      have h5 := kidsL_iff.1 this.1
      simp [this.2.2, h5.2.1]
    · rw [if_neg hk, List.filter_eq_nil_iff]
      intro n hn
      have := cores_sub hn
      simp only [Bool.and_eq_true, beq_iff_eq, decide_eq_true_eq, not_and]
      intro _ h5; omega
  have h4 : ((gpusL g free s a).filter fun n : Int => decide (n < g.length) && (th g n.toNat).kind == k) = if k = 4 then gpusL g free s a else [] := by
    by_cases hk : k = 4
    · subst hk
      rw [if_pos rfl, List.filter_eq_self]
      intro n hn
      have := gpus_sub hn
      have h5 := kidsL_iff.1 this.1
      simp [this.2.2, h5.2.1]
    · rw [if_neg hk, List.filter_eq_nil_iff]
      intro n hn
      have := gpus_sub hn
      simp only [Bool.and_eq_true, beq_iff_eq, decide_eq_true_eq, not_and]
      intro _ h5; omega
  rw [h3, h4]
  split <;> split <;> simp
theorem cores_len {g : List Thing} {free : List Int} {s : Spec} {a : Nat} (hs : isSpec s = true) (h : (hereL g free s a).2 = true) : ((coresL g free s a).length : Int) = s.cores ∧ ((gpusL g free s a).length : Int) = s.gpus := by
  have hn := spec_nn hs
  have ho := (here_ok hn.1 hn.2.1).1 h
  unfold coresL gpusL
  rw [List.length_take, List.length_take]; omega
theorem cnt_under {g : List Thing} (hg : isGraph g = true) {free : List Int} {s : Spec} {a : Nat} {k : Int} (hk : k = 3 ∨ k = 4) (hs : isSpec s = true) : ((ofKind g free k (kidsL g a)).length : Int) ≤ cnt g ((a : Int) :: kidsL g a) k := by
  have h1 : (ofKind g free k (kidsL g a)).length ≤ cnt g ((a : Int) :: kidsL g a) k := by
    unfold cnt ofKind
    have h2 : ((kidsL g a).filter fun n => decide (n ∈ free) && (th g n.toNat).kind == k).length ≤ ((kidsL g a).filter fun n : Int => decide (n < g.length) && (th g n.toNat).kind == k).length := by
      rw [← List.countP_eq_length_filter, ← List.countP_eq_length_filter]
      refine List.countP_mono_left fun x hx hx2 => ?_
      simp only [Bool.and_eq_true, decide_eq_true_eq, beq_iff_eq] at hx2 ⊢
      exact ⟨(kidsL_iff.1 hx).2.1, hx2.2⟩
    rw [List.filter_cons]
    split
    · simp only [List.length_cons]; omega
    · exact h2
  omega
/-- The facts of what is got in a node that is taken: not empty, whole or as many as were asked for. -/
theorem got_facts {g : List Thing} {free : List Int} {s : Spec} (h : (findL g free s).2 = true) {a : Nat} (ha : a < g.length) (h2 : (th g a).kind = 2) (hsel : a ∈ selN g free s) :
    suitsL g free s a = true ∧ 0 < (gotL g free s a).length ∧ (s.whole = true → gotL g free s a = underL g a) ∧
    (s.whole = false → (cnt g (gotL g free s a) 3 : Int) = s.cores ∧ (cnt g (gotL g free s a) 4 : Int) = s.gpus ∧ cnt g (gotL g free s a) 2 = 0) ∧
    s.cores ≤ (cnt g (gotL g free s a) 3 : Int) ∧ s.gpus ≤ (cnt g (gotL g free s a) 4 : Int) := by
  have hk := (findL_ok.1 h).1
  have hm := mayB_iff.1 hk
  have hh := (selTo_mem hsel).2
  have hn := spec_nn hm.2.2
  have ho := (here_ok hn.1 hn.2.1).1 hh
  have hg : gotL g free s a = (hereL g free s a).1 := by unfold gotL; rw [if_pos hsel]
  rw [hg]
  refine ⟨by rw [suits_at ha, hk, hh]; rfl, ?_⟩
  cases hw : s.whole with
  | true =>
    rw [here_whole hh hw]
    have c3 := cnt_under hm.1 (free := free) (a := a) (k := 3) (.inl rfl) hm.2.2
    have c4 := cnt_under hm.1 (free := free) (a := a) (k := 4) (.inr rfl) hm.2.2
    exact ⟨by simp, fun _ => (under_node hm.1 ha h2).symm, fun h => (by cases h), by omega, by omega⟩
  | false =>
    rw [here_part hh hw]
    have cl := cores_len hm.2.2 hh
    have j3 := cnt_join hm.1 (free := free) (s := s) (a := a) (k := 3)
    have j4 := cnt_join hm.1 (free := free) (s := s) (a := a) (k := 4)
    have j2 := cnt_join hm.1 (free := free) (s := s) (a := a) (k := 2)
    simp at j3 j4 j2
    have hpos : 0 < (joinL (coresL g free s a) (gpusL g free s a)).length := by
      have h5 := spec_some hm.2.2
      rw [hw] at h5
      have hle3 := cnt_le g (joinL (coresL g free s a) (gpusL g free s a)) 3
      have hle4 := cnt_le g (joinL (coresL g free s a) (gpusL g free s a)) 4
      rcases h5 with h5 | h5 | h5
      · cases h5
      · omega
      · omega
    refine ⟨hpos, fun h => (by cases h), fun _ => ⟨by omega, by omega, ?_⟩, by omega, by omega⟩
    exact j2
theorem kinds_set9 {g : List Thing} (hg : isGraph g = true) {l : List Int} (hl : isSet l = true) : kindsL g l = [((cnt g l 0 : Nat) : Int), ((cnt g l 1 : Nat) : Int), ((cnt g l 2 : Nat) : Int), ((cnt g l 3 : Nat) : Int), ((cnt g l 4 : Nat) : Int)] := by
  unfold kindsL; rw [if_pos ⟨hg, hl⟩]; rfl
theorem got_set {g : List Thing} (hg : isGraph g = true) {free : List Int} {s : Spec} {a : Nat} (ha : a < g.length) : isSet (gotL g free s a) = true := by
  unfold gotL; split
  · exact here_set hg ha _ _
  · rfl
@[go_sem] theorem inPart_nodes (s : Spec) (b : Bool) : (inPart s b).nodes = s.nodes := rfl
@[go_sem] theorem noTag_nodes (s : Spec) : (noTag s).nodes = s.nodes := rfl
@[go_sem] theorem inPart_cores (s : Spec) (b : Bool) : (inPart s b).cores = s.cores := rfl
@[go_sem] theorem noTag_cores (s : Spec) : (noTag s).cores = s.cores := rfl
@[go_sem] theorem inPart_gpus (s : Spec) (b : Bool) : (inPart s b).gpus = s.gpus := rfl
@[go_sem] theorem noTag_gpus (s : Spec) : (noTag s).gpus = s.gpus := rfl
@[go_sem] theorem inPart_tag (s : Spec) (b : Bool) : (inPart s b).tag = s.tag := rfl
@[go_sem] theorem noTag_tag (s : Spec) : (noTag s).tag = ⟨#[]⟩ := rfl
@[go_sem] theorem inPart_whole (s : Spec) (b : Bool) : (inPart s b).whole = b := rfl
@[go_sem] theorem noTag_whole (s : Spec) : (noTag s).whole = s.whole := rfl
@[go_sem] theorem inPart_long (s : Spec) (b : Bool) : (inPart s b).long = s.long := rfl
@[go_sem] theorem noTag_long (s : Spec) : (noTag s).long = s.long := rfl
@[go_sem] theorem inPart_prio (s : Spec) (b : Bool) : (inPart s b).prio = s.prio := rfl
@[go_sem] theorem noTag_prio (s : Spec) : (noTag s).prio = s.prio := rfl
end Go.Proofs.YtfcojlagmmgagaaDoor.Ab
