/- Slots in plain words. -/
import Derived.Test.YtinhfnbmgmociaaGreatDoorHd2
import Derived.Test.YtinhfnbmgmociaaGreatDoorMa2
namespace Go.Proofs.YtinhfnbmgmociaaGreatDoor.Ab
open Go.RowKit
set_option linter.unusedVariables false
set_option linter.unusedSimpArgs false

def never : Int := 4611686018427387904
def nearI (t : Int) : Int := max 0 (min t 4611686018427387904)
def plusI (t long : Int) : Int := nearI t + min (nearI long) (4611686018427387904 - nearI t)
def longOf (s : Spec) : Int := if isSpec s = true then s.long else 0
def endsAt (s : Spec) (t : Int) : Int := plusI t (longOf s)
theorem spec_long {s : Spec} (h : isSpec s = true) : 1 ≤ s.long ∧ s.long ≤ 1099511627776 := by
  unfold isSpec inR at h
  simp only [Bool.and_eq_true, decide_eq_true_eq] at h; omega
theorem endsAt_mono (s : Spec) {t u : Int} (h : t ≤ u) : endsAt s t ≤ endsAt s u := by unfold endsAt plusI nearI; omega
theorem endsAt_le (s : Spec) (t : Int) : 0 ≤ endsAt s t ∧ endsAt s t ≤ 4611686018427387904 := by unfold endsAt plusI nearI; omega
theorem endsAt_gt {s : Spec} (hs : isSpec s = true) {t : Int} (h0 : 0 ≤ t) (h1 : t < 4611686018427387904) : t < endsAt s t := by
  have := spec_long hs
  unfold endsAt plusI nearI longOf
  rw [if_pos hs]; omega
theorem endsAt_bad {s : Spec} (hs : isSpec s = false) {t : Int} (h0 : 0 ≤ t) (h1 : t ≤ 4611686018427387904) : endsAt s t = t := by
  unfold endsAt plusI nearI longOf
  rw [hs]; simp; omega
def freeAt (use : List Int) (l : List Held) (t e : Int) : List Int := lessL use (busyOf t e l)
def fitsL (g : List Thing) (use : List Int) (l : List Held) (s : Spec) (t until_ : Int) : List Int × Bool :=
  if isWhen t = true ∧ ¬ t = 4611686018427387904 ∧ endsAt s t ≤ until_ then findL g (freeAt use l t (endsAt s t)) s else ([], false)
def atL (g : List Thing) (use : List Int) (l : List Held) (s : Spec) (t until_ : Int) : List Int × Bool := if isTab l = true then fitsL g use l s t until_ else ([], false)
def firstOf (f : Int → List Int × Bool) (c : List Int) : Int × List Int × Bool := match c.find? (fun t => (f t).2) with | some t => (t, (f t).1, true) | none => (0, [], false)
def firstL (g : List Thing) (use : List Int) (l : List Held) (s : Spec) (from_ until_ : Int) : Int × List Int × Bool :=
  if isTab l = true then firstOf (fun t => fitsL g use l s t until_) (from_ :: endsL l from_) else (0, [], false)
theorem find_nil (g : List Thing) (s : Spec) : (findL g [] s).2 = false := by
  rw [← Bool.not_eq_true, findL_ok, mayB_iff]
  rintro ⟨⟨h1, h2, h3⟩, h4⟩
  have hn := spec_nn h3
  have : manyTo g [] s g.length = 0 := by
    unfold manyTo
    rw [List.length_eq_zero_iff, List.filter_eq_nil_iff]
    intro u _ hu
    have := (nodeOk_iff.1 (here_node hu)).2.1
    cases this
  rw [this] at h4; omega
theorem find_bad {g : List Thing} {free : List Int} {s : Spec} (h : isSpec s = false) : findL g free s = ([], false) := by
  have h2 : (findL g free s).2 = false := by rw [← Bool.not_eq_true, findL_ok, mayB_iff, h]; simp
  have h1 := findL_no h2
  exact Prod.ext h1 h2
theorem find_off {g : List Thing} {free : List Int} {s : Spec} (h : (findL g free s).2 = false) : findL g free s = ([], false) := Prod.ext (findL_no h) h
theorem fits_ok {g : List Thing} {use : List Int} {l : List Held} {s : Spec} {t until_ : Int} : (fitsL g use l s t until_).2 = true ↔ (0 ≤ t ∧ t < 4611686018427387904) ∧ endsAt s t ≤ until_ ∧ (findL g (freeAt use l t (endsAt s t)) s).2 = true := by
  unfold fitsL
  by_cases h : isWhen t = true ∧ ¬ t = 4611686018427387904 ∧ endsAt s t ≤ until_
  · rw [if_pos h]
    have h1 := h.1
    unfold isWhen at h1
    simp only [Bool.and_eq_true, decide_eq_true_eq] at h1
    constructor
    · intro h2; exact ⟨⟨h1.1, by omega⟩, h.2.2, h2⟩
    · rintro ⟨_, _, h2⟩; exact h2
  · rw [if_neg h]
    constructor
    · intro h2; cases h2
    · rintro ⟨⟨h1, h2⟩, h3, _⟩
      exact (h ⟨by unfold isWhen; simp; omega, by omega, h3⟩).elim
theorem fits_off {g : List Thing} {use : List Int} {l : List Held} {s : Spec} {t until_ : Int} (h : (fitsL g use l s t until_).2 = false) : (fitsL g use l s t until_).1 = [] := by
  revert h
  unfold fitsL
  split
  · intro h; exact findL_no h
  · intro _; rfl
theorem fits_find {g : List Thing} {use : List Int} {l : List Held} {s : Spec} {t until_ : Int} (h : (fitsL g use l s t until_).2 = true) : fitsL g use l s t until_ = findL g (freeAt use l t (endsAt s t)) s := by
  revert h
  unfold fitsL
  split
  · intro _; rfl
  · intro h; cases h
theorem fits_len (g : List Thing) (use : List Int) (l : List Held) (s : Spec) (t until_ : Int) : (fitsL g use l s t until_).1.length ≤ 256 := by
  unfold fitsL; split
  · exact find_len _ _ _
  · simp
theorem fits_set (g : List Thing) (use : List Int) (l : List Held) (s : Spec) (t until_ : Int) : isSet (fitsL g use l s t until_).1 = true := by
  unfold fitsL; split
  · exact findL_set _ _ _
  · rfl
theorem free_set (use : List Int) (l : List Held) (t e : Int) : isSet (freeAt use l t e) = true := lessL_set _ _
theorem free_mem {use : List Int} (hu : isSet use = true) {l : List Held} {t e n : Int} : n ∈ freeAt use l t e ↔ n ∈ use ∧ n ∉ busyOf t e l := lessL_mem hu (busyOf_set _ _ _)
theorem fits_use {g : List Thing} {use : List Int} {l : List Held} {s : Spec} {t until_ : Int} (h : (fitsL g use l s t until_).2 = true) : isSet use = true := by
  cases hu : isSet use with
  | true => rfl
  | false =>
    have h1 := (fits_ok.1 h).2.2
    have : freeAt use l t (endsAt s t) = [] := by unfold freeAt lessL; exact opL_bad (.inl hu)
    rw [this, find_nil] at h1; cases h1
theorem fits_spec {g : List Thing} {use : List Int} {l : List Held} {s : Spec} {t until_ : Int} (h : (fitsL g use l s t until_).2 = true) : isGraph g = true ∧ isSpec s = true := by
  have h1 := mayB_iff.1 (findL_ok.1 (fits_ok.1 h).2.2).1
  exact ⟨h1.1, h1.2.2⟩
/-- What fits: free, not held in the span, not nothing. -/
theorem fits_facts {g : List Thing} {use : List Int} {l : List Held} {s : Spec} {t until_ : Int} (h : (fitsL g use l s t until_).2 = true) :
    (0 ≤ t ∧ t < 4611686018427387904 ∧ t < endsAt s t ∧ endsAt s t ≤ until_ ∧ endsAt s t ≤ 4611686018427387904) ∧ (∀ n ∈ (fitsL g use l s t until_).1, n ∈ use ∧ n ∉ busyOf t (endsAt s t) l) ∧ 0 < (fitsL g use l s t until_).1.length := by
  have hu := fits_use h
  have hgs := fits_spec h
  have hok := fits_ok.1 h
  refine ⟨⟨hok.1.1, hok.1.2, endsAt_gt hgs.2 hok.1.1 hok.1.2, hok.2.1, (endsAt_le s t).2⟩, ?_, ?_⟩
  · intro n hn
    rw [fits_find h] at hn
    exact (free_mem hu).1 (find_free hn)
  · rw [fits_find h]
    have hy := findL_yes hok.2.2
    have hn := spec_nn hgs.2
    rw [hy.1]
    have hpos : 0 < (selTo g (freeAt use l t (endsAt s t)) s g.length).length := by omega
    obtain ⟨u, hu2⟩ := List.exists_mem_of_length_pos hpos
    have hsm := selTo_mem hu2
    have hgf := got_facts hok.2.2 hsm.1 (nodeOk_iff.1 (here_node hsm.2)).1 hu2
    have hg2 := hgf.2.1
    unfold gotL selN at hg2
    rw [if_pos hu2] at hg2
    obtain ⟨n, hn2⟩ := List.exists_mem_of_length_pos hg2
    exact List.length_pos_of_mem ((outTo_mem hgs.1 (Nat.le_refl _)).2 ⟨u, hu2, hn2⟩)
theorem fits_mono {g : List Thing} {use use' : List Int} {l l' : List Held} {s : Spec} {t t' v v' : Int} (hu' : isSet use' = true) (h : (fitsL g use l s t v).2 = true) (ht : 0 ≤ t' ∧ t' < 4611686018427387904) (he : endsAt s t' ≤ v')
    (hsub : ∀ n, n ∈ use → n ∉ busyOf t (endsAt s t) l → n ∈ use' ∧ n ∉ busyOf t' (endsAt s t') l') : (fitsL g use' l' s t' v').2 = true := by
  have hu := fits_use h
  have hok := fits_ok.1 h
  refine fits_ok.2 ⟨ht, he, find_more (free_set _ _ _ _) (free_set _ _ _ _) (fun n hn => ?_) hok.2.2⟩
  rw [free_mem hu] at hn
  rw [free_mem hu']
  exact hsub n hn.1 hn.2
/-! ### The first time -/
theorem firstOf_cons (f : Int → List Int × Bool) (t : Int) (c : List Int) : firstOf f (t :: c) = if (f t).2 = true then (t, (f t).1, true) else firstOf f c := by
  unfold firstOf
  rw [List.find?_cons]
  cases (f t).2 <;> simp
theorem firstOf_ok {f : Int → List Int × Bool} {c : List Int} (h : (firstOf f c).2.2 = true) : (firstOf f c).1 ∈ c ∧ (f (firstOf f c).1).2 = true ∧ (firstOf f c).2.1 = (f (firstOf f c).1).1 := by
  unfold firstOf at h ⊢
  cases hf : c.find? (fun t => (f t).2) with
  | none => rw [hf] at h; cases h
  | some t =>
    have h1 := List.find?_some hf
    have h2 := List.mem_of_find?_eq_some hf
    exact ⟨h2, h1, rfl⟩
theorem firstOf_no {f : Int → List Int × Bool} {c : List Int} : (firstOf f c).2.2 = false ↔ ∀ t ∈ c, (f t).2 = false := by
  unfold firstOf
  cases hf : c.find? (fun t => (f t).2) with
  | none =>
    rw [List.find?_eq_none] at hf
    simp only [true_iff]
    intro t ht; simpa using hf t ht
  | some t =>
    have h1 := List.find?_some hf
    have h2 := List.mem_of_find?_eq_some hf
    simp only [Bool.true_eq_false, false_iff]
    intro h; rw [h t h2] at h1; cases h1
theorem firstOf_none {f : Int → List Int × Bool} {c : List Int} (h : (firstOf f c).2.2 = false) : firstOf f c = (0, [], false) := by
  unfold firstOf at h ⊢
  cases hf : c.find? (fun t => (f t).2) with
  | none => rfl
  | some t => rw [hf] at h; cases h
theorem firstOf_le {f : Int → List Int × Bool} : ∀ {c : List Int}, c.Pairwise (· < ·) → ∀ {t : Int}, t ∈ c → (f t).2 = true → (firstOf f c).2.2 = true ∧ (firstOf f c).1 ≤ t
  | [], _, t, ht, _ => by cases ht
  | x :: c, hs, t, ht, hf => by
    rw [firstOf_cons]
    have hp := List.pairwise_cons.1 hs
    cases hx : (f x).2 with
    | true =>
      simp only [if_true]
      refine ⟨trivial, ?_⟩
      rcases List.mem_cons.1 ht with rfl | ht
      · exact Int.le_refl _
      · exact Int.le_of_lt (hp.1 t ht)
    | false =>
      simp only [Bool.false_eq_true, if_false]
      rcases List.mem_cons.1 ht with rfl | ht
      · rw [hf] at hx; cases hx
      · exact firstOf_le hp.2 ht hf
theorem cands_sorted {l : List Held} (ht : isTab l = true) (f : Int) : (f :: endsL l f).Pairwise (· < ·) := by
  unfold endsL
  rw [if_pos ht, List.pairwise_cons]
  have h := cmp_sort (tosOf l f)
  refine ⟨fun x hx => ?_, h.1⟩
  rw [h.2, tosOf_mem] at hx
  obtain ⟨_, _, _, hx⟩ := hx; exact hx
theorem cands_mem {l : List Held} (ht : isTab l = true) {f x : Int} : x ∈ f :: endsL l f ↔ x = f ∨ ∃ h ∈ l, h.to = x ∧ f < x := by
  unfold endsL
  rw [if_pos ht, List.mem_cons, (cmp_sort _).2, tosOf_mem]
theorem first_ok {g : List Thing} {use : List Int} {l : List Held} {s : Spec} {f v : Int} (h : (firstL g use l s f v).2.2 = true) : isTab l = true ∧ (firstL g use l s f v).1 ∈ f :: endsL l f ∧
    (fitsL g use l s (firstL g use l s f v).1 v).2 = true ∧ (firstL g use l s f v).2.1 = (fitsL g use l s (firstL g use l s f v).1 v).1 := by
  unfold firstL at h ⊢
  cases ht : isTab l with
  | false => rw [ht] at h; cases h
  | true =>
    rw [ht] at h
    simp only [if_true] at h ⊢
    have := firstOf_ok h
    exact ⟨trivial, this⟩
theorem first_le {g : List Thing} {use : List Int} {l : List Held} {s : Spec} {f v t : Int} (ht : isTab l = true) (hm : t ∈ f :: endsL l f) (hf : (fitsL g use l s t v).2 = true) : (firstL g use l s f v).2.2 = true ∧ (firstL g use l s f v).1 ≤ t := by
  unfold firstL
  rw [if_pos ht]
  exact firstOf_le (f := fun t => fitsL g use l s t v) (cands_sorted ht f) hm hf
theorem first_none {g : List Thing} {use : List Int} {l : List Held} {s : Spec} {f v : Int} (h : (firstL g use l s f v).2.2 = false) : firstL g use l s f v = (0, [], false) := by
  unfold firstL at h ⊢
  split
  · rename_i ht; rw [if_pos ht] at h; exact firstOf_none h
  · rfl
theorem first_len (g : List Thing) (use : List Int) (l : List Held) (s : Spec) (f v : Int) : (firstL g use l s f v).2.1.length ≤ 256 := by
  cases h : (firstL g use l s f v).2.2 with
  | false => rw [first_none h]; simp
  | true => rw [(first_ok h).2.2.2]; exact fits_len _ _ _ _ _ _
theorem first_from {g : List Thing} {use : List Int} {l : List Held} {s : Spec} {f v : Int} (h : (firstL g use l s f v).2.2 = true) : f ≤ (firstL g use l s f v).1 := by
  obtain ⟨ht, hm, _⟩ := first_ok h
  rcases (cands_mem ht).1 hm with e | ⟨_, _, _, e⟩ <;> omega
/-! ### The laws -/
theorem at_from {g : List Thing} {use : List Int} {l : List Held} {s : Spec} {f v : Int} : (atL g use l s f v).2 = ((firstL g use l s f v).2.2 && decide ((firstL g use l s f v).1 = f)) := by
  unfold atL
  cases ht : isTab l with
  | false => unfold firstL; rw [ht]; rfl
  | true =>
    simp only [if_true]
    rw [Bool.eq_iff_iff, Bool.and_eq_true, decide_eq_true_eq]
    constructor
    · intro h
      have h1 := first_le ht List.mem_cons_self h
      have h2 := first_from h1.1
      exact ⟨h1.1, by omega⟩
    · rintro ⟨h1, h2⟩
      have := (first_ok h1).2.2.1
      rwa [h2] at this
theorem at_end {g : List Thing} {use : List Int} {l : List Held} {s : Spec} {f v : Int} {i : Nat} {x : Int} (hx : (endsL l f)[i]? = some x) (h : (atL g use l s x v).2 = true) : (firstL g use l s f v).2.2 = true ∧ ¬ x < (firstL g use l s f v).1 := by
  unfold atL at h
  split at h
  case isFalse => cases h
  rename_i ht
  have := first_le ht (List.mem_cons_of_mem _ (List.mem_of_getElem? hx)) h
  exact ⟨this.1, by omega⟩
theorem busy_tab {l : List Held} (ht : isTab l = true) (a b : Int) : busyL l a b = busyOf a b l := by unfold busyL; rw [if_pos ht]
/-- What a job gets at its first slot. -/
theorem first_facts {g : List Thing} {use : List Int} {l : List Held} {s : Spec} {f v : Int} (h : (firstL g use l s f v).2.2 = true) :
    f ≤ (firstL g use l s f v).1 ∧ endsAt s (firstL g use l s f v).1 ≤ v ∧ partB (firstL g use l s f v).2.1 use = true ∧ apartB (firstL g use l s f v).2.1 (busyL l (firstL g use l s f v).1 (endsAt s (firstL g use l s f v).1)) = true ∧ couldB g s = true ∧
    ∀ id, mayH ⟨id, (firstL g use l s f v).2.1, (firstL g use l s f v).1, endsAt s (firstL g use l s f v).1⟩ = true ∧ anyClash l ⟨id, (firstL g use l s f v).2.1, (firstL g use l s f v).1, endsAt s (firstL g use l s f v).1⟩ = false := by
  obtain ⟨ht, hm, hf, he⟩ := first_ok h
  have hff := first_from h
  generalize (firstL g use l s f v).1 = t at *
  rw [he]
  obtain ⟨h1, h2, h3⟩ := fits_facts hf
  have hu := fits_use hf
  have hset := fits_set g use l s t v
  have hap : apartB (fitsL g use l s t v).1 (busyL l t (endsAt s t)) = true := by
    rw [apartB_iff hset (busyL_set _ _ _), busy_tab ht]
    exact fun n hn => (h2 n hn).2
  refine ⟨hff, h1.2.2.2.1, by rw [partB_iff hset hu]; exact fun n hn => (h2 n hn).1, hap, could_of (fits_ok.1 hf).2.2, fun id => ?_⟩
  have hmay : mayH ⟨id, (fitsL g use l s t v).1, t, endsAt s t⟩ = true := by
    unfold mayH isWhen
    simp only [Bool.and_eq_true, decide_eq_true_eq]
    exact ⟨⟨⟨⟨h3, hset⟩, by omega, by omega⟩, by omega, by omega⟩, by omega⟩
  refine ⟨hmay, ?_⟩
  have := clash_busy ht hmay
  simp only at this
  rw [apart_comm] at this
  rw [hap] at this
  cases hc : anyClash l ⟨id, (fitsL g use l s t v).1, t, endsAt s t⟩ with
  | false => rfl
  | true => rw [hc] at this; cases this
/-- With more that may be used, or a later until. -/
theorem first_more {g : List Thing} {use more : List Int} {l : List Held} {s : Spec} {f v by_ : Int} (hu : isSet use = true) (hm : isSet more = true) (hby : 0 ≤ by_) (h : (firstL g use l s f v).2.2 = true) :
    ((firstL g (joinL use more) l s f v).2.2 = true ∧ (firstL g (joinL use more) l s f v).1 ≤ (firstL g use l s f v).1) ∧ (firstL g use l s f (v + by_)).2.2 = true ∧ (firstL g use l s f (v + by_)).1 = (firstL g use l s f v).1 := by
  obtain ⟨ht, hmm, hf, _⟩ := first_ok h
  have h1 := (fits_facts hf).1
  refine ⟨first_le ht hmm (fits_mono (joinL_set _ _) hf ⟨h1.1, h1.2.1⟩ h1.2.2.2.1 fun n hn hb => ⟨(joinL_mem hu hm).2 (.inl hn), hb⟩), ?_⟩
  have hl := first_le ht hmm (fits_mono (v' := v + by_) hu hf ⟨h1.1, h1.2.1⟩ (by omega) fun n hn hb => ⟨hn, hb⟩)
  refine ⟨hl.1, ?_⟩
  obtain ⟨_, km, kf, _⟩ := first_ok hl.1
  have k1 := (fits_facts kf).1
  have hmono := endsAt_mono s hl.2
  have := (first_le ht km (fits_mono (v' := v) hu kf ⟨k1.1, k1.2.1⟩ (by omega) fun n hn hb => ⟨hn, hb⟩)).2
  omega
theorem tab_nil : isTab [] = true := by kernel_rfl
theorem first_empty {g : List Thing} {use : List Int} {s : Spec} {f v : Int} (h : (firstL g use [] s f v).2.2 = true) : (firstL g use [] s f v).1 = f := by
  obtain ⟨ht, hm, _⟩ := first_ok h
  rcases (cands_mem ht).1 hm with e | ⟨_, h1, _⟩
  · exact e
  · cases h1
theorem first_then {g : List Thing} {use : List Int} {l : List Held} {s : Spec} {f v : Int} (h0 : 0 ≤ f) (h : (firstL g use l s f v).2.2 = true) : (firstL g use [] s f v).2.2 = true := by
  obtain ⟨ht, hm, hf, _⟩ := first_ok h
  have hff := first_from h
  have h1 := (fits_facts hf).1
  have hmono := endsAt_mono s hff
  have hb : busyOf f (endsAt s f) [] = [] := rfl
  exact (first_le tab_nil List.mem_cons_self (fits_mono (l' := []) (t' := f) (v' := v) (fits_use hf) hf ⟨h0, by omega⟩ (by omega) fun n hn _ => ⟨hn, by rw [hb]; simp⟩)).1
/-! ### Plans -/
structure Want where
  id : Int
  spec : Spec
  deriving Inhabited
/-- What a job would hold at its first slot. -/
def wantH (g : List Thing) (use : List Int) (out : List Held) (w : Want) (f v : Int) : Held := ⟨w.id, (firstL g use out w.spec f v).2.1, (firstL g use out w.spec f v).1, endsAt w.spec (firstL g use out w.spec f v).1⟩
def planTo (g : List Thing) (use : List Int) (l : List Held) (f v : Int) : List Held → List Want → List Held × Int
  | out, [] => (out, 0)
  | out, w :: ws => if (firstL g use out w.spec f v).2.2 = true then
      (if (addL out (wantH g use out w f v)).2 = 0 then planTo g use l f v (addL out (wantH g use out w f v)).1 ws else (l, (addL out (wantH g use out w f v)).2))
    else planTo g use l f v out ws
def planL (g : List Thing) (use : List Int) (l : List Held) (ws : List Want) (f v : Int) : List Held × Int := if isTab l = true then planTo g use l f v l ws else (l, 1)
/-- Is a holding one of a plan? -/
def planned (use : List Int) (ws : List Want) (f v : Int) (x : Held) : Prop := (∃ w ∈ ws, w.id = x.id ∧ endsAt w.spec x.fr = x.to) ∧ partB x.things use = true ∧ x.to ≤ v ∧ f ≤ x.fr
theorem planTo_facts {g : List Thing} {use : List Int} {l : List Held} {f v : Int} (all : List Want) : ∀ (ws : List Want) (out : List Held) (k : Nat), (∀ w ∈ ws, w ∈ all) → isTab out = true → (∀ x ∈ l, x ∈ out) → l.length ≤ out.length → out.length ≤ l.length + k → (∀ x ∈ out, x ∈ l ∨ planned use all f v x) →
    (¬ (planTo g use l f v out ws).2 = 0 ∧ (planTo g use l f v out ws).1 = l) ∨
    ((planTo g use l f v out ws).2 = 0 ∧ isTab (planTo g use l f v out ws).1 = true ∧ (∀ x ∈ l, x ∈ (planTo g use l f v out ws).1) ∧ l.length ≤ (planTo g use l f v out ws).1.length ∧ (planTo g use l f v out ws).1.length ≤ l.length + k + ws.length ∧ ∀ x ∈ (planTo g use l f v out ws).1, x ∈ l ∨ planned use all f v x)
  | [], out, k, _, h1, h2, h3, h4, h5 => by
    right
    unfold planTo
    exact ⟨rfl, h1, h2, h3, by simpa using h4, h5⟩
  | w :: ws, out, k, hw, h1, h2, h3, h4, h5 => by
    unfold planTo
    have hws : ∀ w ∈ ws, w ∈ all := fun x hx => hw x (List.mem_cons_of_mem _ hx)
    by_cases hf : (firstL g use out w.spec f v).2.2 = true
    · rw [if_pos hf]
      by_cases he : (addL out (wantH g use out w f v)).2 = 0
      · rw [if_pos he]
        have hff := first_facts hf
        have hnew : planned use all f v (wantH g use out w f v) := ⟨⟨w, hw w List.mem_cons_self, rfl, rfl⟩, hff.2.2.1, hff.2.1, hff.1⟩
        have hlen := add_len he
        have := planTo_facts (g := g) (use := use) (l := l) (f := f) (v := v) all ws (addL out (wantH g use out w f v)).1 (k + 1) hws (add_tab he) (fun x hx => (add_mem he).2 (.inl (h2 x hx))) (by omega) (by omega) (fun x hx => by
          rcases (add_mem he).1 hx with hx | rfl
          · exact h5 x hx
          · exact .inr hnew)
        rcases this with q | ⟨q1, q2, q3, q4, q5, q6⟩
        · exact .inl q
        · exact .inr ⟨q1, q2, q3, q4, by simp only [List.length_cons]; omega, q6⟩
      · rw [if_neg he]
        exact .inl ⟨he, rfl⟩
    · rw [if_neg hf]
      rcases planTo_facts (g := g) (use := use) (l := l) (f := f) (v := v) all ws out k hws h1 h2 h3 h4 h5 with q | ⟨q1, q2, q3, q4, q5, q6⟩
      · exact .inl q
      · exact .inr ⟨q1, q2, q3, q4, by simp only [List.length_cons]; omega, q6⟩
theorem plan_facts {g : List Thing} {use : List Int} {l : List Held} {f v : Int} {ws : List Want} :
    (¬ (planL g use l ws f v).2 = 0 ∧ (planL g use l ws f v).1 = l) ∨
    ((planL g use l ws f v).2 = 0 ∧ isTab (planL g use l ws f v).1 = true ∧ isTab l = true ∧ (∀ x ∈ l, x ∈ (planL g use l ws f v).1) ∧ l.length ≤ (planL g use l ws f v).1.length ∧ (planL g use l ws f v).1.length ≤ l.length + ws.length ∧ ∀ x ∈ (planL g use l ws f v).1, x ∈ l ∨ planned use ws f v x) := by
  unfold planL
  by_cases ht : isTab l = true
  · rw [if_pos ht]
    rcases planTo_facts (g := g) (use := use) (l := l) (f := f) (v := v) ws ws l 0 (fun _ h => h) ht (fun _ h => h) (Nat.le_refl _) (Nat.le_refl _) (fun x h => .inl h) with q | ⟨q1, q2, q3, q4, q5, q6⟩
    · exact .inl q
    · exact .inr ⟨q1, q2, ht, q3, q4, by omega, q6⟩
  · rw [if_neg ht]
    exact .inl ⟨by simp, rfl⟩
/-! ### The reference's way to the free things and the first time -/
def heldAt (l : List Held) (t e n : Int) : Bool := l.any fun h => decide (h.fr < e) && decide (t < h.to) && hasB h.things n
theorem free_ref {use : List Int} (hu : isSet use = true) {l : List Held} (ht : isTab l = true) {t e : Int} (hte : t < e) : (use.filter fun n => !heldAt l t e n) = freeAt use l t e := by
  refine set_ext (set_filter _ hu) (free_set _ _ _ _) fun n => ?_
  rw [free_mem hu, List.mem_filter]
  have hb := busyOf_mem (a := t) (b := e) (l := l) (fun h hh => mayH_set (tab_may ht hh)) (n := n)
  rw [hb]
  have hkey : heldAt l t e n = true ↔ ∃ h ∈ l, meetsB h.fr h.to t e = true ∧ n ∈ h.things := by
    unfold heldAt
    rw [List.any_eq_true]
    constructor
    · rintro ⟨h, hm, hx⟩
      have hset := mayH_set (tab_may ht hm)
      have hto := may_to (tab_may ht hm)
      rw [hasB_iff hset] at hx
      simp only [Bool.and_eq_true, decide_eq_true_eq] at hx
      refine ⟨h, hm, ?_, hx.2⟩
      unfold meetsB; simp only [decide_eq_true_eq]; omega
    · rintro ⟨h, hm, hx, hn⟩
      have hset := mayH_set (tab_may ht hm)
      refine ⟨h, hm, ?_⟩
      rw [hasB_iff hset]
      unfold meetsB at hx
      simp only [decide_eq_true_eq] at hx
      simp only [Bool.and_eq_true, decide_eq_true_eq]
      exact ⟨⟨by omega, by omega⟩, hn⟩
  constructor
  · rintro ⟨h1, h2⟩
    refine ⟨h1, fun h3 => ?_⟩
    rw [hkey.2 h3] at h2; cases h2
  · rintro ⟨h1, h2⟩
    refine ⟨h1, ?_⟩
    cases hh : heldAt l t e n with
    | false => rfl
    | true => exact (h2 (hkey.1 hh)).elim
/-- The reference's best, of the times looked at so far. -/
def bestAt (f : Int → List Int × Bool) (seen : List Int) (best : Int) (got : List Int) : Prop :=
  (best = -1 ∧ got = [] ∧ ∀ t ∈ seen, (f t).2 = false) ∨ (0 ≤ best ∧ best ∈ seen ∧ (f best).2 = true ∧ got = (f best).1 ∧ ∀ t ∈ seen, (f t).2 = true → best ≤ t)
theorem best_skip {f : Int → List Int × Bool} {seen : List Int} {best : Int} {got : List Int} (h : bestAt f seen best got) (t : Int) (hs : (f t).2 = false ∨ (0 ≤ best ∧ best ≤ t)) : bestAt f (seen ++ [t]) best got := by
  have hmem : ∀ x, x ∈ seen ++ [t] ↔ x ∈ seen ∨ x = t := fun x => by simp
  rcases h with ⟨h1, h2, h3⟩ | ⟨h1, h2, h3, h4, h5⟩
  · refine .inl ⟨h1, h2, fun x hx => ?_⟩
    rcases (hmem x).1 hx with hx | rfl
    · exact h3 x hx
    · rcases hs with hs | hs
      · exact hs
      · omega
  · refine .inr ⟨h1, (hmem _).2 (.inl h2), h3, h4, fun x hx hf => ?_⟩
    rcases (hmem x).1 hx with hx | rfl
    · exact h5 x hx hf
    · rcases hs with hs | hs
      · rw [hf] at hs; cases hs
      · exact hs.2
theorem best_take {f : Int → List Int × Bool} {seen : List Int} {best : Int} {got : List Int} (h : bestAt f seen best got) {t : Int} (h0 : 0 ≤ t) (hf : (f t).2 = true) (hb : ¬ (0 ≤ best ∧ best ≤ t)) : bestAt f (seen ++ [t]) t (f t).1 := by
  refine .inr ⟨h0, by simp, hf, rfl, fun x hx hfx => ?_⟩
  rcases List.mem_append.1 hx with hx | hx
  · rcases h with ⟨h1, h2, h3⟩ | ⟨h1, h2, h3, h4, h5⟩
    · rw [h3 x hx] at hfx; cases hfx
    · have := h5 x hx hfx; omega
  · rw [List.mem_singleton.1 hx]; exact Int.le_refl _
theorem best_end {f : Int → List Int × Bool} {seen c : List Int} {best : Int} {got : List Int} (h : bestAt f seen best got) (hc : c.Pairwise (· < ·)) (hm : ∀ t, (f t).2 = true → (t ∈ seen ↔ t ∈ c)) : firstOf f c = if best < 0 then (0, [], false) else (best, got, true) := by
  rcases h with ⟨h1, h2, h3⟩ | ⟨h1, h2, h3, h4, h5⟩
  · rw [if_pos (by omega)]
    refine firstOf_none (firstOf_no.2 fun t ht => ?_)
    cases hf : (f t).2 with
    | false => rfl
    | true => have := h3 t ((hm t hf).2 ht); rw [hf] at this; cases this
  · rw [if_neg (by omega)]
    have hle := firstOf_le hc ((hm best h3).1 h2) h3
    obtain ⟨k1, k2, k3⟩ := firstOf_ok hle.1
    have := h5 _ ((hm _ k2).2 k1) k2
    have e : (firstOf f c).1 = best := by omega
    rw [e] at k3
    exact Prod.ext e (Prod.ext (by rw [k3, h4]) hle.1)
end Go.Proofs.YtinhfnbmgmociaaGreatDoor.Ab
