/- Tables in plain words: what the laws without the reference ask. -/
import Derived.Test.YtfcojlagmmgagaaDoorHd2
namespace Go.Proofs.YtfcojlagmmgagaaDoor.Ab
open Go.RowKit
set_option linter.unusedVariables false
set_option linter.unusedSimpArgs false

theorem isAt_iff {l : List Held} {id : Int} : isAt l id = true ↔ ∃ x ∈ l, x.id = id := by unfold isAt; rw [List.any_eq_true]; simp
theorem anyClash_iff {l : List Held} {h : Held} : anyClash l h = true ↔ ∃ x ∈ l, clashB x h = true := by unfold anyClash; rw [List.any_eq_true]
theorem add_ok {l : List Held} {h : Held} : (addL l h).2 = 0 ↔ isTab l = true ∧ mayH h = true ∧ isAt l h.id = false ∧ l.length ≠ 256 ∧ anyClash l h = false := by
  unfold addL
  cases h1 : isTab l with
  | false => simp
  | true =>
    cases h2 : mayH h with
    | false => simp
    | true =>
      cases h3 : isAt l h.id with
      | true => simp
      | false =>
        cases h4 : anyClash l h with
        | true => simp
        | false => by_cases h5 : l.length = 256 <;> simp [h5]
theorem add_res {l : List Held} {h : Held} (hk : (addL l h).2 = 0) : (addL l h).1 = insH l (lowAt l h.id) h := by
  obtain ⟨h1, h2, h3, h4, h5⟩ := add_ok.1 hk
  unfold addL
  rw [if_pos ⟨h1, h2⟩, h3, if_neg (by simp), if_neg (by simp [h4, h5])]
theorem add_no {l : List Held} {h : Held} (hk : ¬ (addL l h).2 = 0) : (addL l h).1 = l := by
  revert hk
  unfold addL
  split
  · split
    · intro _; rfl
    · split
      · intro _; rfl
      · intro h; exact absurd rfl h
  · intro _; rfl
theorem take_low {l : List Held} (hs : sortedId l) {id : Int} {x : Held} (hx : x ∈ l.take (lowAt l id)) : x.id < id := by
  obtain ⟨j, hj⟩ := List.getElem?_of_mem hx
  rw [List.getElem?_take] at hj
  split at hj
  · rename_i h; exact (lowAt_iff hs hj).2 h
  · cases hj
theorem drop_low {l : List Held} (hs : sortedId l) {id : Int} {x : Held} (hx : x ∈ l.drop (lowAt l id)) : ¬ x.id < id := by
  obtain ⟨j, hj⟩ := List.getElem?_of_mem hx
  rw [List.getElem?_drop] at hj
  intro h
  have := (lowAt_iff hs hj).1 h
  omega
/-- A holding that may be put in leaves a right table. -/
theorem ins_tab {l : List Held} {h : Held} (ht : isTab l = true) (hm : mayH h = true) (hn : isAt l h.id = false) (hl : l.length < 256) (hc : ∀ x ∈ l, clashB x h = false) : isTab (insH l (lowAt l h.id) h) = true := by
  have hs := tab_sorted ht
  rw [isTab_iff] at ht ⊢
  refine ⟨by rw [insH_len]; omega, fun x hx => ?_, ?_⟩
  · rcases insH_mem.1 hx with hx | rfl
    · exact ht.2.1 x hx
    · exact hm
  · unfold insH
    have hp := ht.2.2
    rw [← List.take_append_drop (lowAt l h.id) l, List.pairwise_append] at hp
    rw [List.pairwise_append, List.pairwise_append]
    refine ⟨⟨hp.1, by simp, fun a ha b hb => ?_⟩, hp.2.1, fun a ha b hb => ?_⟩
    · rw [List.mem_singleton.1 hb]
      exact ⟨take_low hs ha, hc a (List.mem_of_mem_take ha)⟩
    · rcases List.mem_append.1 ha with ha | ha
      · exact hp.2.2 a ha b hb
      · rw [List.mem_singleton.1 ha]
        have h1 := drop_low hs hb
        have hbm := List.mem_of_mem_drop hb
        refine ⟨?_, by rw [clash_comm]; exact hc b hbm⟩
        have : ¬ b.id = h.id := fun e => by
          have := isAt_iff.2 ⟨b, hbm, e⟩
          rw [hn] at this; cases this
        omega
theorem add_tab {l : List Held} {h : Held} (hk : (addL l h).2 = 0) : isTab (addL l h).1 = true := by
  obtain ⟨h1, h2, h3, h4, h5⟩ := add_ok.1 hk
  rw [add_res hk]
  refine ins_tab h1 h2 h3 (by have := tab_len h1; omega) fun x hx => ?_
  cases hc : clashB x h with
  | false => rfl
  | true => have := anyClash_iff.2 ⟨x, hx, hc⟩; rw [h5] at this; cases this
theorem add_mem {l : List Held} {h x : Held} (hk : (addL l h).2 = 0) : x ∈ (addL l h).1 ↔ x ∈ l ∨ x = h := by rw [add_res hk, insH_mem]
theorem add_len {l : List Held} {h : Held} (hk : (addL l h).2 = 0) : (addL l h).1.length = l.length + 1 := by rw [add_res hk, insH_len]
theorem get_mem {l : List Held} (ht : isTab l = true) {k : Held} (hk : k ∈ l) : getL l k.id = (k, true) := by
  obtain ⟨i, hi⟩ := List.getElem?_of_mem hk
  have h1 := at_low (tab_sorted ht) hi rfl
  subst h1
  unfold getL
  rw [if_pos ⟨ht, isAt_iff.2 ⟨k, hk, rfl⟩⟩, hd_get hi]
theorem tab_ext : ∀ {a b : List Held}, sortedId a → sortedId b → (∀ x, x ∈ a ↔ x ∈ b) → a = b
  | [], [], _, _, _ => rfl
  | [], y :: b, _, _, h => by have := (h y).2 (by simp); cases this
  | x :: a, [], _, _, h => by have := (h x).1 (by simp); cases this
  | x :: a, y :: b, ha, hb, h => by
    have pa := List.pairwise_cons.1 ha
    have pb := List.pairwise_cons.1 hb
    have e : x = y := by
      rcases List.mem_cons.1 ((h x).1 (by simp)) with e | hx
      · exact e
      · rcases List.mem_cons.1 ((h y).2 (by simp)) with e | hy
        · exact e.symm
        · have := pb.1 x hx; have := pa.1 y hy; omega
    subst e
    have hab : ∀ z, z ∈ a ↔ z ∈ b := fun z => by
      constructor
      · intro hz
        rcases List.mem_cons.1 ((h z).1 (List.mem_cons_of_mem _ hz)) with e | hz2
        · subst e; have := pa.1 z hz; omega
        · exact hz2
      · intro hz
        rcases List.mem_cons.1 ((h z).2 (List.mem_cons_of_mem _ hz)) with e | hz2
        · subst e; have := pb.1 z hz; omega
        · exact hz2
    rw [tab_ext pa.2 pb.2 hab]
/-- Two that are added, in either order. -/
theorem add_two {l : List Held} {a b : Held} (hl : l.length ≤ 30) (he : (addL l a).2 = 0) :
    ((addL (addL l a).1 b).2 = 0 ↔ (addL l b).2 = 0 ∧ (addL (addL l b).1 a).2 = 0) ∧ ((addL (addL l a).1 b).2 = 0 → (addL (addL l a).1 b).1 = (addL (addL l b).1 a).1) := by
  obtain ⟨e1, e2, e3, e4, e5⟩ := add_ok.1 he
  have hx1 := add_tab he
  have hxm := fun x => add_mem (x := x) he
  have hxl := add_len he
  have hat : ∀ id, isAt (addL l a).1 id = (isAt l id || decide (a.id = id)) := fun id => by
    rw [Bool.eq_iff_iff, Bool.or_eq_true, isAt_iff, isAt_iff, decide_eq_true_eq]
    constructor
    · rintro ⟨x, h1, h2⟩
      rcases (hxm x).1 h1 with h1 | rfl
      · exact .inl ⟨x, h1, h2⟩
      · exact .inr h2
    · rintro (⟨x, h1, h2⟩ | h)
      · exact ⟨x, (hxm x).2 (.inl h1), h2⟩
      · exact ⟨a, (hxm a).2 (.inr rfl), h⟩
  have hac : anyClash (addL l a).1 b = (anyClash l b || clashB a b) := by
    rw [Bool.eq_iff_iff, Bool.or_eq_true, anyClash_iff, anyClash_iff]
    constructor
    · rintro ⟨x, h1, h2⟩
      rcases (hxm x).1 h1 with h1 | rfl
      · exact .inl ⟨x, h1, h2⟩
      · exact .inr h2
    · rintro (⟨x, h1, h2⟩ | h)
      · exact ⟨x, (hxm x).2 (.inl h1), h2⟩
      · exact ⟨a, (hxm a).2 (.inr rfl), h⟩
  have key : (addL (addL l a).1 b).2 = 0 ↔ (addL l b).2 = 0 ∧ (addL (addL l b).1 a).2 = 0 := by
    rw [add_ok (l := (addL l a).1), hat, hac, hxl, add_ok (l := l) (h := b)]
    constructor
    · rintro ⟨f1, f2, f3, f4, f5⟩
      simp only [Bool.or_eq_false_iff, decide_eq_false_iff_not] at f3 f5
      have hg : (addL l b).2 = 0 := add_ok.2 ⟨e1, f2, f3.1, by omega, f5.1⟩
      refine ⟨⟨e1, f2, f3.1, by omega, f5.1⟩, add_ok.2 ⟨add_tab hg, e2, ?_, by rw [add_len hg]; omega, ?_⟩⟩
      · cases hq : isAt (addL l b).1 a.id with
        | false => rfl
        | true =>
          obtain ⟨x, h1, h2⟩ := isAt_iff.1 hq
          rcases (add_mem hg).1 h1 with h1 | rfl
          · have := isAt_iff.2 ⟨x, h1, h2⟩; rw [e3] at this; cases this
          · exact (f3.2 h2.symm).elim
      · cases hq : anyClash (addL l b).1 a with
        | false => rfl
        | true =>
          obtain ⟨x, h1, h2⟩ := anyClash_iff.1 hq
          rcases (add_mem hg).1 h1 with h1 | rfl
          · have := anyClash_iff.2 ⟨x, h1, h2⟩; rw [e5] at this; cases this
          · rw [clash_comm] at h2; rw [f5.2] at h2; cases h2
    · rintro ⟨⟨g1, g2, g3, g4, g5⟩, hk⟩
      have hg : (addL l b).2 = 0 := add_ok.2 ⟨g1, g2, g3, g4, g5⟩
      obtain ⟨k1, k2, k3, k4, k5⟩ := add_ok.1 hk
      refine ⟨hx1, g2, ?_, by omega, ?_⟩
      · rw [g3, Bool.false_or, decide_eq_false_iff_not]
        intro e
        have := isAt_iff.2 ⟨b, (add_mem hg).2 (.inr rfl), e.symm⟩
        rw [k3] at this; cases this
      · rw [g5, Bool.false_or]
        cases hq : clashB a b with
        | false => rfl
        | true =>
          have := anyClash_iff.2 ⟨b, (add_mem hg).2 (.inr rfl), by rw [clash_comm]; exact hq⟩
          rw [k5] at this; cases this
  refine ⟨key, fun hf => ?_⟩
  obtain ⟨hg, hk⟩ := key.1 hf
  refine tab_ext (tab_sorted (add_tab hf)) (tab_sorted (add_tab hk)) fun x => ?_
  rw [add_mem hf, add_mem he, add_mem hk, add_mem hg]
  constructor
  · rintro ((h | h) | h)
    · exact .inl (.inl h)
    · exact .inr h
    · exact .inl (.inr h)
  · rintro ((h | h) | h)
    · exact .inl (.inl h)
    · exact .inr h
    · exact .inl (.inr h)
/-! ### At one time -/
theorem join_len {a b : List Int} (ha : isSet a = true) (hb : isSet b = true) (h : ∀ n ∈ a, n ∉ b) : (joinL a b).length = a.length + b.length := by
  have nd : ∀ {l : List Int}, isSet l = true → l.Nodup := fun h => ((isSet_iff.1 h).1).imp (fun h => by omega)
  have hp : (joinL a b).Perm (a ++ b) := by
    rw [List.perm_ext_iff_of_nodup (nd (joinL_set _ _))]
    · intro n; rw [joinL_mem ha hb, List.mem_append]
    · rw [List.nodup_append]
      exact ⟨nd ha, nd hb, fun x hx y hy e => h x hx (e ▸ hy)⟩
  rw [hp.length_eq, List.length_append]
def nAt (t : Int) (l : List Held) : Nat := l.foldl (fun n h => if meetsB h.fr h.to t (t + 1) = true then n + h.things.length else n) 0
theorem nAt_snoc (t : Int) (l : List Held) (h : Held) : nAt t (l ++ [h]) = if meetsB h.fr h.to t (t + 1) = true then nAt t l + h.things.length else nAt t l := by unfold nAt; rw [List.foldl_append]; rfl
theorem nAt_busy {l : List Held} (ht : isTab l = true) (t : Int) : ∀ i, i ≤ l.length → nAt t (l.take i) = (busyOf t (t + 1) (l.take i)).length := by
  intro i
  induction i with
  | zero => intro _; simp [nAt, busyOf]
  | succ i ih =>
    intro hi
    have hlt : i < l.length := by omega
    obtain ⟨x, hx⟩ : ∃ x, l[i]? = some x := ⟨_, List.getElem?_eq_getElem hlt⟩
    have hxm := List.mem_of_getElem? hx
    have hset : ∀ h ∈ l, isSet h.things = true := fun h hh => mayH_set (tab_may ht hh)
    rw [List.take_succ_eq_append_getElem hlt, gE hx, nAt_snoc, busyOf_snoc, ih (by omega)]
    split
    · rename_i hm
      rw [join_len (busyOf_set _ _ _) (hset x hxm)]
      intro n hn hnx
      rw [busyOf_mem (fun h hh => hset h (List.mem_of_mem_take hh))] at hn
      obtain ⟨h, h1, h2, h3⟩ := hn
      have hp := (isTab_iff.1 ht).2.2
      have htake : (l.take (i + 1)).Pairwise tabR := hp.sublist (List.take_sublist _ _)
      rw [List.take_succ_eq_append_getElem hlt, gE hx, List.pairwise_append] at htake
      have hc := (htake.2.2 h h1 x (by simp)).2
      unfold clashB at hc
      have hmeet : meetsB h.fr h.to x.fr x.to = true := by
        unfold meetsB at h2 hm ⊢
        simp only [decide_eq_true_eq] at h2 hm ⊢
        omega
      rw [hmeet] at hc
      simp only [Bool.true_and, Bool.not_eq_false'] at hc
      exact (apartB_iff (hset h (List.mem_of_mem_take h1)) (hset x hxm)).1 hc n h3 hnx
    · rfl
theorem nAt_le (t : Int) {l : List Held} (hl : ∀ h ∈ l, h.things.length ≤ 60) : nAt t l ≤ 60 * l.length := by
  have key : ∀ i, i ≤ l.length → nAt t (l.take i) ≤ 60 * i := by
    intro i
    induction i with
    | zero => intro _; simp [nAt]
    | succ i ih =>
      intro hi
      have hlt : i < l.length := by omega
      obtain ⟨x, hx⟩ : ∃ x, l[i]? = some x := ⟨_, List.getElem?_eq_getElem hlt⟩
      have := hl x (List.mem_of_getElem? hx)
      have := ih (by omega)
      rw [List.take_succ_eq_append_getElem hlt, gE hx, nAt_snoc]
      split <;> omega
  have := key l.length (Nat.le_refl _)
  rwa [List.take_length] at this
theorem clash_busy {l : List Held} (ht : isTab l = true) {h : Held} (hm : mayH h = true) : apartB (busyL l h.fr h.to) h.things = !anyClash l h := by
  rw [Bool.eq_iff_iff, apartB_iff (busyL_set _ _ _) (mayH_set hm), Bool.not_eq_true', ← Bool.not_eq_true, anyClash_iff]
  constructor
  · rintro h1 ⟨x, hx, hc⟩
    unfold clashB at hc
    simp only [Bool.and_eq_true, Bool.not_eq_true'] at hc
    have h2 := apartB_iff (mayH_set (tab_may ht hx)) (mayH_set hm)
    rw [← Bool.not_eq_true, h2] at hc
    exact hc.2 fun n hn => h1 n ((busyL_mem ht).2 ⟨x, hx, hc.1, hn⟩)
  · intro h1 n hn hnh
    obtain ⟨x, hx, h2, h3⟩ := (busyL_mem ht).1 hn
    refine h1 ⟨x, hx, ?_⟩
    unfold clashB
    rw [h2]
    simp only [Bool.true_and, Bool.not_eq_true']
    rw [← Bool.not_eq_true, apartB_iff (mayH_set (tab_may ht hx)) (mayH_set hm)]
    exact fun h4 => h4 n h3 hnh
/-! ### Back -/
theorem del_ins (l : List Held) (m : Nat) (h : Held) (hm : m ≤ l.length) : delH (insH l m h) m = l := by
  unfold delH insH
  have hl : (l.take m).length = m := by rw [List.length_take]; omega
  rw [List.append_assoc, List.take_left' hl, List.drop_append, hl, List.drop_of_length_le (by omega)]
  simp
theorem ins_get (l : List Held) (m : Nat) (h : Held) (hm : m ≤ l.length) : (insH l m h)[m]? = some h := by
  unfold insH
  have hl : (l.take m).length = m := by rw [List.length_take]; omega
  rw [List.append_assoc, List.getElem?_append_right (by omega), hl]; simp
theorem ins_set (l : List Held) (m : Nat) (h k : Held) (hm : m ≤ l.length) : (insH l m h).set m k = insH l m k := by
  unfold insH
  have hl : (l.take m).length = m := by rw [List.length_take]; omega
  rw [List.append_assoc, List.append_assoc, List.set_append_right _ _ (by omega), hl]; simp
theorem drop_add {l : List Held} {h : Held} (hk : (addL l h).2 = 0) : dropL (addL l h).1 h.id = (l, h, 0) := by
  have ht := add_tab hk
  have hm : h ∈ (addL l h).1 := (add_mem hk).2 (.inr rfl)
  have hle := lowAt_le l h.id
  have hg : (addL l h).1[lowAt l h.id]? = some h := by rw [add_res hk]; exact ins_get l _ h hle
  have hlow := at_low (tab_sorted ht) hg rfl
  unfold dropL
  rw [if_pos ht, if_pos (isAt_iff.2 ⟨h, hm, rfl⟩), ← hlow, hd_get hg]
  rw [show delH (addL l h).1 (lowAt l h.id) = l by rw [add_res hk]; exact del_ins l _ h hle]
def cutH (h : Held) (to : Int) : Held := { h with to := to }
theorem cut_add {l : List Held} {h : Held} (hk : (addL l h).2 = 0) (to : Int) : cutL (addL l h).1 h.id to = if to ≤ h.fr ∨ h.to < to then ((addL l h).1, 1) else (insH l (lowAt l h.id) (cutH h to), 0) := by
  have ht := add_tab hk
  have hm : h ∈ (addL l h).1 := (add_mem hk).2 (.inr rfl)
  have hle := lowAt_le l h.id
  have hg : (addL l h).1[lowAt l h.id]? = some h := by rw [add_res hk]; exact ins_get l _ h hle
  have hlow := at_low (tab_sorted ht) hg rfl
  unfold cutL
  rw [if_pos ht, if_pos (isAt_iff.2 ⟨h, hm, rfl⟩), ← hlow, hd_get hg]
  split
  · rfl
  · rw [show (addL l h).1.set (lowAt l h.id) { h with to := to } = insH l (lowAt l h.id) (cutH h to) by rw [add_res hk]; exact ins_set l _ h _ hle]
theorem cut_tab {l : List Held} {h : Held} (hk : (addL l h).2 = 0) {to : Int} (h1 : ¬ to ≤ h.fr) (h2 : ¬ h.to < to) : isTab (insH l (lowAt l h.id) (cutH h to)) = true := by
  obtain ⟨e1, e2, e3, e4, e5⟩ := add_ok.1 hk
  have hmay : mayH (cutH h to) = true := by
    unfold mayH isWhen at e2 ⊢
    unfold cutH
    simp only [Bool.and_eq_true, decide_eq_true_eq] at e2 ⊢
    exact ⟨⟨e2.1.1, by omega, by omega⟩, by omega⟩
  refine ins_tab (h := cutH h to) e1 hmay e3 (by have := tab_len e1; omega) fun x hx => ?_
  cases hc : clashB x (cutH h to) with
  | false => rfl
  | true =>
    exfalso
    have : clashB x h = true := by
      unfold clashB at hc ⊢
      unfold cutH at hc
      simp only [Bool.and_eq_true] at hc ⊢
      refine ⟨?_, hc.2⟩
      have := hc.1
      unfold meetsB at this ⊢
      simp only [decide_eq_true_eq] at this ⊢
      omega
    have := anyClash_iff.2 ⟨x, hx, this⟩
    rw [e5] at this; cases this
theorem cut_gone {l : List Held} {h : Held} (hk : (addL l h).2 = 0) {to : Int} (h1 : ¬ to ≤ h.fr) (h2 : ¬ h.to < to) : (getL (restL (insH l (lowAt l h.id) (cutH h to)) to) h.id).2 = false := by
  obtain ⟨e1, e2, e3, e4, e5⟩ := add_ok.1 hk
  have ht := cut_tab hk h1 h2
  rw [rest_tab ht]
  unfold getL
  rw [if_neg]
  rintro ⟨_, ha⟩
  obtain ⟨x, hx, hid⟩ := isAt_iff.1 ha
  obtain ⟨hx1, hx2⟩ := List.mem_filter.1 hx
  rcases insH_mem.1 hx1 with hx1 | rfl
  · have := isAt_iff.2 ⟨x, hx1, hid⟩; rw [e3] at this; cases this
  · unfold pLive cutH at hx2; simp at hx2
theorem rest_gone_len {l : List Held} (ht : isTab l = true) (t : Int) : (restL l t).length + (goneL l t).length = l.length := by
  have e : goneL l t = l.filter (pGone t) := by unfold goneL; rw [if_pos ht]; rfl
  rw [rest_tab ht, e]
  have : ∀ (m : List Held), (m.filter (pLive t)).length + (m.filter (pGone t)).length = m.length := by
    intro m
    induction m with
    | nil => rfl
    | cons x m ih =>
      rw [List.filter_cons, List.filter_cons]
      by_cases hc : t < x.to
      · have p1 : pLive t x = true := by unfold pLive; simpa using hc
        have p2 : pGone t x = false := by unfold pGone; simp; omega
        rw [p1, p2]; simp; omega
      · have p1 : pLive t x = false := by unfold pLive; simpa using hc
        have p2 : pGone t x = true := by unfold pGone; simp; omega
        rw [p1, p2]; simp; omega
  exact this l
end Go.Proofs.YtfcojlagmmgagaaDoor.Ab
