/- queue: Lost, Counts, Get. The reference's queue: At, Short, Right, IsReady, IsLost, Lost. The reference's queue: IsReady, IsLost, Lost, Ready. -/
import Derived.Test.YtnkcenafpigmbaaGreatQu4
import Derived.Test.YtnkcenafpigmbaaGreatTy2
namespace Go.Proofs.YtnkcenafpigmbaaGreat.Ab
open Go.RowKit
set_option linter.unusedVariables false
set_option linter.unusedSimpArgs false

def overB (n : Int) : Bool := decide (3 ≤ n) && decide (n ≤ 6)
def badL (l : List Job) (lost : List Bool) (k : Nat) : Bool := lost.getD k false || (overB (jb l k).state && !decide ((jb l k).state = 3))
def stepLost (l : List Job) (lost : List Bool) (j : Job) : Bool := decide (j.state ≤ 1) && j.after.any fun n => badL l lost (lowJ l n)
/-- Which of the first k are lost. -/
def lostTo (l : List Job) : Nat → List Bool
  | 0 => []
  | k + 1 => lostTo l k ++ [stepLost l (lostTo l k) (jb l k)]
theorem lostTo_len (l : List Job) : ∀ k, (lostTo l k).length = k
  | 0 => rfl
  | k + 1 => by rw [lostTo, List.length_append, lostTo_len l k]; rfl
/-- Is the one at a place lost? -/
def lostI (l : List Job) (i : Nat) : Bool := stepLost l (lostTo l i) (jb l i)
theorem lostTo_get (l : List Job) : ∀ {k i : Nat}, i < k → (lostTo l k)[i]? = some (lostI l i)
  | 0, i, h => by omega
  | k + 1, i, h => by
    rw [lostTo]
    by_cases e : i = k
    · subst e
      rw [List.getElem?_append_right (by rw [lostTo_len]; omega), lostTo_len]
      simp [lostI]
    · rw [List.getElem?_append_left (by rw [lostTo_len]; omega)]
      exact lostTo_get l (by omega)
def lostIds (l : List Job) (k : Nat) : List Int := ((List.range k).filter (lostI l)).map fun i => (jb l i).id
theorem lostIds_succ (l : List Job) (k : Nat) : lostIds l (k + 1) = lostIds l k ++ (if lostI l k = true then [(jb l k).id] else []) := by
  unfold lostIds
  rw [List.range_succ, List.filter_append, List.map_append]
  congr 1
  by_cases h : lostI l k = true <;> simp [List.filter_cons, h]
theorem lostIds_len (l : List Job) (k : Nat) : (lostIds l k).length ≤ k := by
  unfold lostIds
  rw [List.length_map]
  have := List.length_filter_le (lostI l) (List.range k)
  rwa [List.length_range] at this
def lostL (l : List Job) : List Int := if isQ l = true then lostIds l l.length else []
/-- The slice of marks, when so many have been looked at. -/
def marks (l : List Job) (k : Nat) : List Bool := lostTo l k ++ List.replicate (l.length - k) false
theorem marks_len {l : List Job} {k : Nat} (h : k ≤ l.length) : (marks l k).length = l.length := by unfold marks; rw [List.length_append, lostTo_len, List.length_replicate]; omega
theorem marks_at {l : List Job} {k i : Nat} (h : i < k) : (marks l k)[i]? = some (lostI l i) := by
  unfold marks
  rw [List.getElem?_append_left (by rw [lostTo_len]; exact h)]
  exact lostTo_get l h
theorem marks_set {l : List Job} {k : Nat} (h : k < l.length) : marks l (k + 1) = if lostI l k = true then (marks l k).set k true else marks l k := by
  unfold marks
  rw [show l.length - k = (l.length - (k + 1)) + 1 by omega, List.replicate_succ, List.set_append_right _ _ (by rw [lostTo_len]; omega), lostTo_len, Nat.sub_self, List.set_cons_zero, lostTo]
  show lostTo l k ++ [lostI l k] ++ _ = _
  rw [List.append_assoc]
  cases lostI l k <;> simp
/-! ### Get, Counts -/
def noJ : Job := ⟨0, ⟨0, 0, 0, ⟨#[]⟩, false, 0, 0⟩, [], 0, 0, 0, 0⟩
def getJ (l : List Job) (id : Int) : Job × Bool := if isQ l = true ∧ isAtJ l id = true then (jb l (lowJ l id), true) else (noJ, false)
theorem isAtJ_get {l : List Job} (hs : sortedJ l) {id : Int} (ha : isAtJ l id = true) : lowJ l id < l.length ∧ l[lowJ l id]? = some (jb l (lowJ l id)) ∧ (jb l (lowJ l id)).id = id := by
  obtain ⟨h, h1, h2⟩ := (isAtJ_low hs).1 ha
  have := jb_get h1
  rw [this]
  exact ⟨(List.getElem?_eq_some_iff.1 h1).1, h1, h2⟩
set_option maxHeartbeats 8000000 in
set_option maxRecDepth 100000 in
theorem qGet_c (l : List Job) (id : Int) (hl : l.length ≤ 1000000000) (hh : Jobs l) : ACalls Tryz.prog 30 [jobs l, iv id] (· = .many [.sv (jobSV (getJ l id).1), .sv (bv (getJ l id).2)]) := by
  refine ACalls.of_bodyS (fun _ _ => Tryz.call30 _ _) Tryz.func30 rfl Tryz.ntmps30 (by simp) ?_
  refine Tr.ex ?_
  unfold getJ
  simp [go_sem]
  refine OpW.fn true (qRight_c l (by omega) hh) rfl rfl (by simp [go_sem]) (by rintro _ r rfl; simp [go_sem]) ?_
  rintro r rfl
  cases hq : isQ l with
  | false => simp [go_sem, noJ]
  | true =>
    have hso := q_sorted hq
    have hle := q_len hq
    simp [go_sem]
    refine OpW.fn true (findJ_c l id hso (by omega)) rfl rfl (by simp [go_sem]) (by rintro _ r rfl; simp [go_sem]) ?_
    rintro r rfl
    cases hat : isAtJ l id with
    | false => simp [go_sem, noJ]
    | true =>
      obtain ⟨hlt, hx, hid⟩ := isAtJ_get hso hat
      have hlt' : (lowJ l id : Int) < l.length := by omega
      have hjw := (hh _ (List.mem_of_getElem? hx)).2
      generalize jb l (lowJ l id) = j at *
      generalize lowJ l id = m at *
      simp [go_sem, hlt, hlt', hx, gE hx]
      refine OpW.fn false (copiedJ_c j hjw) rfl rfl (by simp [go_sem]) (fun h => by cases h) ?_
      rintro r rfl
      simp [go_sem]
def cntTo (l : List Job) (k : Nat) (s : Int) : Int := (((l.take k).filter fun j => decide (j.state = s)).length : Int)
def cnts (l : List Job) (k : Nat) : List Int := [cntTo l k 0, cntTo l k 1, cntTo l k 2, cntTo l k 3, cntTo l k 4, cntTo l k 5, cntTo l k 6]
def countsL (l : List Job) : List Int := if isQ l = true then cnts l l.length else [0, 0, 0, 0, 0, 0, 0]
theorem cntTo_succ {l : List Job} {k : Nat} {j : Job} (hx : l[k]? = some j) (s : Int) : cntTo l (k + 1) s = cntTo l k s + (if j.state = s then 1 else 0) := by
  unfold cntTo
  obtain ⟨h, rfl⟩ := List.getElem?_eq_some_iff.1 hx
  rw [List.take_succ_eq_append_getElem h, List.filter_append, List.length_append]
  by_cases e : (l[k]).state = s <;> simp [List.filter_cons, e]
theorem cntTo_le (l : List Job) (k : Nat) (s : Int) : 0 ≤ cntTo l k s ∧ cntTo l k s ≤ k := by
  unfold cntTo
  have := List.length_filter_le (fun j : Job => decide (j.state = s)) (l.take k)
  rw [List.length_take] at this
  omega
theorem job_state {j : Job} (h : isJob j = true) : 0 ≤ j.state ∧ j.state ≤ 6 := by
  unfold isJob at h
  simp only [Bool.and_eq_true] at h
  have := times_ref.1 h.2
  exact this.1
end Go.Proofs.YtnkcenafpigmbaaGreat.Ab

namespace Go.Proofs.YtnkcenafpigmbaaGreat.Ab
open Go.RowKit
set_option linter.unusedVariables false
set_option linter.unusedSimpArgs false

def atR (l : List Job) (id : Int) : Int := if isAtJ l id = true then ((l.findIdx fun j => j.id == id : Nat) : Int) else -1
theorem atR_no {l : List Job} {id : Int} (h : isAtJ l id = false) : atR l id = -1 := by unfold atR; rw [h]; rfl
theorem atR_low {l : List Job} (hs : sortedJ l) {id : Int} (h : isAtJ l id = true) : atR l id = lowJ l id := by
  obtain ⟨h1, h2, h3⟩ := isAtJ_get hs h
  unfold atR
  rw [if_pos h, (List.findIdx_eq h1).2 ⟨by rw [gE h2]; simpa using h3, fun k hk => ?_⟩]
  have := List.pairwise_iff_getElem.1 hs k (lowJ l id) (by omega) h1 hk
  rw [gE h2] at this
  simp; omega
/-! ### Right -/
def rowR (l : List Job) (i : Nat) : Bool := isJob (jb l i) && ordQ l i && (jb l i).after.all fun n => isAtJ l n
def quR (l : List Job) (i : Nat) : Bool := (List.range i).all (rowR l)
theorem quR_succ (l : List Job) (i : Nat) : quR l (i + 1) = (quR l i && rowR l i) := by unfold quR; rw [List.range_succ, List.all_append]; simp
theorem quR_bad {l : List Job} {i : Nat} (hi : i < l.length) (h : rowR l i = false) : quR l l.length = false := by
  unfold quR
  rw [List.all_eq_false]
  exact ⟨i, List.mem_range.2 hi, by simp [h]⟩
theorem ord_sorted {l : List Job} (h : ∀ j, j < l.length → ordQ l j = true) : sortedJ l := by
  have key : ∀ i, i ≤ l.length → (l.take i).Pairwise fun a b => a.id < b.id := by
    intro i
    induction i with
    | zero => intro _; simp
    | succ i ih =>
      intro hi
      have hlt : i < l.length := by omega
      obtain ⟨x, hx⟩ : ∃ x, l[i]? = some x := ⟨_, List.getElem?_eq_getElem hlt⟩
      have h2 := h i hlt
      unfold ordQ at h2
      rw [List.take_succ_eq_append_getElem hlt, gE hx, List.pairwise_append]
      refine ⟨ih (by omega), by simp, fun a ha b hb => ?_⟩
      rw [List.mem_singleton.1 hb]
      obtain ⟨j, hj⟩ := List.getElem?_of_mem ha
      rw [List.getElem?_take] at hj
      split at hj
      case isFalse => cases hj
      rename_i hji
      rw [jb_get hx] at h2
      have hi0 : i ≠ 0 := by omega
      simp [hi0] at h2
      by_cases e : j = i - 1
      · subst e; rw [jb_get hj] at h2; exact h2.1
      · have hp := ih (by omega)
        have hlp : i - 1 < l.length := by omega
        have h3 : (l.take i)[j]? = some a := by rw [List.getElem?_take, if_pos hji]; exact hj
        have h4 : (l.take i)[i - 1]? = some (jb l (i - 1)) := by rw [List.getElem?_take, if_pos (by omega)]; rw [List.getElem?_eq_getElem hlp, jb_get (List.getElem?_eq_getElem hlp)]
        obtain ⟨q1, rfl⟩ := List.getElem?_eq_some_iff.1 h3
        obtain ⟨q2, q3⟩ := List.getElem?_eq_some_iff.1 h4
        have := List.pairwise_iff_getElem.1 hp j (i - 1) q1 q2 (by omega)
        rw [q3] at this; omega
  have := key l.length (Nat.le_refl _)
  rwa [List.take_length] at this
theorem rises_mem {id : Int} : ∀ {a : List Int} {last : Int}, risesF id last a = true → ∀ n ∈ a, last < n ∧ n < id
  | [], _, _, n, hn => by cases hn
  | x :: r, last, h, n, hn => by
    rw [risesF_cons] at h
    simp only [Bool.and_eq_true, decide_eq_true_eq] at h
    rcases List.mem_cons.1 hn with rfl | hn
    · exact h.1
    · have := rises_mem h.2 n hn; omega
theorem job_need {j : Job} (h : isJob j = true) {n : Int} (hn : n ∈ j.after) : 0 < n ∧ n < j.id := by
  unfold isJob isNeeds at h
  simp only [Bool.and_eq_true] at h
  exact rises_mem h.1.1.2.2 n hn
theorem isQ_R (l : List Job) : isQ l = (decide (l.length ≤ 64) && quR l l.length) := by
  unfold isQ
  congr 1
  rw [Bool.eq_iff_iff]
  unfold quTo quR
  simp only [List.all_eq_true, List.mem_range]
  constructor
  · intro h i hi
    have := h i hi
    unfold rowQ at this
    unfold rowR
    simp only [Bool.and_eq_true, List.all_eq_true] at this ⊢
    refine ⟨this.1, fun n hn => ?_⟩
    have h2 := this.2 n hn
    unfold isAtJ at h2 ⊢
    obtain ⟨x, hm, he⟩ := List.any_eq_true.1 h2
    exact List.any_eq_true.2 ⟨x, List.mem_of_mem_take hm, he⟩
  · intro h i hi
    have hs : sortedJ l := ord_sorted fun j hj => by have := h j hj; unfold rowR at this; simp only [Bool.and_eq_true] at this; exact this.1.2
    have := h i hi
    unfold rowR at this
    unfold rowQ
    simp only [Bool.and_eq_true, List.all_eq_true] at this ⊢
    refine ⟨this.1, fun n hn => ?_⟩
    have h2 := this.2 n hn
    obtain ⟨x, hx⟩ : ∃ x, l[i]? = some x := ⟨_, List.getElem?_eq_getElem hi⟩
    rw [jb_get hx] at this hn
    have h3 := job_need this.1.1 hn
    unfold isAtJ at h2 ⊢
    obtain ⟨y, hm, he⟩ := List.any_eq_true.1 h2
    obtain ⟨k, hk, rfl⟩ := List.getElem_of_mem hm
    have he : l[k].id = n := by simpa using he
    have hki : k < i := by
      rcases Nat.lt_or_ge k i with q | q
      · exact q
      · by_cases e : k = i
        · subst e; rw [gE hx] at he; omega
        · have := List.pairwise_iff_getElem.1 hs i k hi hk (by omega)
          rw [gE hx] at this; omega
    exact List.any_eq_true.2 ⟨l[k], List.mem_take_iff_getElem.2 ⟨k, by omega, rfl⟩, by simpa using he⟩
/-! ### Short -/
def shortJ (l : List Job) : Bool := decide (l.length ≤ 14) && l.all fun j => decide (j.after.length ≤ 20)
theorem shortJ_len {l : List Job} (h : shortJ l = true) : l.length ≤ 14 ∧ ∀ j ∈ l, j.after.length ≤ 20 := by
  unfold shortJ at h
  simpa using h
end Go.Proofs.YtnkcenafpigmbaaGreat.Ab

namespace Go.Proofs.YtnkcenafpigmbaaGreat.Ab
open Go.RowKit
set_option linter.unusedVariables false
set_option linter.unusedSimpArgs false

theorem q_needAt {l : List Job} (h : isQ l = true) {i : Nat} {j : Job} (hx : l[i]? = some j) {n : Int} (hn : n ∈ j.after) : atR l n = lowJ l n := by
  refine atR_low (q_sorted h) ?_
  have := (q_row h hx).2.2 n hn
  unfold isAtJ at this ⊢
  obtain ⟨x, hm, he⟩ := List.any_eq_true.1 this
  exact List.any_eq_true.2 ⟨x, List.mem_of_mem_take hm, he⟩
theorem badL_need {l : List Job} (hq : isQ l = true) {i : Nat} {j : Job} (hx : l[i]? = some j) {n : Int} (hn : n ∈ j.after) {x : Job} (hxx : l[lowJ l n]? = some x) : badL l (lostTo l i) (lowJ l n) = (lostI l (lowJ l n) || decide (3 < x.state)) := by
  obtain ⟨h1, _⟩ := q_need hq hx hn
  have hs := job_state (q_row hq hxx).1
  unfold badL overB
  rw [List.getD_eq_getElem?_getD, lostTo_get l h1, jb_get hxx]
  have : (decide (3 ≤ x.state) && decide (x.state ≤ 6) && !decide (x.state = 3)) = decide (3 < x.state) := by rw [Bool.eq_iff_iff]; simp; omega
  rw [this]; rfl
/-! ### Again and again the first of what is left -/
section
variable (l R : List Job) (rank : Job → Int) (rdy : Job → Bool)
def aheadJ (rank : Job → Int) (a b : Job) : Prop := rank b < rank a ∨ (rank a = rank b ∧ a.id < b.id)
theorem aheadJ_trans {rank : Job → Int} {a b c : Job} (h1 : aheadJ rank a b) (h2 : aheadJ rank b c) : aheadJ rank a c := by unfold aheadJ at *; omega
theorem aheadJ_irr {rank : Job → Int} (a : Job) : ¬ aheadJ rank a a := by unfold aheadJ; omega
theorem aheadJ_asym {rank : Job → Int} (a b : Job) (h : aheadJ rank a b) : ¬ aheadJ rank b a := by unfold aheadJ at *; omega
def toldJ (m : Nat) : List Bool := l.map fun j => decide (j.id ∈ (R.take m).map (·.id))
/-- Is the one at a place still to be told? -/
def leftJ (m k : Nat) : Prop := ∃ j, l[k]? = some j ∧ rdy j = true ∧ j.id ∉ (R.take m).map (·.id)
def bestJ (m i : Nat) (b : Int) : Prop := (b = -1 ∧ ∀ k, k < i → ¬ leftJ l R rdy m k) ∨ (∃ k x, b = (k : Nat) ∧ k < i ∧ l[k]? = some x ∧ leftJ l R rdy m k ∧ ∀ k' y, k' < i → k' ≠ k → l[k']? = some y → leftJ l R rdy m k' → aheadJ rank x y)
end
section
variable {l R : List Job} {rank : Job → Int} {rdy : Job → Bool}
theorem toldJ_len (m : Nat) : (toldJ l R m).length = l.length := by unfold toldJ; simp
theorem bestJ_zero (m : Nat) : bestJ l R rank rdy m 0 (-1) := .inl ⟨rfl, fun k h => by omega⟩
theorem bestJ_skip {m i : Nat} {b : Int} (h : bestJ l R rank rdy m i b) (hn : ¬ leftJ l R rdy m i) : bestJ l R rank rdy m (i + 1) b := by
  rcases h with ⟨rfl, h⟩ | ⟨k, x, rfl, hk, hx, hl, h⟩
  · exact .inl ⟨rfl, fun k hk => by
      by_cases e : k = i
      · subst e; exact hn
      · exact h k (by omega)⟩
  · exact .inr ⟨k, x, rfl, by omega, hx, hl, fun k' y hk' hne hy hl' => by
      by_cases e : k' = i
      · subst e; exact (hn hl').elim
      · exact h k' y (by omega) hne hy hl'⟩
theorem bestJ_take {m i : Nat} {b : Int} {j : Job} (hs : sortedJ l) (h : bestJ l R rank rdy m i b) (hj : l[i]? = some j) (hl : leftJ l R rdy m i) (hb : b < 0 ∨ ∃ x, l[b.toNat]? = some x ∧ rank x < rank j) : bestJ l R rank rdy m (i + 1) i := by
  refine .inr ⟨i, j, rfl, by omega, hj, hl, fun k' y hk' hne hy hl' => ?_⟩
  rcases h with ⟨rfl, h⟩ | ⟨k, x, rfl, hk, hx, hlk, h⟩
  · exact (h k' (by omega) hl').elim
  · rcases hb with hb | ⟨x', hx', hr⟩
    · omega
    · have : x' = x := by
        rw [Int.toNat_natCast, hx] at hx'
        simpa using hx'.symm
      subst this
      by_cases e : k' = k
      · subst e
        rw [hx] at hy
        cases hy
        exact .inl hr
      · exact aheadJ_trans (.inl hr) (h k' y (by omega) e hy hl')
theorem bestJ_keep {m i : Nat} {b : Int} {j : Job} (hs : sortedJ l) (h : bestJ l R rank rdy m i b) (hj : l[i]? = some j) (hb : ¬ b < 0) (hr : ∀ x, l[b.toNat]? = some x → ¬ rank x < rank j) : bestJ l R rank rdy m (i + 1) b := by
  rcases h with ⟨rfl, h⟩ | ⟨k, x, rfl, hk, hx, hlk, h⟩
  · exact (hb (by decide)).elim
  · refine .inr ⟨k, x, rfl, by omega, hx, hlk, fun k' y hk' hne hy hl' => ?_⟩
    by_cases e : k' = i
    · subst e
      rw [hj] at hy
      cases hy
      have h1 := hr x (by rw [Int.toNat_natCast]; exact hx)
      have h2 := List.pairwise_iff_getElem.1 hs k k' (List.getElem?_eq_some_iff.1 hx).1 (List.getElem?_eq_some_iff.1 hj).1 hk
      rw [gE hx, gE hj] at h2
      unfold aheadJ
      omega
    · exact h k' y (by omega) hne hy hl'
theorem bestJ_get {m i : Nat} {b : Int} (h : bestJ l R rank rdy m i b) (hb : ¬ b < 0) : ∃ k x, b = (k : Nat) ∧ k < i ∧ l[k]? = some x := by
  rcases h with ⟨rfl, _⟩ | ⟨k, x, rfl, hk, hx, _⟩
  · exact (hb (by decide)).elim
  · exact ⟨k, x, rfl, hk, hx⟩
theorem left_drop (hp : R.Perm (l.filter rdy)) {m k : Nat} {x : Job} (hx : l[k]? = some x) (h : leftJ l R rdy m k) : x ∈ R.drop m := by
  obtain ⟨y, hy, h1, h2⟩ := h
  rw [hx] at hy
  cases hy
  have h3 : x ∈ R := hp.mem_iff.2 (List.mem_filter.2 ⟨List.mem_of_getElem? hx, h1⟩)
  rw [← List.take_append_drop m R, List.mem_append] at h3
  rcases h3 with h3 | h3
  · exact (h2 (List.mem_map_of_mem h3)).elim
  · exact h3
theorem toldJ_set (hs : sortedJ l) {m k : Nat} {x : Job} (hx : l[k]? = some x) (hm : R[m]? = some x) : toldJ l R (m + 1) = (toldJ l R m).set k true := by
  obtain ⟨q, he⟩ := List.getElem?_eq_some_iff.1 hm
  unfold toldJ
  rw [List.take_succ_eq_append_getElem q, he]
  refine List.ext_getElem (by simp) fun i h1 h2 => ?_
  have hi : i < l.length := by simpa using h1
  simp only [List.getElem_map, List.getElem_set, List.map_append, List.mem_append, List.map_cons, List.map_nil, List.mem_singleton]
  by_cases e : k = i
  · subst e
    rw [if_pos rfl, gE hx]
    simp
  · rw [if_neg e]
    have : l[i].id ≠ x.id := by
      obtain ⟨q1, q2⟩ := List.getElem?_eq_some_iff.1 hx
      rcases Nat.lt_or_ge k i with g | g
      · have := List.pairwise_iff_getElem.1 hs k i q1 hi g
        rw [q2] at this; omega
      · have := List.pairwise_iff_getElem.1 hs i k hi q1 (by omega)
        rw [q2] at this; omega
    simp [this]
variable (hs : sortedJ l) (hp : R.Perm (l.filter rdy)) (hR : R.Pairwise (aheadJ rank))
include hs hp hR
theorem drop_left {m : Nat} {x : Job} (hx : x ∈ R.drop m) : ∃ k, l[k]? = some x ∧ leftJ l R rdy m k := by
  have h1 := (hp.mem_iff.1 (List.mem_of_mem_drop hx))
  rw [List.mem_filter] at h1
  obtain ⟨k, hk⟩ := List.getElem?_of_mem h1.1
  refine ⟨k, hk, x, hk, h1.2, fun h => ?_⟩
  obtain ⟨y, hy, he⟩ := List.mem_map.1 h
  have h2 : (R.take m ++ R.drop m).Pairwise (aheadJ rank) := by rwa [List.take_append_drop]
  have h3 := (List.pairwise_append.1 h2).2.2 y hy x hx
  have h4 := (hp.mem_iff.1 (List.mem_of_mem_take hy))
  rw [List.mem_filter] at h4
  obtain ⟨k', hk'⟩ := List.getElem?_of_mem h4.1
  by_cases e : k' = k
  · subst e
    rw [hk] at hk'
    cases hk'
    exact aheadJ_irr _ h3
  · obtain ⟨q1, q2⟩ := List.getElem?_eq_some_iff.1 hk
    obtain ⟨q3, q4⟩ := List.getElem?_eq_some_iff.1 hk'
    rcases Nat.lt_or_ge k k' with g | g
    · have := List.pairwise_iff_getElem.1 hs k k' q1 q3 g
      rw [q2, q4] at this; omega
    · have := List.pairwise_iff_getElem.1 hs k' k q3 q1 (by omega)
      rw [q2, q4] at this; omega
theorem bestJ_none {m : Nat} {b : Int} (h : bestJ l R rank rdy m l.length b) (hb : b < 0) : R.length ≤ m := by
  rcases h with ⟨rfl, h⟩ | ⟨k, x, rfl, _⟩
  · rcases Nat.lt_or_ge m R.length with q | q
    · exfalso
      have hm : R[m] ∈ R.drop m := by rw [List.drop_eq_getElem_cons q]; exact List.mem_cons_self
      obtain ⟨k, hk, hl⟩ := drop_left hs hp hR hm
      exact h k (List.getElem?_eq_some_iff.1 hk).1 hl
    · exact q
  · omega
theorem bestJ_next {m k : Nat} {x : Job} (h : bestJ l R rank rdy m l.length (k : Nat)) (hx : l[k]? = some x) : R[m]? = some x := by
  rcases h with ⟨h, _⟩ | ⟨k', x', e, _, hx', hl, h⟩
  · omega
  · have : k' = k := by omega
    subst this
    rw [hx] at hx'
    cases hx'
    have hxd := left_drop hp hx hl
    have q : m < R.length := by
      rcases Nat.lt_or_ge m R.length with q | q
      · exact q
      · rw [List.drop_eq_nil_of_le q] at hxd; cases hxd
    have hm : R[m] ∈ R.drop m := by rw [List.drop_eq_getElem_cons q]; exact List.mem_cons_self
    obtain ⟨k2, hk2, hl2⟩ := drop_left hs hp hR hm
    rw [List.getElem?_eq_getElem q]
    by_cases e2 : k2 = k'
    · subst e2; rw [hx] at hk2; exact hk2.symm
    · have h1 := h k2 R[m] (List.getElem?_eq_some_iff.1 hk2).1 e2 hk2 hl2
      rw [List.drop_eq_getElem_cons q, List.mem_cons] at hxd
      rcases hxd with e3 | h3
      · rw [← e3]
      · have h4 : (R.drop m).Pairwise (aheadJ rank) := hR.sublist (List.drop_sublist _ _)
        rw [List.drop_eq_getElem_cons q, List.pairwise_cons] at h4
        exact (aheadJ_asym _ _ h1 (h4.1 x h3)).elim
end
end Go.Proofs.YtnkcenafpigmbaaGreat.Ab
