/- share: the order, plainly. -/
import Derived.Test.YtpjcicbohgcehaaShH
namespace Go.Proofs.Ytpjcicbohgcehaa.Ab
open Go.RowKit Go.Proofs.Ytpjcicbohgcehaa.Fl
set_option linter.unusedVariables false
set_option linter.unusedSimpArgs false

theorem nearest_le (m : Nat) (p : Int) : Ieee.double.nearest false m p ≤ INF := by
  unfold Ieee.Format.nearest
  split
  · exact Nat.zero_le _
  · simp only
    rw [word_pos, inf_eq]
    exact Nat.min_le_right _ _
def moreOf (a b : Nat) : Nat := 54 + b.log2 - a.log2
def stk (A B : Nat) : Nat := 2 * (A / B) + (A % B != 0).toNat
theorem write_number (s : Bool) (m : Nat) (p : Int) : Ieee.double.write (.number s m p) = Ieee.double.nearest s m p := rfl
theorem write_inf : Ieee.double.write (.infinity false) = Ieee.double.word false Ieee.double.infRung := rfl
theorem div_eq {x y : Nat} (hx : x < INF) (hy : y < INF) (h0 : x ≠ 0) : Ieee.double.div x y = some (if mg y = 0 then INF else Ieee.double.nearest false (stk (mg x * 2 ^ moreOf (mg x) (mg y)) (mg y)) ((Fl.ex x : Int) - Fl.ex y - moreOf (mg x) (mg y) - 1)) := by
  unfold Ieee.Format.div
  rw [read_pos hx, read_pos hy]
  simp only [Ieee.Datum.quotient]
  have hm : mg x ≠ 0 := by
    unfold mg
    have := b52_pos
    split <;> omega
  by_cases h : mg y = 0
  · rw [if_pos h, if_pos h, if_neg hm]
    simp only [Option.map_some]
    rw [show (false ^^ false) = false from rfl, write_inf, word_pos, inf_eq]
  · rw [if_neg h, if_neg h]
    simp only [Option.map_some]
    rw [show (false ^^ false) = false from rfl, write_number, Nat.shiftLeft_eq, frac_eq]
    unfold stk moreOf
    rw [show 52 + 2 + (mg y).log2 - (mg x).log2 = 54 + (mg y).log2 - (mg x).log2 by omega]
    congr 2
    omega
theorem shr_div2 {u : Use} (h : cl u.had ≠ 0) : shr u = if mg (cl u.weight) = 0 then INF else Ieee.double.nearest false (stk (mg (cl u.had) * 2 ^ moreOf (mg (cl u.had)) (mg (cl u.weight))) (mg (cl u.weight))) ((Fl.ex (cl u.had) : Int) - Fl.ex (cl u.weight) - moreOf (mg (cl u.had)) (mg (cl u.weight)) - 1) := by
  unfold shr
  rw [if_neg h, div_eq (cl_lt _) (cl_lt _) h]
  rfl
theorem shr_le (u : Use) : shr u ≤ INF := by
  by_cases h : cl u.had = 0
  · unfold shr; rw [if_pos h]; exact Nat.zero_le _
  · rw [shr_div2 h]
    split
    · exact Nat.le_refl _
    · exact nearest_le _ _
/-! ### The order -/
def uz (l : List Use) (i : Int) : Use := (l[i.toNat]?).getD default
theorem uz_at {l : List Use} {i : Nat} {u : Use} (h : l[i]? = some u) : uz l (i : Int) = u := by unfold uz; rw [Int.toNat_natCast, h]; rfl
def keyU (l : List Use) (i : Int) : Nat := shr (uz l i)
/-- Does a place stand ahead of another one? -/
def aheadU (l : List Use) (a b : Int) : Prop := keyU l a < keyU l b ∨ (keyU l a = keyU l b ∧ ((uz l a).who < (uz l b).who ∨ ((uz l a).who = (uz l b).who ∧ a < b)))
instance (l : List Use) (a b : Int) : Decidable (aheadU l a b) := by unfold aheadU; infer_instance
theorem aheadU_trans {l : List Use} {a b c : Int} (h1 : aheadU l a b) (h2 : aheadU l b c) : aheadU l a c := by unfold aheadU at *; omega
theorem aheadU_irr {l : List Use} (a : Int) : ¬ aheadU l a a := by unfold aheadU; omega
theorem aheadU_asym {l : List Use} (a b : Int) (h : aheadU l a b) : ¬ aheadU l b a := by unfold aheadU at *; omega
theorem aheadU_tri {l : List Use} {a b : Int} (h : a ≠ b) : aheadU l a b ∨ aheadU l b a := by unfold aheadU; omega
def cmpU (l : List Use) (a b : Int) : Int := or2 (c3N (keyU l a) (keyU l b)) (c3I (uz l a).who (uz l b).who)
theorem cmpU_lt {l : List Use} {a b : Int} : cmpU l a b < 0 ↔ keyU l a < keyU l b ∨ (keyU l a = keyU l b ∧ (uz l a).who < (uz l b).who) := by
  unfold cmpU or2 c3N c3I
  generalize keyU l a = x
  generalize keyU l b = y
  generalize (uz l a).who = p
  generalize (uz l b).who = q
  rcases Nat.lt_trichotomy x y with h | h | h
  · rw [if_pos h, if_neg (show ¬ (-1 : Int) = 0 by decide)]
    exact ⟨fun _ => .inl h, fun _ => by decide⟩
  · subst h
    rw [if_neg (Nat.lt_irrefl _), if_neg (Nat.lt_irrefl _), if_pos rfl]
    constructor
    · intro h2
      by_cases h3 : p < q
      · exact .inr ⟨rfl, h3⟩
      · rw [if_neg h3] at h2
        split at h2 <;> omega
    · rintro (h2 | ⟨_, h2⟩)
      · omega
      · rw [if_pos h2]; decide
  · rw [if_neg (show ¬ x < y by omega), if_pos h, if_neg (show ¬ (1 : Int) = 0 by decide)]
    exact ⟨fun h2 => absurd h2 (by decide), fun h2 => by omega⟩
/-- The places. -/
def idx (n : Nat) : List Int := (List.range n).map fun i : Nat => (i : Int)
theorem idx_len (n : Nat) : (idx n).length = n := by unfold idx; simp
theorem idx_zero : idx 0 = [] := rfl
theorem idx_succ (n : Nat) : idx (n + 1) = idx n ++ [(n : Int)] := by unfold idx; rw [List.range_succ, List.map_append]; rfl
theorem idx_mem {n : Nat} {z : Int} : z ∈ idx n ↔ 0 ≤ z ∧ z < n := by
  unfold idx
  rw [List.mem_map]
  constructor
  · rintro ⟨i, hi, rfl⟩
    rw [List.mem_range] at hi
    omega
  · rintro ⟨h1, h2⟩
    exact ⟨z.toNat, by rw [List.mem_range]; omega, by omega⟩
theorem idx_lt (n : Nat) : (idx n).Pairwise (· < ·) := by
  induction n with
  | zero => exact List.Pairwise.nil
  | succ n ih =>
    rw [idx_succ, List.pairwise_append]
    refine ⟨ih, List.pairwise_singleton _ _, fun a ha b hb => ?_⟩
    rw [List.mem_singleton] at hb
    rw [idx_mem] at ha
    omega
theorem idx_ord (l : List Use) (n : Nat) : Ord (aheadU l) (cmpU l) (idx n) := (idx_lt n).imp fun {a b} h => by
  rw [cmpU_lt]
  unfold aheadU
  omega
def ordU (l : List Use) : List Int := srt (fun a b => decide (aheadU l a b)) (idx l.length)
theorem ordU_perm (l : List Use) : (ordU l).Perm (idx l.length) := srt_perm _ _
theorem ordU_len (l : List Use) : (ordU l).length = l.length := by rw [(ordU_perm l).length_eq, idx_len]
theorem srtR_sortedU (l : List Use) : ∀ (m : List Int), m.Nodup → (srtR (fun a b => decide (aheadU l a b)) m).Pairwise (fun a b => aheadU l b a) := by
  intro m
  rcases List.eq_nil_or_concat m with rfl | ⟨r, x, rfl⟩
  · intro _; exact List.Pairwise.nil
  · intro hn
    rw [List.concat_eq_append] at *
    rw [List.nodup_append] at hn
    rw [srtR_snoc]
    have hx : ∀ y ∈ srtR (fun a b => decide (aheadU l a b)) r, y ≠ x := fun y hy => hn.2.2 y ((srtR_perm _ _).mem_iff.1 hy) x (List.mem_singleton.2 rfl)
    refine insR_sorted (srtR_sortedU l r hn.1) (fun y hy h => of_decide_eq_true h) (fun y hy h => ?_) (fun a b c => aheadU_trans)
    have := of_decide_eq_false h
    exact (aheadU_tri (hx y hy)).resolve_right this
termination_by m => m.length
decreasing_by subst_vars; simp
theorem idx_nodup (n : Nat) : (idx n).Nodup := (idx_lt n).imp fun {a b} h => by omega
theorem ordU_sorted (l : List Use) : (ordU l).Pairwise (aheadU l) := by
  unfold ordU srt
  rw [List.pairwise_reverse]
  exact srtR_sortedU l _ (idx_nodup _)
theorem ordU_uniq {l : List Use} {g : List Int} (h : SortedOf (aheadU l) (idx l.length) g) : g = ordU l := sorted_unique aheadU_irr aheadU_asym (h.1.trans (ordU_perm l).symm) h.2 (ordU_sorted l)
/-! ### How many are ahead -/
def rkU (l : List Use) (i : Int) : Nat := (idx l.length).countP fun k => decide (aheadU l k i)
theorem rkU_at {l : List Use} {p : Nat} {i : Int} (h : (ordU l)[p]? = some i) : rkU l i = p := by
  have hs := ordU_sorted l
  obtain ⟨hp, he⟩ := List.getElem?_eq_some_iff.1 h
  unfold rkU
  rw [← (ordU_perm l).countP_eq]
  rw [← List.take_append_drop p (ordU l)] at hs ⊢
  rw [List.pairwise_append] at hs
  have hd : (ordU l).drop p = i :: (ordU l).drop (p + 1) := by rw [List.drop_eq_getElem_cons hp, he]
  rw [hd] at hs ⊢
  rw [List.countP_append]
  have h1 : ((ordU l).take p).countP (fun k => decide (aheadU l k i)) = ((ordU l).take p).length := by
    rw [List.countP_eq_length]
    intro a ha
    exact decide_eq_true (hs.2.2 a ha i List.mem_cons_self)
  have h2 : (i :: (ordU l).drop (p + 1)).countP (fun k => decide (aheadU l k i)) = 0 := by
    rw [List.countP_eq_zero]
    intro a ha
    rw [List.mem_cons] at ha
    rcases ha with rfl | ha
    · simpa using aheadU_irr a
    · have := (List.pairwise_cons.1 hs.2.1).1 a ha
      simpa using aheadU_asym _ _ this
  rw [h1, h2, List.length_take]
  omega
theorem ordU_has {l : List Use} {i : Nat} (h : i < l.length) : (ordU l)[rkU l i]? = some (i : Int) := by
  have : (i : Int) ∈ ordU l := (ordU_perm l).mem_iff.2 (idx_mem.2 ⟨by omega, by omega⟩)
  obtain ⟨p, hp⟩ := List.getElem?_of_mem this
  rw [rkU_at hp, hp]
theorem rkU_lt {l : List Use} {i : Nat} (h : i < l.length) : rkU l i < l.length := by
  have := (List.getElem?_eq_some_iff.1 (ordU_has h)).1
  rwa [ordU_len] at this
/-- Who stands in each place by how many are ahead stands in order. -/
theorem rk_uniq {l : List Use} {g : List Int} (hl : g.length = l.length) (h : ∀ i : Nat, i < l.length → g[rkU l i]? = some (i : Int)) : g = ordU l := by
  apply List.ext_getElem?
  intro p
  rcases Nat.lt_or_ge p l.length with q | q
  · obtain ⟨i, hi⟩ : ∃ i, (ordU l)[p]? = some i := ⟨_, List.getElem?_eq_getElem (by rw [ordU_len]; exact q)⟩
    have hm := (ordU_perm l).mem_iff.1 (List.mem_of_getElem? hi)
    rw [idx_mem] at hm
    have e : i = ((i.toNat : Nat) : Int) := by omega
    have h2 := h i.toNat (by omega)
    rw [← e, rkU_at hi] at h2
    rw [h2, hi]
  · rw [List.getElem?_eq_none (by omega), List.getElem?_eq_none (by rw [ordU_len]; exact q)]
end Go.Proofs.Ytpjcicbohgcehaa.Ab
