/- share: shares rise; whole numbers, sums and products as words. -/
import Derived.Test.YtnkcenafpigmbaaShO
namespace Go.Proofs.Ytnkcenafpigmbaa.Ab
open Go.RowKit Go.Proofs.Ytnkcenafpigmbaa.Fl
set_option linter.unusedVariables false
set_option linter.unusedSimpArgs false

theorem nearest_le (m : Nat) (p : Int) : Ieee.double.nearest false m p ≤ INF := by
  unfold Ieee.Format.nearest
  split
  · exact Nat.zero_le _
  · simp only
    rw [word_pos, inf_eq]
    exact Nat.min_le_right _ _
def moreOf (a b : Nat) : Nat := 54 + b.log2 - a.log2
def stk (A B : Nat) : Nat := 2 * (A / B) + (A % B != 0).toNat
theorem write_number (s : Bool) (m : Nat) (p : Int) : Ieee.double.write (.number s m p) = Ieee.double.nearest s m p := rfl
theorem write_inf : Ieee.double.write (.infinity false) = Ieee.double.word false Ieee.double.infRung := rfl
theorem div_eq {x y : Nat} (hx : x < INF) (hy : y < INF) (h0 : x ≠ 0) : Ieee.double.div x y = some (if mg y = 0 then INF else Ieee.double.nearest false (stk (mg x * 2 ^ moreOf (mg x) (mg y)) (mg y)) ((Fl.ex x : Int) - Fl.ex y - moreOf (mg x) (mg y) - 1)) := by
  unfold Ieee.Format.div
  rw [read_pos hx, read_pos hy]
  simp only [Ieee.Datum.quotient]
  have hm : mg x ≠ 0 := by
    unfold mg
    have := b52_pos
    split <;> omega
  by_cases h : mg y = 0
  · rw [if_pos h, if_pos h, if_neg hm]
    simp only [Option.map_some]
    rw [show (false ^^ false) = false from rfl, write_inf, word_pos, inf_eq]
  · rw [if_neg h, if_neg h]
    simp only [Option.map_some]
    rw [show (false ^^ false) = false from rfl, write_number, Nat.shiftLeft_eq, frac_eq]
    unfold stk moreOf
    rw [show 52 + 2 + (mg y).log2 - (mg x).log2 = 54 + (mg y).log2 - (mg x).log2 by omega]
    congr 2
    omega
theorem shr_div2 {u : Use} (h : cl u.had ≠ 0) : shr u = if mg (cl u.weight) = 0 then INF else Ieee.double.nearest false (stk (mg (cl u.had) * 2 ^ moreOf (mg (cl u.had)) (mg (cl u.weight))) (mg (cl u.weight))) ((Fl.ex (cl u.had) : Int) - Fl.ex (cl u.weight) - moreOf (mg (cl u.had)) (mg (cl u.weight)) - 1) := by
  unfold shr
  rw [if_neg h, div_eq (cl_lt _) (cl_lt _) h]
  rfl
theorem shr_le (u : Use) : shr u ≤ INF := by
  by_cases h : cl u.had = 0
  · unfold shr; rw [if_pos h]; exact Nat.zero_le _
  · rw [shr_div2 h]
    split
    · exact Nat.le_refl _
    · exact nearest_le _ _
def uz (l : List Use) (i : Int) : Use := (l[i.toNat]?).getD default
theorem uz_at {l : List Use} {i : Nat} {u : Use} (h : l[i]? = some u) : uz l (i : Int) = u := by unfold uz; rw [Int.toNat_natCast, h]; rfl
def UsesW (l : List Use) : Prop := ∀ u ∈ l, UseW u
theorem nearest_mono {N M : Nat} (h : N ≤ M) (p : Int) : Ieee.double.nearest false N p ≤ Ieee.double.nearest false M p := by
  rcases Int.lt_or_le (-1074) p with q | q
  · obtain ⟨j, hj⟩ : ∃ j : Nat, p = -1074 + j := ⟨(p + 1074).toNat, by omega⟩
    subst hj
    rw [← nearest_shift, ← nearest_shift]
    exact near_mono (d := 0) (Nat.mul_le_mul_right _ h)
  · obtain ⟨j, hj⟩ : ∃ j : Nat, p = -1074 - (j : Int) := ⟨(-1074 - p).toNat, by omega⟩
    subst hj
    exact near_mono (d := j) h
theorem rnd_quad {q i d : Nat} (hd : 3 ≤ d) (h1 : 1 ≤ i) (h3 : i ≤ 3) : rnd (4 * q + i) d = q / 2 ^ (d - 2) + (if 2 ^ (d - 3) ≤ q % 2 ^ (d - 2) then 1 else 0) := by
  obtain ⟨c, rfl⟩ : ∃ c, d = c + 3 := ⟨d - 3, by omega⟩
  rw [show c + 3 - 2 = c + 1 by omega, show c + 3 - 3 = c by omega]
  have e1 : 2 ^ (c + 1) = 2 * 2 ^ c := by rw [Nat.pow_succ, Nat.mul_comm]
  have e3 : 2 ^ (c + 3) = 8 * 2 ^ c := by rw [Nat.pow_succ, Nat.pow_succ, Nat.pow_succ]; omega
  have hp := Nat.two_pow_pos c
  unfold rnd
  rw [e1, e3]
  generalize 2 ^ c = e at *
  have hdm := Nat.div_add_mod q (2 * e)
  have hml := Nat.mod_lt q (show 0 < 2 * e by omega)
  have hu := (Nat.div_mod_unique (a := 4 * q + i) (b := 8 * e) (c := 4 * (q % (2 * e)) + i) (d := q / (2 * e)) (by omega)).2 ⟨by
    rw [show 8 * e = 4 * (2 * e) by omega, Nat.mul_assoc]
    generalize 2 * e * (q / (2 * e)) = P at *
    omega, by omega⟩
  rw [hu.1, hu.2]
  generalize q / (2 * e) = t at *
  generalize q % (2 * e) = s at *
  congr 1
  by_cases g : e ≤ s
  · rw [if_pos g, if_pos (.inl (by omega))]
  · rw [if_neg g, if_neg (by omega)]
theorem nearest_quad {q i j : Nat} (hq : 2 ^ 53 ≤ q) (h1 : 1 ≤ i) (h3 : i ≤ 3) (k1 : 1 ≤ j) (k3 : j ≤ 3) (p : Int) : Ieee.double.nearest false (4 * q + i) p = Ieee.double.nearest false (4 * q + j) p := by
  have q0 : q ≠ 0 := by have := Nat.two_pow_pos 53; omega
  have a1 := Nat.log2_self_le q0
  have a2 : q < 2 ^ (q.log2 + 1) := (Nat.log2_lt q0).1 (Nat.lt_succ_self _)
  have a3 : 53 ≤ q.log2 := (Nat.le_log2 q0).2 hq
  have hl : ∀ x, x ≤ 3 → (4 * q + x).log2 = q.log2 + 2 := fun x hx => log2_of (by rw [Nat.pow_succ, Nat.pow_succ]; omega) (by rw [show q.log2 + 2 + 1 = q.log2 + 1 + 2 by omega, Nat.pow_succ, Nat.pow_succ]; omega)
  unfold Ieee.Format.nearest
  rw [if_neg (by omega), if_neg (by omega), hl i h3, hl j k3]
  simp only [frac_eq, least_eq]
  generalize q.log2 = L at *
  have g1 : (p - max (p + ((L + 2 : Nat) : Int) - (52 : Nat)) (-1074)).toNat = 0 := by omega
  have g2 : 3 ≤ (max (p + ((L + 2 : Nat) : Int) - (52 : Nat)) (-1074) - p).toNat := by omega
  rw [g1, Nat.shiftLeft_zero, Nat.shiftLeft_zero, cut_eq, cut_eq, rnd_quad g2 h1 h3, rnd_quad g2 k1 k3]
theorem bne_toNat (n : Nat) : (n != 0).toNat = if n = 0 then 0 else 1 := by
  by_cases h : n = 0
  · subst h; rfl
  · rw [if_neg h, (bne_iff_ne).2 h]; rfl
theorem stk_step {A B : Nat} (hB : 0 < B) (hq : 2 ^ 53 ≤ A / B) (p : Int) : Ieee.double.nearest false (stk (A * 2) B) p = Ieee.double.nearest false (stk A B) (p + 1) := by
  have hs := nearest_shift false (stk A B) p 1
  rw [show p + ((1 : Nat) : Int) = p + 1 by rfl] at hs
  rw [← hs]
  unfold stk
  rw [bne_toNat, bne_toNat]
  have hdm := Nat.div_add_mod A B
  have hml := Nat.mod_lt A hB
  generalize hqq : A / B = q at *
  generalize A % B = r at *
  have key : ∀ b, b ≤ 1 → b * B ≤ 2 * r → 2 * r < (b + 1) * B → A * 2 / B = 2 * q + b ∧ A * 2 % B = 2 * r - b * B := fun b hb h1 h2 => by
    refine (Nat.div_mod_unique hB).2 ⟨?_, ?_⟩
    · rw [Nat.mul_add, Nat.mul_comm B b, ← Nat.mul_assoc, Nat.mul_comm B 2, Nat.mul_assoc]
      generalize B * q = P at *
      generalize b * B = Q at *
      omega
    · rw [Nat.add_mul, Nat.one_mul] at h2
      generalize b * B = Q at *
      omega
  rcases Nat.eq_zero_or_pos r with h0 | h0
  · subst h0
    obtain ⟨e1, e2⟩ := key 0 (by omega) (by omega) (by omega)
    rw [e1, e2, if_pos rfl, if_pos (by omega)]
    congr 1
    omega
  · rcases Nat.lt_or_ge (2 * r) B with c | c
    · obtain ⟨e1, e2⟩ := key 0 (by omega) (by omega) (by omega)
      rw [e1, e2, if_neg (by omega), if_neg (by omega)]
      have := nearest_quad (i := 1) (j := 2) hq (by omega) (by omega) (by omega) (by omega) p
      rw [show 2 * (2 * q + 0) + 1 = 4 * q + 1 by omega, show (2 * q + 1) * 2 ^ 1 = 4 * q + 2 by omega]
      exact this
    · obtain ⟨e1, e2⟩ := key 1 (by omega) (by omega) (by omega)
      rw [e1, e2, if_neg (show ¬ r = 0 by omega)]
      rw [show (2 * q + 1) * 2 ^ 1 = 4 * q + 2 by omega]
      split
      · rw [show 2 * (2 * q + 1) + 0 = 4 * q + 2 by omega]
      · rw [show 2 * (2 * q + 1) + 1 = 4 * q + 3 by omega]
        exact nearest_quad hq (by omega) (by omega) (by omega) (by omega) p
theorem stk_steps {B : Nat} (hB : 0 < B) : ∀ (k : Nat) {A : Nat} (hq : 2 ^ 53 ≤ A / B) (p : Int), Ieee.double.nearest false (stk (A * 2 ^ k) B) p = Ieee.double.nearest false (stk A B) (p + k)
  | 0, A, hq, p => by rw [Nat.pow_zero, Nat.mul_one]; congr 1; omega
  | k + 1, A, hq, p => by
    have h2 : A ≤ A * 2 ^ k := Nat.le_mul_of_pos_right _ (Nat.two_pow_pos k)
    rw [Nat.pow_succ, ← Nat.mul_assoc, stk_step hB (Nat.le_trans hq (Nat.div_le_div_right h2)), stk_steps hB k hq]
    congr 1; omega
theorem stk_mono {A A' B : Nat} (h : A ≤ A') (hB : 0 < B) : stk A B ≤ stk A' B := by
  unfold stk
  rw [bne_toNat, bne_toNat]
  have h1 := Nat.div_le_div_right (c := B) h
  have d1 := Nat.div_add_mod A B
  have d2 := Nat.div_add_mod A' B
  rcases Nat.lt_or_ge (A / B) (A' / B) with q | q
  · split <;> split <;> omega
  · have e : A / B = A' / B := by omega
    rw [e] at d1 ⊢
    generalize B * (A' / B) = P at *
    split <;> split <;> omega
theorem mg_log {x : Nat} (h : B52 ≤ x) : (mg x).log2 = 52 := by
  have hm := Nat.mod_lt x b52_pos
  unfold mg
  rw [if_neg (by omega)]
  exact log2_of (by rw [b52]; omega) (by rw [show (2 : Nat) ^ (52 + 1) = 2 * B52 from by decide]; omega)
theorem mg_ge {x : Nat} (h : B52 ≤ x) : B52 ≤ mg x := by unfold mg; rw [if_neg (by omega)]; omega
theorem mg_pos {x : Nat} (h : x ≠ 0) : mg x ≠ 0 := by
  unfold mg
  have := b52_pos
  split <;> omega
theorem mg_log_mono {x y : Nat} (h : x ≤ y) (h0 : x ≠ 0) : (mg x).log2 ≤ (mg y).log2 := by
  rcases Nat.lt_or_ge y B52 with c | c
  · have e1 : mg x = x := by unfold mg; rw [if_pos (by omega)]
    have e2 : mg y = y := by unfold mg; rw [if_pos c]
    rw [e1, e2]
    exact (Nat.le_log2 (by omega)).2 (Nat.le_trans (Nat.log2_self_le h0) h)
  · rw [mg_log c]
    have := (Nat.log2_lt (mg_pos h0)).2 (show mg x < 2 ^ 53 by have := mg_lt x; rw [show (2 : Nat) ^ 53 = 2 * B52 from by decide]; exact this)
    omega
theorem mg_log_le (x : Nat) : (mg x).log2 ≤ 52 := by
  rcases Nat.eq_zero_or_pos (mg x) with z | z
  · rw [z]; decide
  · have := (Nat.log2_lt (show mg x ≠ 0 by omega)).2 (show mg x < 2 ^ 53 by have := mg_lt x; rw [show (2 : Nat) ^ 53 = 2 * B52 from by decide]; exact this)
    omega
/-- What is had, had more of: the quotient is no less. -/
theorem shr_rise {w w' : Int} {x x' y : Nat} (h : cl x ≤ cl x') : shr ⟨w, x, y⟩ ≤ shr ⟨w', x', y⟩ := by
  by_cases h0 : cl x = 0
  · have e : shr ⟨w, x, y⟩ = 0 := by unfold shr; rw [if_pos h0]
    rw [e]
    exact Nat.zero_le _
  have e1 := shr_div2 (u := ⟨w, x, y⟩) h0
  have e2 := shr_div2 (u := ⟨w', x', y⟩) (by show cl x' ≠ 0; omega)
  simp only at e1 e2
  rw [e1, e2]
  have hx' := cl_lt x'
  generalize cl x = X at *
  generalize cl x' = X' at *
  generalize cl y = Y at *
  clear e1 e2
  by_cases hm : mg Y = 0
  · rw [if_pos hm, if_pos hm]; exact Nat.le_refl _
  rw [if_neg hm, if_neg hm]
  have l1 := mg_log_mono h h0
  have l2 := mg_log_le X
  have l3 := mg_log_le X'
  have m1 : moreOf (mg X) (mg Y) = 54 + (mg Y).log2 - (mg X).log2 := rfl
  have m2 : moreOf (mg X') (mg Y) = 54 + (mg Y).log2 - (mg X').log2 := rfl
  have hex : Fl.ex X ≤ Fl.ex X' := by
    unfold Fl.ex
    have := Nat.div_le_div_right (c := B52) h
    omega
  have hvl : vl X ≤ vl X' := by
    rcases Nat.lt_or_ge X X' with q | q
    · exact Nat.le_of_lt (vl_mono q hx')
    · rw [show X = X' by omega]; exact Nat.le_refl _
  have hmg : mg X ≤ mg X' * 2 ^ (Fl.ex X' - Fl.ex X) := by
    unfold vl at hvl
    have : 2 ^ Fl.ex X' = 2 ^ (Fl.ex X' - Fl.ex X) * 2 ^ Fl.ex X := by rw [← Nat.pow_add]; congr 1; omega
    rw [this, ← Nat.mul_assoc] at hvl
    exact Nat.le_of_mul_le_mul_right hvl (Nat.two_pow_pos _)
  have hp := mg_pos (show X' ≠ 0 by omega)
  generalize hM : moreOf (mg X) (mg Y) = M at *
  generalize hM' : moreOf (mg X') (mg Y) = M' at *
  have hB : 0 < mg Y := by omega
  have hq : 2 ^ 53 ≤ mg X' * 2 ^ M' / mg Y := by
    rw [Nat.le_div_iff_mul_le hB]
    have b1 : mg Y < 2 ^ ((mg Y).log2 + 1) := (Nat.log2_lt hm).1 (Nat.lt_succ_self _)
    have b2 := Nat.log2_self_le hp
    have b3 : 2 ^ 53 * mg Y ≤ 2 ^ 53 * 2 ^ ((mg Y).log2 + 1) := Nat.mul_le_mul_left _ (Nat.le_of_lt b1)
    have b4 : 2 ^ (mg X').log2 * 2 ^ M' ≤ mg X' * 2 ^ M' := Nat.mul_le_mul_right _ b2
    have b5 : 2 ^ 53 * 2 ^ ((mg Y).log2 + 1) = 2 ^ (mg X').log2 * 2 ^ M' := by
      rw [← Nat.pow_add, ← Nat.pow_add]
      congr 1; omega
    omega
  have hst := stk_steps hB (Fl.ex X' - Fl.ex X + (M - M')) hq ((Fl.ex X : Int) - Fl.ex Y - M - 1)
  rw [show (Fl.ex X : Int) - Fl.ex Y - M - 1 + ((Fl.ex X' - Fl.ex X + (M - M') : Nat) : Int) = (Fl.ex X' : Int) - Fl.ex Y - M' - 1 by omega] at hst
  rw [← hst]
  refine nearest_mono (stk_mono ?_ hB) _
  have : mg X' * 2 ^ M' * 2 ^ (Fl.ex X' - Fl.ex X + (M - M')) = mg X' * 2 ^ (Fl.ex X' - Fl.ex X) * 2 ^ M := by
    rw [Nat.mul_assoc, ← Nat.pow_add, Nat.mul_assoc, ← Nat.pow_add]
    congr 2; omega
  rw [this]
  exact Nat.mul_le_mul_right _ hmg
theorem le_cl {s y : Nat} (h : s ≤ y) (hs : s < INF) (hy : y ≤ INF) : s ≤ cl y := by
  unfold cl
  have hM : MAX + 1 = INF := by decide
  split
  · exact h
  · rw [if_pos (by omega)]; omega
theorem addF_ge {s x : Nat} (hs : s < INF) (hx : x < INF) : s ≤ addF s x ∧ x ≤ addF s x := by
  have h1 := near_vl hs
  have h2 := near_vl hx
  have h3 := near_mono (d := 0) (show vl s ≤ vl s + vl x by omega)
  have h4 := near_mono (d := 0) (show vl x ≤ vl s + vl x by omega)
  unfold addF
  omega
/-! ### Whole numbers -/
theorem cvt_eq {n : Int} (h : 0 ≤ n) : FloatKind.nearest .f64 n = Ieee.double.nearest false n.toNat 0 := by
  have e : decide (n < 0) = false := by simp; omega
  have e2 : n.natAbs = n.toNat := by omega
  unfold FloatKind.nearest
  rw [e, e2]
  rfl
theorem cvt_le {n : Int} (h : 0 ≤ n) : FloatKind.nearest .f64 n ≤ INF := by rw [cvt_eq h]; exact nearest_le _ _
theorem cvt_lt {n : Int} (h : 0 ≤ n) (h2 : n ≤ 9223372036854775807) : FloatKind.nearest .f64 n < INF := by
  rw [cvt_eq h]
  have hi : Ieee.double.nearest false 9223372036854775807 0 < INF := by decide
  have m1 := nearest_mono (N := n.toNat) (M := 9223372036854775807) (by omega) 0
  omega
/-- A product of what is not negative. -/
def mulF (x y : Nat) : Nat := Ieee.double.nearest false (mg x * mg y) ((-1074 + (Fl.ex x : Int)) + (-1074 + (Fl.ex y : Int)))
theorem mulF_bits {x y : Nat} (hx : x < INF) (hy : y < INF) : floatBits .mul .f64 x y = some (mulF x y) := by
  show Ieee.double.mul x y = _
  unfold Ieee.Format.mul
  rw [read_pos hx, read_pos hy]
  simp only [Ieee.Datum.product, Option.map_some]
  rfl
theorem mulF_le (x y : Nat) : mulF x y ≤ INF := nearest_le _ _
end Go.Proofs.Ytnkcenafpigmbaa.Ab
