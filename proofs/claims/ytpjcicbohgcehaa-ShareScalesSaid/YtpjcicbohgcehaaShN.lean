/- Doubles: quotients rise; doubles of words; whole numbers as words. -/
import Derived.Test.YtpjcicbohgcehaaShI
namespace Go.Proofs.Ytpjcicbohgcehaa.Ab
open Go.RowKit Go.Proofs.Ytpjcicbohgcehaa.Fl
set_option linter.unusedVariables false
set_option linter.unusedSimpArgs false

theorem nearest_mono {N M : Nat} (h : N ≤ M) (p : Int) : Ieee.double.nearest false N p ≤ Ieee.double.nearest false M p := by
  rcases Int.lt_or_le (-1074) p with q | q
  · obtain ⟨j, hj⟩ : ∃ j : Nat, p = -1074 + j := ⟨(p + 1074).toNat, by omega⟩
    subst hj
    rw [← nearest_shift, ← nearest_shift]
    exact near_mono (d := 0) (Nat.mul_le_mul_right _ h)
  · obtain ⟨j, hj⟩ : ∃ j : Nat, p = -1074 - (j : Int) := ⟨(-1074 - p).toNat, by omega⟩
    subst hj
    exact near_mono (d := j) h
theorem rnd_quad {q i d : Nat} (hd : 3 ≤ d) (h1 : 1 ≤ i) (h3 : i ≤ 3) : rnd (4 * q + i) d = q / 2 ^ (d - 2) + (if 2 ^ (d - 3) ≤ q % 2 ^ (d - 2) then 1 else 0) := by
  obtain ⟨c, rfl⟩ : ∃ c, d = c + 3 := ⟨d - 3, by omega⟩
  rw [show c + 3 - 2 = c + 1 by omega, show c + 3 - 3 = c by omega]
  have e1 : 2 ^ (c + 1) = 2 * 2 ^ c := by rw [Nat.pow_succ, Nat.mul_comm]
  have e3 : 2 ^ (c + 3) = 8 * 2 ^ c := by rw [Nat.pow_succ, Nat.pow_succ, Nat.pow_succ]; omega
  have hp := Nat.two_pow_pos c
  unfold rnd
  rw [e1, e3]
  generalize 2 ^ c = e at *
  have hdm := Nat.div_add_mod q (2 * e)
  have hml := Nat.mod_lt q (show 0 < 2 * e by omega)
  have hu := (Nat.div_mod_unique (a := 4 * q + i) (b := 8 * e) (c := 4 * (q % (2 * e)) + i) (d := q / (2 * e)) (by omega)).2 ⟨by
    rw [show 8 * e = 4 * (2 * e) by omega, Nat.mul_assoc]
    generalize 2 * e * (q / (2 * e)) = P at *
    omega, by omega⟩
  rw [hu.1, hu.2]
  generalize q / (2 * e) = t at *
  generalize q % (2 * e) = s at *
  congr 1
  by_cases g : e ≤ s
  · rw [if_pos g, if_pos (.inl (by omega))]
  · rw [if_neg g, if_neg (by omega)]
theorem nearest_quad {q i j : Nat} (hq : 2 ^ 53 ≤ q) (h1 : 1 ≤ i) (h3 : i ≤ 3) (k1 : 1 ≤ j) (k3 : j ≤ 3) (p : Int) : Ieee.double.nearest false (4 * q + i) p = Ieee.double.nearest false (4 * q + j) p := by
  have q0 : q ≠ 0 := by have := Nat.two_pow_pos 53; omega
  have a1 := Nat.log2_self_le q0
  have a2 : q < 2 ^ (q.log2 + 1) := (Nat.log2_lt q0).1 (Nat.lt_succ_self _)
  have a3 : 53 ≤ q.log2 := (Nat.le_log2 q0).2 hq
  have hl : ∀ x, x ≤ 3 → (4 * q + x).log2 = q.log2 + 2 := fun x hx => log2_of (by rw [Nat.pow_succ, Nat.pow_succ]; omega) (by rw [show q.log2 + 2 + 1 = q.log2 + 1 + 2 by omega, Nat.pow_succ, Nat.pow_succ]; omega)
  unfold Ieee.Format.nearest
  rw [if_neg (by omega), if_neg (by omega), hl i h3, hl j k3]
  simp only [frac_eq, least_eq]
  generalize q.log2 = L at *
  have g1 : (p - max (p + ((L + 2 : Nat) : Int) - (52 : Nat)) (-1074)).toNat = 0 := by omega
  have g2 : 3 ≤ (max (p + ((L + 2 : Nat) : Int) - (52 : Nat)) (-1074) - p).toNat := by omega
  rw [g1, Nat.shiftLeft_zero, Nat.shiftLeft_zero, cut_eq, cut_eq, rnd_quad g2 h1 h3, rnd_quad g2 k1 k3]
theorem bne_toNat (n : Nat) : (n != 0).toNat = if n = 0 then 0 else 1 := by
  by_cases h : n = 0
  · subst h; rfl
  · rw [if_neg h, (bne_iff_ne).2 h]; rfl
theorem stk_step {A B : Nat} (hB : 0 < B) (hq : 2 ^ 53 ≤ A / B) (p : Int) : Ieee.double.nearest false (stk (A * 2) B) p = Ieee.double.nearest false (stk A B) (p + 1) := by
  have hs := nearest_shift false (stk A B) p 1
  rw [show p + ((1 : Nat) : Int) = p + 1 by rfl] at hs
  rw [← hs]
  unfold stk
  rw [bne_toNat, bne_toNat]
  have hdm := Nat.div_add_mod A B
  have hml := Nat.mod_lt A hB
  generalize hqq : A / B = q at *
  generalize A % B = r at *
  have key : ∀ b, b ≤ 1 → b * B ≤ 2 * r → 2 * r < (b + 1) * B → A * 2 / B = 2 * q + b ∧ A * 2 % B = 2 * r - b * B := fun b hb h1 h2 => by
    refine (Nat.div_mod_unique hB).2 ⟨?_, ?_⟩
    · rw [Nat.mul_add, Nat.mul_comm B b, ← Nat.mul_assoc, Nat.mul_comm B 2, Nat.mul_assoc]
      generalize B * q = P at *
      generalize b * B = Q at *
      omega
    · rw [Nat.add_mul, Nat.one_mul] at h2
      generalize b * B = Q at *
      omega
  rcases Nat.eq_zero_or_pos r with h0 | h0
  · subst h0
    obtain ⟨e1, e2⟩ := key 0 (by omega) (by omega) (by omega)
    rw [e1, e2, if_pos rfl, if_pos (by omega)]
    congr 1
    omega
  · rcases Nat.lt_or_ge (2 * r) B with c | c
    · obtain ⟨e1, e2⟩ := key 0 (by omega) (by omega) (by omega)
      rw [e1, e2, if_neg (by omega), if_neg (by omega)]
      have := nearest_quad (i := 1) (j := 2) hq (by omega) (by omega) (by omega) (by omega) p
      rw [show 2 * (2 * q + 0) + 1 = 4 * q + 1 by omega, show (2 * q + 1) * 2 ^ 1 = 4 * q + 2 by omega]
      exact this
    · obtain ⟨e1, e2⟩ := key 1 (by omega) (by omega) (by omega)
      rw [e1, e2, if_neg (show ¬ r = 0 by omega)]
      rw [show (2 * q + 1) * 2 ^ 1 = 4 * q + 2 by omega]
      split
      · rw [show 2 * (2 * q + 1) + 0 = 4 * q + 2 by omega]
      · rw [show 2 * (2 * q + 1) + 1 = 4 * q + 3 by omega]
        exact nearest_quad hq (by omega) (by omega) (by omega) (by omega) p
theorem stk_steps {B : Nat} (hB : 0 < B) : ∀ (k : Nat) {A : Nat} (hq : 2 ^ 53 ≤ A / B) (p : Int), Ieee.double.nearest false (stk (A * 2 ^ k) B) p = Ieee.double.nearest false (stk A B) (p + k)
  | 0, A, hq, p => by rw [Nat.pow_zero, Nat.mul_one]; congr 1; omega
  | k + 1, A, hq, p => by
    have h2 : A ≤ A * 2 ^ k := Nat.le_mul_of_pos_right _ (Nat.two_pow_pos k)
    rw [Nat.pow_succ, ← Nat.mul_assoc, stk_step hB (Nat.le_trans hq (Nat.div_le_div_right h2)), stk_steps hB k hq]
    congr 1; omega
theorem stk_mono {A A' B : Nat} (h : A ≤ A') (hB : 0 < B) : stk A B ≤ stk A' B := by
  unfold stk
  rw [bne_toNat, bne_toNat]
  have h1 := Nat.div_le_div_right (c := B) h
  have d1 := Nat.div_add_mod A B
  have d2 := Nat.div_add_mod A' B
  rcases Nat.lt_or_ge (A / B) (A' / B) with q | q
  · split <;> split <;> omega
  · have e : A / B = A' / B := by omega
    rw [e] at d1 ⊢
    generalize B * (A' / B) = P at *
    split <;> split <;> omega
theorem mg_log {x : Nat} (h : B52 ≤ x) : (mg x).log2 = 52 := by
  have hm := Nat.mod_lt x b52_pos
  unfold mg
  rw [if_neg (by omega)]
  exact log2_of (by rw [b52]; omega) (by rw [show (2 : Nat) ^ (52 + 1) = 2 * B52 from by decide]; omega)
theorem mg_ge {x : Nat} (h : B52 ≤ x) : B52 ≤ mg x := by unfold mg; rw [if_neg (by omega)]; omega
/-- What is had, had more of: the quotient is no less. -/
theorem shr_mono {w w' : Int} {x x' y : Nat} (h : x ≤ x') (hx : x = 0 ∨ B52 ≤ x) (hx' : x' < INF) (hy : y < INF) : shr ⟨w, x, y⟩ ≤ shr ⟨w', x', y⟩ := by
  rcases hx with rfl | hb
  · unfold shr
    rw [if_pos (show cl 0 = 0 by decide)]
    exact Nat.zero_le _
  have hbp := b52_pos
  have c1 : cl x = x := cl_id (by omega)
  have c2 : cl x' = x' := cl_id hx'
  have c3 : cl y = y := cl_id hy
  have e1 := shr_div2 (u := ⟨w, x, y⟩) (by simp only [c1]; omega)
  have e2 := shr_div2 (u := ⟨w', x', y⟩) (by simp only [c2]; omega)
  simp only [c1, c2, c3] at e1 e2
  rw [e1, e2]
  by_cases hm : mg y = 0
  · rw [if_pos hm, if_pos hm]; exact Nat.le_refl _
  rw [if_neg hm, if_neg hm]
  have hmo : moreOf (mg x) (mg y) = moreOf (mg x') (mg y) := by unfold moreOf; rw [mg_log hb, mg_log (show B52 ≤ x' by omega)]
  rw [hmo]
  have hmv : moreOf (mg x') (mg y) = (mg y).log2 + 2 := by unfold moreOf; rw [mg_log (show B52 ≤ x' by omega)]; omega
  have hex : Fl.ex x ≤ Fl.ex x' := by
    unfold Fl.ex
    have := Nat.div_le_div_right (c := B52) h
    omega
  have hvl : vl x ≤ vl x' := by
    rcases Nat.lt_or_ge x x' with q | q
    · exact Nat.le_of_lt (vl_mono q hx')
    · rw [show x = x' by omega]; exact Nat.le_refl _
  have hmg : mg x ≤ mg x' * 2 ^ (Fl.ex x' - Fl.ex x) := by
    unfold vl at hvl
    have : 2 ^ Fl.ex x' = 2 ^ (Fl.ex x' - Fl.ex x) * 2 ^ Fl.ex x := by rw [← Nat.pow_add]; congr 1; omega
    rw [this, ← Nat.mul_assoc] at hvl
    exact Nat.le_of_mul_le_mul_right hvl (Nat.two_pow_pos _)
  generalize hM : moreOf (mg x') (mg y) = M at *
  have hB : 0 < mg y := by omega
  have hq : 2 ^ 53 ≤ mg x' * 2 ^ M / mg y := by
    rw [Nat.le_div_iff_mul_le hB]
    have b1 : mg y < 2 ^ ((mg y).log2 + 1) := (Nat.log2_lt hm).1 (Nat.lt_succ_self _)
    have b2 := mg_ge (show B52 ≤ x' by omega)
    have b3 : 2 ^ 53 * mg y ≤ 2 ^ 53 * 2 ^ ((mg y).log2 + 1) := Nat.mul_le_mul_left _ (Nat.le_of_lt b1)
    have b4 : B52 * 2 ^ M ≤ mg x' * 2 ^ M := Nat.mul_le_mul_right _ b2
    have b5 : 2 ^ 53 * 2 ^ ((mg y).log2 + 1) = B52 * 2 ^ M := by
      rw [← b52, ← Nat.pow_add, ← Nat.pow_add]
      congr 1; omega
    omega
  have hst := stk_steps hB (Fl.ex x' - Fl.ex x) hq ((Fl.ex x : Int) - Fl.ex y - M - 1)
  rw [show (Fl.ex x : Int) - Fl.ex y - M - 1 + ((Fl.ex x' - Fl.ex x : Nat) : Int) = (Fl.ex x' : Int) - Fl.ex y - M - 1 by omega] at hst
  rw [← hst]
  refine nearest_mono (stk_mono ?_ hB) _
  rw [Nat.mul_right_comm]
  exact Nat.mul_le_mul_right _ hmg
/-! ### Twice -/
def dbl (x : Nat) : Nat := if x = 0 then 0 else x + B52
theorem mg_step {x : Nat} (h : B52 ≤ x) : mg (x + B52) = mg x ∧ Fl.ex (x + B52) = Fl.ex x + 1 := by
  have h2 : (x + B52) / B52 = x / B52 + 1 := Nat.add_div_right _ b52_pos
  have h3 : (x + B52) % B52 = x % B52 := Nat.add_mod_right _ _
  have hq : 1 ≤ x / B52 := (Nat.one_le_div_iff b52_pos).2 h
  unfold mg Fl.ex
  rw [if_neg (by omega), if_neg (by omega), h2, h3]
  exact ⟨rfl, by omega⟩
theorem two_mul_w {x : Nat} (hx : x = 0 ∨ (B52 ≤ x ∧ x + B52 < INF)) : floatBits .mul .f64 4611686018427387904 x = some (dbl x) := by
  show Ieee.double.mul TWO x = _
  unfold Ieee.Format.mul dbl
  rcases hx with rfl | ⟨h1, h2⟩
  · rw [if_pos rfl, read_pos (show 0 < INF by decide), read_two]
    rfl
  · have hb := b52_pos
    rw [if_neg (by omega), read_pos (show x < INF by omega), read_two]
    simp only [Ieee.Datum.product, Option.map_some]
    obtain ⟨s1, s2⟩ := mg_step h1
    have e := near_vl h2
    unfold near vl at e
    rw [s1, s2, nearest_shift] at e
    rw [show (false ^^ false) = false from rfl, write_number, Nat.mul_comm, ← b52, nearest_shift]
    refine congrArg some ?_
    rw [show -51 + (-1074 + (Fl.ex x : Int)) + ((52 : Nat) : Int) = -1074 - ((0 : Nat) : Int) + ((Fl.ex x + 1 : Nat) : Int) by omega]
    rw [b52]
    exact e
theorem shr_dbl {w w' : Int} {x y : Nat} (hx : x = 0 ∨ (B52 ≤ x ∧ x + B52 < INF)) (hy : y = 0 ∨ (B52 ≤ y ∧ y + B52 < INF)) : shr ⟨w, dbl x, dbl y⟩ = shr ⟨w', x, y⟩ := by
  have hb := b52_pos
  rcases hx with rfl | ⟨h1, h2⟩
  · unfold shr dbl
    rw [if_pos rfl]
    rfl
  have d1 : dbl x = x + B52 := by unfold dbl; rw [if_neg (by omega)]
  obtain ⟨s1, s2⟩ := mg_step h1
  have c1 : cl x = x := cl_id (by omega)
  have c2 : cl (x + B52) = x + B52 := cl_id h2
  rw [d1]
  have e1 := shr_div2 (u := ⟨w, x + B52, dbl y⟩) (by simp only [c2]; omega)
  have e2 := shr_div2 (u := ⟨w', x, y⟩) (by simp only [c1]; omega)
  simp only [c1, c2, s1, s2] at e1 e2
  rw [e1, e2]
  rcases hy with rfl | ⟨k1, k2⟩
  · have : dbl 0 = 0 := rfl
    rw [this]
    have hm : mg (cl 0) = 0 := by decide
    rw [if_pos hm, if_pos hm]
  · have d2 : dbl y = y + B52 := by unfold dbl; rw [if_neg (by omega)]
    obtain ⟨t1, t2⟩ := mg_step k1
    rw [d2, cl_id k2, cl_id (show y < INF by omega), t1, t2]
    split
    · rfl
    · refine congrArg (Ieee.double.nearest false _) ?_
      omega
/-! ### Whole numbers -/
theorem cvt_eq {n : Int} (h : 0 ≤ n) : FloatKind.nearest .f64 n = Ieee.double.nearest false n.toNat 0 := by
  have e : decide (n < 0) = false := by simp; omega
  have e2 : n.natAbs = n.toNat := by omega
  unfold FloatKind.nearest
  rw [e, e2]
  rfl
def W32 : Nat := 4751297606875873280
theorem cvt_w {n : Int} (h : 0 ≤ n) (h2 : n ≤ 4294967295) : (FloatKind.nearest .f64 n = 0 ∨ B52 ≤ FloatKind.nearest .f64 n) ∧ FloatKind.nearest .f64 n ≤ W32 := by
  rw [cvt_eq h]
  have hi : Ieee.double.nearest false 4294967296 0 = W32 := by decide
  have lo : B52 ≤ Ieee.double.nearest false 1 0 := by decide
  have m1 := nearest_mono (N := n.toNat) (M := 4294967296) (by omega) 0
  refine ⟨?_, by omega⟩
  rcases Nat.eq_zero_or_pos n.toNat with z | z
  · left; rw [z]; rfl
  · right
    have m2 := nearest_mono (N := 1) (M := n.toNat) (by omega) 0
    omega
theorem addF_w {a m : Nat} (ha : a ≤ W32) (hm : m ≤ W32) : addF a m ≤ W32 + B52 := by
  have hW : W32 + B52 < INF := by decide
  have hb : B52 ≤ W32 := by decide
  have v : ∀ z, z ≤ W32 → vl z ≤ vl W32 := fun z hz => by
    rcases Nat.lt_or_ge z W32 with q | q
    · exact Nat.le_of_lt (vl_mono q (by omega))
    · rw [show z = W32 by omega]; exact Nat.le_refl _
  have h1 := v a ha
  have h2 := v m hm
  have h3 := vl_step hb
  have h4 := near_vl hW
  rw [h3] at h4
  unfold addF
  rw [← h4]
  exact near_mono (by omega)
end Go.Proofs.Ytpjcicbohgcehaa.Ab
