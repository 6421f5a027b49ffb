/- Doubles, plainly: rounding. Doubles that are not negative: what a rung stands for; order; sums; halves. Doubles: what is cleaned; sums, halves, quotients of what is not negative. -/
import Derived.Test.YtnkcenafpigmbaaAx1
namespace Go.Proofs.Ytnkcenafpigmbaa.Fl
open Ieee
set_option linter.unusedVariables false
set_option linter.unusedSimpArgs false

/-- Half to even of n / 2 ^ d. -/
def rnd (n d : Nat) : Nat := n / 2 ^ d + (if 2 ^ d < 2 * (n % 2 ^ d) ∨ (2 ^ d = 2 * (n % 2 ^ d) ∧ n / 2 ^ d % 2 = 1) then 1 else 0)
theorem rnd_zero (n : Nat) : rnd n 0 = n := by
  unfold rnd
  rw [if_neg (by simp; omega)]
  simp
theorem rnd_small {n d : Nat} (h : 2 * n < 2 ^ d) : rnd n d = 0 := by
  unfold rnd
  rw [Nat.div_eq_of_lt (by omega), Nat.mod_eq_of_lt (by omega), if_neg (by omega)]
theorem log2_lt2 {n : Nat} (h : n ≠ 0) : 2 * n < 2 ^ (n.log2 + 2) := by
  have := (Nat.log2_lt h).1 (Nat.lt_succ_self n.log2)
  rw [Nat.pow_succ, Nat.pow_succ]
  rw [Nat.succ_eq_add_one, Nat.pow_succ] at this
  omega
theorem cut_eq (s : Bool) (n d : Nat) : Toward.even.cut s n d = rnd n d := by
  unfold Toward.cut
  simp only [Nat.one_shiftLeft]
  have key : ∀ g : Nat, n / 2 ^ g + (decide (2 ^ g < 2 * (n % 2 ^ g)) || (2 ^ g == 2 * (n % 2 ^ g) && n / 2 ^ g % 2 == 1)).toNat = rnd n g := fun g => by
    unfold rnd
    congr 1
    by_cases h1 : 2 ^ g < 2 * (n % 2 ^ g)
    · rw [if_pos (.inl h1)]; simp [h1]
    · by_cases h2 : 2 ^ g = 2 * (n % 2 ^ g) ∧ n / 2 ^ g % 2 = 1
      · rw [if_pos (.inr h2)]
        rw [decide_eq_false h1, beq_iff_eq.2 h2.1, beq_iff_eq.2 h2.2]; rfl
      · rw [if_neg (by rintro (h | h); exact h1 h; exact h2 h), decide_eq_false h1]
        have : (2 ^ g == 2 * (n % 2 ^ g) && n / 2 ^ g % 2 == 1) = false := by
          rw [Bool.and_eq_false_iff]
          by_cases h3 : 2 ^ g = 2 * (n % 2 ^ g)
          · right; simpa using fun h => h2 ⟨h3, h⟩
          · left; simpa using h3
        rw [this]; rfl
  rw [key]
  rcases Nat.lt_or_ge d (n.log2 + 2) with h | h
  · rw [Nat.min_eq_left (by omega)]
  · rw [Nat.min_eq_right h]
    by_cases h0 : n = 0
    · subst h0
      unfold rnd
      have p1 := Nat.two_pow_pos d
      have p2 := Nat.two_pow_pos (Nat.log2 0 + 2)
      simp only [Nat.zero_div, Nat.zero_mod, Nat.mul_zero]
      rw [if_neg (by omega), if_neg (by omega)]
    · have h1 := log2_lt2 h0
      have h2 : 2 ^ (n.log2 + 2) ≤ 2 ^ d := Nat.pow_le_pow_right (by decide) h
      rw [rnd_small h1, rnd_small (by omega)]
theorem rnd_shift (n d k : Nat) : rnd (n * 2 ^ k) (d + k) = rnd n d := by
  unfold rnd
  have hp := Nat.two_pow_pos k
  rw [Nat.pow_add, Nat.mul_div_mul_right _ _ hp, Nat.mul_mod_mul_right]
  have e : 2 * (n % 2 ^ d * 2 ^ k) = (2 * (n % 2 ^ d)) * 2 ^ k := by rw [Nat.mul_assoc]
  rw [e]
  have h1 : (2 ^ d * 2 ^ k < 2 * (n % 2 ^ d) * 2 ^ k) ↔ 2 ^ d < 2 * (n % 2 ^ d) := Nat.mul_lt_mul_right hp
  have h2 : (2 ^ d * 2 ^ k = 2 * (n % 2 ^ d) * 2 ^ k) ↔ 2 ^ d = 2 * (n % 2 ^ d) := ⟨fun h => Nat.eq_of_mul_eq_mul_right hp h, fun h => congrArg (· * 2 ^ k) h⟩
  simp only [h1, h2]
theorem rnd_exact (n d : Nat) : rnd (n * 2 ^ d) d = n := by
  have := rnd_shift n 0 d
  rw [Nat.zero_add, rnd_zero] at this
  exact this
/-- What is rounded rises with what it is rounded of. -/
theorem rnd_mono {n m d : Nat} (h : n ≤ m) : rnd n d ≤ rnd m d := by
  have hp := Nat.two_pow_pos d
  unfold rnd
  have hn := Nat.div_add_mod n (2 ^ d)
  have hm := Nat.div_add_mod m (2 ^ d)
  have hnl := Nat.mod_lt n hp
  have hml := Nat.mod_lt m hp
  have hq : n / 2 ^ d ≤ m / 2 ^ d := Nat.div_le_div_right h
  rcases Nat.lt_or_ge (n / 2 ^ d) (m / 2 ^ d) with q | q
  · split <;> omega
  · have e : n / 2 ^ d = m / 2 ^ d := by omega
    rw [e] at hn ⊢
    split
    · rename_i c
      split
      · omega
      · rename_i c2
        exfalso
        apply c2
        rcases c with c | ⟨c, c'⟩
        · left; omega
        · rcases Nat.lt_or_ge (2 ^ d) (2 * (m % 2 ^ d)) with g | g
          · exact .inl g
          · exact .inr ⟨by omega, c'⟩
    · split <;> omega
theorem log2_shift {n : Nat} (h : n ≠ 0) (k : Nat) : (n * 2 ^ k).log2 = n.log2 + k := by
  have h1 : n * 2 ^ k ≠ 0 := by have := Nat.two_pow_pos k; exact Nat.mul_ne_zero h (by omega)
  have l1 : 2 ^ n.log2 ≤ n := Nat.log2_self_le h
  have l2 : n < 2 ^ (n.log2 + 1) := (Nat.log2_lt h).1 (Nat.lt_succ_self _)
  have hp := Nat.two_pow_pos k
  have a : n.log2 + k ≤ (n * 2 ^ k).log2 := (Nat.le_log2 h1).2 (by rw [Nat.pow_add]; exact Nat.mul_le_mul_right _ l1)
  have b : (n * 2 ^ k).log2 < n.log2 + k + 1 := (Nat.log2_lt h1).2 (by rw [show n.log2 + k + 1 = (n.log2 + 1) + k by omega, Nat.pow_add]; exact (Nat.mul_lt_mul_right hp).2 l2)
  omega
/-- The word of a number depends on the number alone. -/
theorem nearest_shift (s : Bool) (m : Nat) (p : Int) (k : Nat) : double.nearest s (m * 2 ^ k) p = double.nearest s m (p + k) := by
  unfold Format.nearest
  by_cases h0 : m = 0
  · subst h0; simp
  · have h1 : m * 2 ^ k ≠ 0 := by have := Nat.two_pow_pos k; exact Nat.mul_ne_zero h0 (by omega)
    rw [if_neg h1, if_neg h0, log2_shift h0]
    simp only
    have e : p + ((m.log2 + k : Nat) : Int) - double.fractionBits = p + k + m.log2 - double.fractionBits := by omega
    rw [e]
    generalize max (p + k + m.log2 - double.fractionBits) double.leastPlace = last
    congr 2
    rw [cut_eq, cut_eq, Nat.shiftLeft_eq, Nat.shiftLeft_eq]
    congr 1
    rcases Int.lt_or_le (p + k) last with h | h
    · -- dropped in both
      have a1 : (p + k - last).toNat = 0 := by omega
      have a2 : (p - last).toNat = 0 := by omega
      rw [a1, a2, Nat.pow_zero, Nat.mul_one, Nat.mul_one]
      have a3 : (last - p).toNat = (last - (p + k)).toNat + k := by omega
      rw [a3, rnd_shift]
    · have a1 : (last - (p + k)).toNat = 0 := by omega
      rw [a1, rnd_zero]
      rcases Int.lt_or_le p last with h2 | h2
      · have a2 : (p - last).toNat = 0 := by omega
        rw [a2, Nat.pow_zero, Nat.mul_one]
        have a3 : k = (p + k - last).toNat + (last - p).toNat := by omega
        generalize (last - p).toNat = d at *
        generalize (p + k - last).toNat = e at *
        subst a3
        rw [Nat.pow_add, ← Nat.mul_assoc, rnd_exact]
      · have a3 : (last - p).toNat = 0 := by omega
        rw [a3, rnd_zero]
        have a4 : (p + k - last).toNat = k + (p - last).toNat := by omega
        rw [a4, Nat.pow_add, Nat.mul_assoc]
end Go.Proofs.Ytnkcenafpigmbaa.Fl

namespace Go.Proofs.Ytnkcenafpigmbaa.Fl
open Ieee
set_option linter.unusedVariables false
set_option linter.unusedSimpArgs false

def B52 : Nat := 4503599627370496
def INF : Nat := 9218868437227405312
theorem b52 : (2 : Nat) ^ 52 = B52 := by decide
theorem binade_eq : double.binade = B52 := by decide
theorem inf_eq : double.infRung = INF := by decide
theorem least_eq : double.leastPlace = -1074 := by decide
theorem frac_eq : double.fractionBits = 52 := rfl
theorem sign_eq : double.signWeight = 9223372036854775808 := by decide
theorem word_pos (r : Nat) : double.word false r = r := rfl
theorem b52_pos : 0 < B52 := by decide
/-- N / 2 ^ d, in units of the least number, rounded. -/
def near (N d : Nat) : Nat := double.nearest false N (-1074 - (d : Int))
theorem near_eq (N d : Nat) : near N d = min ((N.log2 - (d + 52)) * B52 + rnd N (N.log2 - (d + 52) + d)) INF := by
  unfold near Format.nearest
  by_cases h0 : N = 0
  · subst h0
    rw [if_pos rfl]
    have : Nat.log2 0 = 0 := by decide
    rw [this]
    have h1 : 0 - (d + 52) = 0 := by omega
    rw [h1, rnd_small (by have := Nat.two_pow_pos (0 + d); omega), word_pos, Nat.zero_mul]
    exact (Nat.zero_min _).symm
  · rw [if_neg h0]
    simp only [frac_eq, least_eq, binade_eq, inf_eq]
    have e1 : max (-1074 - (d : Int) + (N.log2 : Int) - (52 : Nat)) (-1074) = -1074 + ((N.log2 - (d + 52) : Nat) : Int) := by omega
    rw [e1, cut_eq]
    have e2 : (-1074 - (d : Int) - (-1074 + ((N.log2 - (d + 52) : Nat) : Int))).toNat = 0 := by omega
    have e3 : (-1074 + ((N.log2 - (d + 52) : Nat) : Int) - (-1074 - (d : Int))).toNat = N.log2 - (d + 52) + d := by omega
    have e4 : (-1074 + ((N.log2 - (d + 52) : Nat) : Int) - -1074).toNat = N.log2 - (d + 52) := by omega
    rw [e2, e3, e4, Nat.shiftLeft_zero, word_pos]
theorem near_zero (d : Nat) : near 0 d = 0 := by
  unfold near Format.nearest
  rw [if_pos rfl, word_pos]
theorem near_shift (N d k : Nat) : near (N * 2 ^ k) (d + k) = near N d := by
  unfold near
  rw [nearest_shift]
  congr 1; omega
theorem near_le (N d : Nat) : near N d ≤ INF := by rw [near_eq]; exact Nat.min_le_right _ _
theorem near_mono {N M d : Nat} (h : N ≤ M) : near N d ≤ near M d := by
  by_cases h0 : N = 0
  · subst h0; rw [near_zero]; exact Nat.zero_le _
  have h1 : M ≠ 0 := by omega
  rw [near_eq, near_eq]
  have hl : N.log2 ≤ M.log2 := (Nat.le_log2 h1).2 (Nat.le_trans (Nat.log2_self_le h0) h)
  have key : (N.log2 - (d + 52)) * B52 + rnd N (N.log2 - (d + 52) + d) ≤ (M.log2 - (d + 52)) * B52 + rnd M (M.log2 - (d + 52) + d) := by
    rcases Nat.lt_or_ge (N.log2 - (d + 52)) (M.log2 - (d + 52)) with q | q
    · -- above a whole binade
      have u1 : N < 2 ^ (N.log2 + 1) := (Nat.log2_lt h0).1 (Nat.lt_succ_self _)
      have u2 : 2 ^ M.log2 ≤ M := Nat.log2_self_le h1
      generalize hLn : N.log2 - (d + 52) = Ln at *
      generalize hLm : M.log2 - (d + 52) = Lm at *
      have a1 : rnd N (Ln + d) ≤ 2 * B52 := by
        have e : N ≤ 2 ^ 53 * 2 ^ (Ln + d) := by
          rw [← Nat.pow_add]
          refine Nat.le_trans (Nat.le_of_lt u1) (Nat.pow_le_pow_right (by decide) ?_)
          omega
        have := rnd_mono (d := Ln + d) e
        rw [rnd_exact] at this
        have e2 : (2 : Nat) ^ 53 = 2 * B52 := by decide
        omega
      have a2 : B52 ≤ rnd M (Lm + d) := by
        have e : 2 ^ 52 * 2 ^ (Lm + d) ≤ M := by
          rw [← Nat.pow_add]
          refine Nat.le_trans (Nat.pow_le_pow_right (by decide) ?_) u2
          omega
        have := rnd_mono (d := Lm + d) e
        rw [rnd_exact, b52] at this
        exact this
      have a3 : (Ln + 1) * B52 ≤ Lm * B52 := Nat.mul_le_mul_right _ q
      rw [Nat.add_mul, Nat.one_mul] at a3
      omega
    · have e : N.log2 - (d + 52) = M.log2 - (d + 52) := by omega
      rw [e]
      exact Nat.add_le_add_left (rnd_mono h) _
  omega
/-! ### What a rung stands for -/
def mg (x : Nat) : Nat := if x < B52 then x else B52 + x % B52
def ex (x : Nat) : Nat := x / B52 - 1
theorem ex_small {x : Nat} (h : x < B52) : ex x = 0 := by unfold ex; rw [Nat.div_eq_of_lt h]
def vl (x : Nat) : Nat := mg x * 2 ^ ex x
theorem mg_lt (x : Nat) : mg x < 2 * B52 := by
  unfold mg
  have := Nat.mod_lt x b52_pos
  split <;> omega
theorem read_pos {x : Nat} (h : x < INF) : double.read x = .number false (mg x) (-1074 + (ex x : Int)) := by
  have hB : B52 = 4503599627370496 := rfl
  have hI : INF = 9218868437227405312 := rfl
  unfold Format.read
  simp only [sign_eq, binade_eq, inf_eq, least_eq]
  have e1 : x / 9223372036854775808 % 2 = 0 := by omega
  have e2 : x % 9223372036854775808 = x := by omega
  rw [e1, e2]
  by_cases h1 : x < B52
  · rw [if_pos h1, ex_small h1]
    unfold mg
    rw [if_pos h1]
    rfl
  · rw [if_neg h1, if_pos h]
    unfold mg ex
    rw [if_neg h1]
    rfl
theorem read_inf : double.read INF = .infinity false := by decide
theorem log2_of {n k : Nat} (h1 : 2 ^ k ≤ n) (h2 : n < 2 ^ (k + 1)) : n.log2 = k := by
  have hn : n ≠ 0 := by have := Nat.two_pow_pos k; omega
  have a := (Nat.le_log2 hn).2 h1
  have b := (Nat.log2_lt hn).2 h2
  omega
theorem near_vl {x : Nat} (h : x < INF) : near (vl x) 0 = x := by
  have hB : B52 = 4503599627370496 := rfl
  have hI : INF = 9218868437227405312 := rfl
  have e : near (vl x) 0 = double.nearest false (mg x) (-1074 + (ex x : Int)) := by
    unfold near vl
    rw [nearest_shift]; rfl
  rw [e]
  unfold Format.nearest
  by_cases h0 : mg x = 0
  · rw [if_pos h0]
    unfold mg at h0
    split at h0
    · rw [h0, word_pos]
    · have := b52_pos; omega
  rw [if_neg h0]
  simp only [frac_eq, least_eq, binade_eq, inf_eq]
  by_cases h1 : x < B52
  · have hm : mg x = x := by unfold mg; rw [if_pos h1]
    rw [ex_small h1]
    have hl : (mg x).log2 < 52 := (Nat.log2_lt h0).2 (by rw [hm, b52]; exact h1)
    have e1 : max (-1074 + ((0 : Nat) : Int) + ((mg x).log2 : Int) - (52 : Nat)) (-1074) = -1074 := by omega
    rw [e1, cut_eq]
    have e2 : (-1074 + ((0 : Nat) : Int) - -1074).toNat = 0 := by decide
    have e3 : (-1074 - (-1074 + ((0 : Nat) : Int))).toNat = 0 := by decide
    rw [e2, e3, Nat.shiftLeft_zero, rnd_zero, hm, word_pos]
    have e4 : (-1074 - -1074 : Int).toNat = 0 := by decide
    rw [e4, Nat.zero_mul, Nat.zero_add]
    exact Nat.min_eq_left (Nat.le_of_lt h)
  · have hm : mg x = B52 + x % B52 := by unfold mg; rw [if_neg h1]
    have hl : (mg x).log2 = 52 := log2_of (by rw [b52, hm]; omega) (by rw [hm, show (2 : Nat) ^ (52 + 1) = 2 * B52 from by decide]; have := Nat.mod_lt x b52_pos; omega)
    rw [hl]
    have e1 : max (-1074 + (ex x : Int) + ((52 : Nat) : Int) - ((52 : Nat) : Int)) (-1074) = -1074 + (ex x : Int) := by omega
    rw [e1, cut_eq]
    have e2 : (-1074 + (ex x : Int) - (-1074 + (ex x : Int))).toNat = 0 := by omega
    have e4 : (-1074 + (ex x : Int) - -1074).toNat = ex x := by omega
    rw [e2, e4, Nat.shiftLeft_zero, rnd_zero, hm, word_pos]
    unfold ex
    have hd := Nat.div_add_mod x B52
    have hq : 1 ≤ x / B52 := (Nat.one_le_div_iff (by decide)).2 (by omega)
    have : (x / B52 - 1) * B52 + B52 = B52 * (x / B52) := by
      obtain ⟨q, hq2⟩ : ∃ q, x / B52 = q + 1 := ⟨x / B52 - 1, by omega⟩
      rw [hq2, Nat.add_sub_cancel, Nat.mul_succ, Nat.mul_comm]
    clear hB hI hq e2 e4 e1 hl hm h0 e h1
    generalize B52 * (x / B52) = P at *
    generalize (x / B52 - 1) * B52 = Q at *
    generalize x % B52 = M at *
    generalize B52 = b at *
    generalize INF = i at *
    omega
/-- Greater rungs are greater numbers. -/
theorem vl_mono {x y : Nat} (h : x < y) (hy : y < INF) : vl x < vl y := by
  rcases Nat.lt_or_ge (vl x) (vl y) with q | q
  · exact q
  · have := near_mono (d := 0) q
    rw [near_vl hy, near_vl (by omega)] at this
    omega
theorem vl_zero : vl 0 = 0 := by decide
theorem cmp_nat_int {a b : Nat} : compare (a : Int) (b : Int) = compare a b := by
  rcases Nat.lt_trichotomy a b with h | h | h
  · rw [Nat.compare_eq_lt.2 h, (Int.compare_eq_lt).2 (by omega)]
  · subst h; simp
  · rw [Nat.compare_eq_gt.2 h, (Int.compare_eq_gt).2 (by omega)]
/-- How finite ones stand to each other. -/
theorem order_fin {x y : Nat} (hx : x < INF) (hy : y < INF) : double.order x y = some (compare x y) := by
  unfold Format.order
  rw [read_pos hx, read_pos hy]
  simp only [Datum.order]
  congr 1
  have hs : ∀ (m u : Nat), signed false m u = ((m * 2 ^ u : Nat) : Int) := fun m u => by unfold signed; rw [Nat.shiftLeft_eq]; rfl
  rw [hs, hs, cmp_nat_int]
  have hmin : ∃ b : Nat, min (-1074 + (ex x : Int)) (-1074 + (ex y : Int)) = -1074 + (b : Int) ∧ b ≤ ex x ∧ b ≤ ex y := ⟨min (ex x) (ex y), by omega, by omega, by omega⟩
  obtain ⟨b, hb, b1, b2⟩ := hmin
  rw [hb]
  have e1 : (-1074 + (ex x : Int) - (-1074 + (b : Int))).toNat = ex x - b := by omega
  have e2 : (-1074 + (ex y : Int) - (-1074 + (b : Int))).toNat = ex y - b := by omega
  rw [e1, e2]
  have v : ∀ z : Nat, b ≤ ex z → vl z = mg z * 2 ^ (ex z - b) * 2 ^ b := fun z hz => by
    unfold vl
    rw [Nat.mul_assoc, ← Nat.pow_add]
    congr 2; omega
  have vx := v x b1
  have vy := v y b2
  have hp := Nat.two_pow_pos b
  rcases Nat.lt_trichotomy x y with h | h | h
  · rw [Nat.compare_eq_lt.2 h, Nat.compare_eq_lt.2]
    have := vl_mono h hy
    rw [vx, vy] at this
    exact (Nat.mul_lt_mul_right hp).1 this
  · subst h; rw [Nat.compare_eq_eq.2 rfl, Nat.compare_eq_eq.2 rfl]
  · rw [Nat.compare_eq_gt.2 h, Nat.compare_eq_gt.2]
    have := vl_mono h hx
    rw [vx, vy] at this
    exact (Nat.mul_lt_mul_right hp).1 this
end Go.Proofs.Ytnkcenafpigmbaa.Fl

namespace Go.Proofs.Ytnkcenafpigmbaa.Fl
open Ieee
set_option linter.unusedVariables false
set_option linter.unusedSimpArgs false

def MAX : Nat := 9218868437227405311
theorem order_inf {x : Nat} (h : x < INF) : double.order x INF = some .lt ∧ double.order INF x = some .gt := by
  unfold Format.order
  rw [read_pos h, read_inf]
  exact ⟨rfl, rfl⟩
theorem order_inf2 : double.order INF INF = some .eq := by decide
theorem order_le {x y : Nat} (hx : x ≤ INF) (hy : y ≤ INF) : double.order x y = some (compare x y) := by
  rcases Nat.lt_or_ge x INF with h | h
  · rcases Nat.lt_or_ge y INF with h2 | h2
    · exact order_fin h h2
    · have : y = INF := by omega
      subst this
      rw [(order_inf h).1, Nat.compare_eq_lt.2 h]
  · have : x = INF := by omega
    subst this
    rcases Nat.lt_or_ge y INF with h2 | h2
    · rw [(order_inf h2).2, Nat.compare_eq_gt.2 h2]
    · have : y = INF := by omega
      subst this
      rw [order_inf2, Nat.compare_eq_eq.2 rfl]
/-- The kinds of words. -/
theorem read_cases {x : Nat} (h : x < 18446744073709551616) : x < INF ∨ x = INF ∨ (∃ s t, double.read x = .nan s t) ∨ (∃ m p, double.read x = .number true m p) ∨ double.read x = .infinity true := by
  have hI : INF = 9218868437227405312 := rfl
  rcases Nat.lt_or_ge x INF with h1 | h1
  · exact .inl h1
  · right
    by_cases h2 : x = INF
    · exact .inl h2
    · right
      unfold Format.read
      simp only [sign_eq, binade_eq, inf_eq]
      rcases Nat.lt_or_ge x 9223372036854775808 with h3 | h3
      · have e1 : x / 9223372036854775808 % 2 = 0 := by omega
        have e2 : x % 9223372036854775808 = x := by omega
        rw [e1, e2]
        have hb : B52 < INF := by decide
        rw [if_neg (by omega), if_neg (by omega), if_neg h2]
        exact .inl ⟨_, _, rfl⟩
      · have e1 : x / 9223372036854775808 % 2 = 1 := by omega
        rw [e1]
        generalize x % 9223372036854775808 = r
        split
        · exact .inr (.inl ⟨_, _, rfl⟩)
        · split
          · exact .inr (.inl ⟨_, _, rfl⟩)
          · split
            · exact .inr (.inr rfl)
            · exact .inl ⟨_, _, rfl⟩
theorem order_nan {x y : Nat} {s : Bool} {t : Nat} (h : double.read x = .nan s t) : double.order x y = none := by
  unfold Format.order; rw [h]; rfl
theorem signed_neg (m u : Nat) : signed true m u = -((m * 2 ^ u : Nat) : Int) := by unfold signed; rw [Nat.shiftLeft_eq]; rfl
theorem signed_pos (m u : Nat) : signed false m u = ((m * 2 ^ u : Nat) : Int) := by unfold signed; rw [Nat.shiftLeft_eq]; rfl
theorem order_neg {x y : Nat} {m : Nat} {p : Int} (h : double.read x = .number true m p) (hy : y < INF) : double.order x y = some .lt ∨ double.order x y = some .eq := by
  unfold Format.order
  rw [h, read_pos hy]
  simp only [Datum.order]
  rw [signed_neg, signed_pos]
  generalize m * _ = a
  generalize mg y * _ = b
  rcases Int.lt_trichotomy (-(a : Int)) b with q | q | q
  · left; rw [Int.compare_eq_lt.2 q]
  · right; rw [Int.compare_eq_eq.2 q]
  · omega
theorem order_neg_self {x : Nat} {m : Nat} {p : Int} (h : double.read x = .number true m p) : double.order x x = some .eq := by
  unfold Format.order
  rw [h]
  simp only [Datum.order]
  rw [Int.compare_eq_eq.2 rfl]
theorem order_ninf {x y : Nat} (h : double.read x = .infinity true) (hy : y < INF) : double.order x y = some .lt := by
  unfold Format.order
  rw [h, read_pos hy]; rfl
theorem order_ninf_self {x : Nat} (h : double.read x = .infinity true) : double.order x x = some .eq := by
  unfold Format.order
  rw [h]; rfl
/-- What is cleaned. -/
def cl (x : Nat) : Nat := if x < INF then x else if x = INF then MAX else 0
theorem cl_lt (x : Nat) : cl x < INF := by
  unfold cl
  have h1 : MAX < INF := by decide
  have h2 : 0 < INF := by decide
  split
  · assumption
  · split
    · exact h1
    · exact h2
theorem cl_id {x : Nat} (h : x < INF) : cl x = x := by unfold cl; rw [if_pos h]
theorem cl_cl (x : Nat) : cl (cl x) = cl x := cl_id (cl_lt x)
/-- The same by the order alone. -/
theorem cl_order {x : Nat} (h : x < 18446744073709551616) :
    (double.order x MAX = some .gt ∧ cl x = MAX ∧ double.order x x = some .eq ∧ double.order x 0 = some .gt) ∨ (double.order x MAX ≠ some .gt ∧ double.order x 0 = some .gt ∧ cl x = x ∧ double.order x x = some .eq) ∨ (double.order x MAX ≠ some .gt ∧ double.order x 0 ≠ some .gt ∧ cl x = 0 ∧ (double.order x x ≠ some .eq ∨ double.order x 0 = some .lt ∨ double.order x 0 = some .eq)) := by
  have hM : MAX < INF := by decide
  have hM1 : MAX + 1 = INF := by decide
  have h0 : 0 < INF := by decide
  rcases read_cases h with c | c | ⟨s, t, c⟩ | ⟨m, p, c⟩ | c
  · rcases Nat.eq_zero_or_pos x with z | z
    · subst z
      right; right
      rw [order_fin h0 hM, order_fin h0 h0]
      refine ⟨by rw [Nat.compare_eq_lt.2 (by decide)]; simp, by rw [Nat.compare_eq_eq.2 rfl]; simp, rfl, .inr (.inr (by rw [Nat.compare_eq_eq.2 rfl]))⟩
    · right; left
      rw [order_fin c hM, order_fin c h0, order_fin c c, cl_id c]
      refine ⟨fun h => ?_, by rw [Nat.compare_eq_gt.2 z], rfl, by rw [Nat.compare_eq_eq.2 rfl]⟩
      have h2 := Option.some.inj h
      rw [Nat.compare_eq_gt] at h2
      omega
  · subst c
    left
    exact ⟨(order_inf hM).2, by unfold cl; rw [if_neg (Nat.lt_irrefl _), if_pos rfl], order_inf2, (order_inf h0).2⟩
  · right; right
    rw [order_nan c, order_nan c, order_nan c]
    have : ¬ x < INF := fun q => by rw [read_pos q] at c; cases c
    have h2 : ¬ x = INF := fun q => by rw [q, read_inf] at c; cases c
    refine ⟨by simp, by simp, by unfold cl; rw [if_neg this, if_neg h2], .inl (by simp)⟩
  · right; right
    have : ¬ x < INF := fun q => by rw [read_pos q] at c; cases c
    have h2 : ¬ x = INF := fun q => by rw [q, read_inf] at c; cases c
    have k1 := order_neg c hM
    have k2 := order_neg c h0
    refine ⟨by rcases k1 with k | k <;> rw [k] <;> simp, by rcases k2 with k | k <;> rw [k] <;> simp, by unfold cl; rw [if_neg this, if_neg h2], .inr k2⟩
  · right; right
    have : ¬ x < INF := fun q => by rw [read_pos q] at c; cases c
    have h2 : ¬ x = INF := fun q => by rw [q, read_inf] at c; cases c
    rw [order_ninf c hM, order_ninf c h0]
    refine ⟨by simp, by simp, by unfold cl; rw [if_neg this, if_neg h2], .inr (.inl rfl)⟩
/-! ### Sums -/
theorem add_fin {x y : Nat} (hx : x < INF) (hy : y < INF) : double.add x y = some (near (vl x + vl y) 0) := by
  unfold Format.add
  rw [read_pos hx, read_pos hy]
  simp only [Datum.sum, Option.map_some]
  rw [signed_pos, signed_pos]
  have hmin : ∃ b : Nat, min (-1074 + (ex x : Int)) (-1074 + (ex y : Int)) = -1074 + (b : Int) ∧ b ≤ ex x ∧ b ≤ ex y := ⟨min (ex x) (ex y), by omega, by omega, by omega⟩
  obtain ⟨b, hb, b1, b2⟩ := hmin
  rw [hb]
  have e1 : (-1074 + (ex x : Int) - (-1074 + (b : Int))).toNat = ex x - b := by omega
  have e2 : (-1074 + (ex y : Int) - (-1074 + (b : Int))).toNat = ex y - b := by omega
  rw [e1, e2]
  have v : ∀ z : Nat, b ≤ ex z → vl z = mg z * 2 ^ (ex z - b) * 2 ^ b := fun z hz => by
    unfold vl
    rw [Nat.mul_assoc, ← Nat.pow_add]
    congr 2; omega
  rw [v x b1, v y b2, ← Nat.add_mul]
  generalize mg x * 2 ^ (ex x - b) = p
  generalize mg y * 2 ^ (ex y - b) = q
  have e3 : ((p : Int) + (q : Int)).natAbs = p + q := by omega
  have e4 : (if (p : Int) + (q : Int) = 0 then (false && false) else decide ((p : Int) + (q : Int) < 0)) = false := by
    split
    · rfl
    · rw [decide_eq_false_iff_not]; omega
  rw [e3, e4]
  unfold near
  rw [nearest_shift]
  rfl
/-! ### Halves -/
def hv (x : Nat) : Nat := near (vl x) 1
theorem hv_eq (x : Nat) : hv x = double.nearest false (mg x) (-1074 + (ex x : Int) - 1) := by
  unfold hv near vl
  rw [nearest_shift]
  congr 1; omega
def TWO : Nat := 4611686018427387904
def HALF : Nat := 4602678819172646912
theorem read_two : double.read TWO = .number false B52 (-51) := by decide
theorem read_half : double.read HALF = .number false B52 (-53) := by decide
theorem half_mul {x : Nat} (hx : x < INF) : double.mul x HALF = some (hv x) := by
  unfold Format.mul
  rw [read_pos hx, read_half]
  simp only [Datum.product, Option.map_some]
  rw [hv_eq, ← b52]
  have := nearest_shift false (mg x) (-1074 + (ex x : Int) + -53) 52
  show some (double.nearest (false ^^ false) (mg x * 2 ^ 52) (-1074 + (ex x : Int) + -53)) = _
  rw [show (false ^^ false) = false from rfl, this]
  congr 2; omega
theorem half_div {x : Nat} (hx : x < INF) : double.div x TWO = some (hv x) := by
  unfold Format.div
  rw [read_pos hx, read_two]
  simp only [Datum.quotient]
  rw [if_neg (by decide)]
  simp only [Option.map_some]
  have hl : B52.log2 = 52 := by decide
  have hm : (mg x).log2 ≤ 52 := by
    rcases Nat.eq_zero_or_pos (mg x) with z | z
    · rw [z]; decide
    · have := (Nat.log2_lt (show mg x ≠ 0 by omega)).2 (show mg x < 2 ^ 53 by have := mg_lt x; rw [show (2 : Nat) ^ 53 = 2 * B52 from by decide]; exact this)
      omega
  have hmore : ∃ k, double.fractionBits + 2 + B52.log2 - (mg x).log2 = k + 52 := ⟨54 - (mg x).log2, by rw [frac_eq, hl]; omega⟩
  obtain ⟨k, hk⟩ := hmore
  rw [hk, Nat.shiftLeft_eq, Nat.pow_add, b52, ← Nat.mul_assoc, Nat.mul_div_cancel _ b52_pos, Nat.mul_mod_left]
  show some (double.nearest (false ^^ false) (2 * (mg x * 2 ^ k) + 0) (-1074 + (ex x : Int) - -51 - ((k + 52 : Nat) : Int) - 1)) = _
  rw [show (false ^^ false) = false from rfl, Nat.add_zero, hv_eq]
  have e : 2 * (mg x * 2 ^ k) = mg x * 2 ^ (k + 1) := by rw [Nat.pow_succ, Nat.mul_comm 2, Nat.mul_assoc]
  rw [e, nearest_shift]
  congr 2; omega
theorem hv_le {x : Nat} (h : x < INF) : hv x ≤ x := by
  have := near_vl h
  rw [← near_shift _ 0 1] at this
  unfold hv
  have h2 := near_mono (d := 1) (show vl x ≤ vl x * 2 ^ 1 by omega)
  rw [Nat.zero_add] at this
  omega
theorem hv_lt {x : Nat} (h : x < INF) : hv x < INF := Nat.lt_of_le_of_lt (hv_le h) h
theorem hv_zero : hv 0 = 0 := by unfold hv; rw [vl_zero, near_zero]
theorem vl_step {x : Nat} (h : B52 ≤ x) : vl (x + B52) = 2 * vl x := by
  have h2 : (x + B52) / B52 = x / B52 + 1 := Nat.add_div_right _ b52_pos
  have h3 : (x + B52) % B52 = x % B52 := Nat.add_mod_right _ _
  have hq : 1 ≤ x / B52 := (Nat.one_le_div_iff b52_pos).2 h
  unfold vl mg ex
  rw [if_neg (by omega), if_neg (by omega), h2, h3]
  obtain ⟨q, hq2⟩ : ∃ q, x / B52 = q + 1 := ⟨x / B52 - 1, by omega⟩
  rw [hq2, Nat.add_sub_cancel, Nat.add_sub_cancel, Nat.pow_succ, ← Nat.mul_assoc, Nat.mul_comm]
/-- A normal one, halved, is a binade lower. -/
theorem hv_normal {x : Nat} (h : B52 ≤ x) (h2 : x + B52 < INF) : hv (x + B52) = x := by
  unfold hv
  rw [vl_step h, Nat.mul_comm]
  have := near_shift (vl x) 0 1
  rw [Nat.pow_one, Nat.zero_add] at this
  rw [this]
  exact near_vl (by omega)
/-- Times one. -/
def ONE : Nat := 4607182418800017408
theorem read_one : double.read ONE = .number false B52 (-52) := by decide
theorem one_mul {x : Nat} (hx : x < INF) : double.mul ONE x = some x := by
  unfold Format.mul
  rw [read_pos hx, read_one]
  simp only [Datum.product, Option.map_some]
  show some (double.nearest (false ^^ false) (B52 * mg x) (-52 + (-1074 + (ex x : Int)))) = _
  have e : near (vl x) 0 = double.nearest false (mg x) (-1074 + (ex x : Int)) := by
    unfold near vl
    rw [nearest_shift]; rfl
  rw [near_vl hx] at e
  rw [show (false ^^ false) = false from rfl, Nat.mul_comm, ← b52, nearest_shift]
  refine congrArg some ?_
  rw [show -52 + (-1074 + (ex x : Int)) + ((52 : Nat) : Int) = -1074 + (ex x : Int) by omega]
  exact e.symm
/-! ### Quotients -/
theorem div_some {x y : Nat} (hx : x < INF) (hy : y < INF) (h0 : x ≠ 0) : ∃ r, double.div x y = some r := by
  unfold Format.div
  rw [read_pos hx, read_pos hy]
  simp only [Datum.quotient]
  have hm : mg x ≠ 0 := by
    unfold mg
    have := b52_pos
    split <;> omega
  split
  · first | exact ⟨_, rfl⟩ | (rw [if_neg hm]; exact ⟨_, rfl⟩)
  · exact ⟨_, rfl⟩
end Go.Proofs.Ytnkcenafpigmbaa.Fl
