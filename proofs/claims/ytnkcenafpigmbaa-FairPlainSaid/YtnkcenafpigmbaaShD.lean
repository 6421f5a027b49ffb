/- share: Frexp, Ldexp, Fade. -/
import Derived.Test.YtnkcenafpigmbaaShC
namespace Go.Proofs.Ytnkcenafpigmbaa.Ab
open Go.RowKit Go.Proofs.Ytnkcenafpigmbaa.Fl
set_option linter.unusedVariables false
set_option linter.unusedSimpArgs false

def q52 (x : Nat) : Nat := x / 4503599627370496
theorem q52_lt {x : Nat} (h : x < INF) : q52 x < 2047 := by
  have hI : INF = 9218868437227405312 := rfl
  unfold q52
  omega
theorem ib_or1 (f : Int) : ior .u64 f 4602678819172646912 = ior .u64 f 4602678819172646912 := rfl
set_option maxHeartbeats 4000000 in
set_option maxRecDepth 100000 in
theorem frexpN_c (x : Nat) (hx : x < INF) (h0 : B52 ≤ x) : ACalls Try.prog 109 [fv x] (fun r => ∃ y, r = .many [.sv (fv y), .sv (iv ((q52 x : Int) - 1022))]) := by
  refine ACalls.of_bodyS (fun _ _ => Try.call109 _ _) Try.func109 rfl Try.ntmps109 (by simp) ?_
  refine Tr.ex ?_
  have hI : INF = 9218868437227405312 := rfl
  have hB : B52 = 4503599627370496 := rfl
  have hz : fEq .f64 x 0 = false := by rw [fEq_zero hx]; simp; omega
  have hfd := fdiv52 x
  have hq := q52_lt hx
  have hqe : x / 4503599627370496 = q52 x := rfl
  rw [hqe] at hfd
  have he := ib_expU (show q52 x < 2048 by omega)
  have hf := ib_frac (show x < 9223372036854775808 by omega)
  have w1 : IntKind.i64.wrap (q52 x : Int) = q52 x := by rw [i64w] <;> omega
  have w2 : IntKind.i64.wrap ((q52 x : Int) - 1023) = (q52 x : Int) - 1023 := by rw [i64w] <;> omega
  have w3 : IntKind.i64.wrap ((q52 x : Int) - 1023 + 1) = (q52 x : Int) - 1022 := by rw [i64w] <;> omega
  have w4 : IntKind.i64.wrap ((q52 x : Int) - 1022) = (q52 x : Int) - 1022 := by rw [i64w] <;> omega
  simp [go_sem, hz]
  refine OpW.fn true (IsInf0_no hx) rfl rfl (by simp [go_sem]) (by rintro _ r rfl; simp [go_sem]) ?_
  rintro r rfl
  simp [go_sem]
  refine OpW.fn true (IsNaN_no hx) rfl rfl (by simp [go_sem]) (by rintro _ r rfl; simp [go_sem]) ?_
  rintro r rfl
  simp [go_sem]
  refine OpW.fn true (norm_c x hx h0) rfl rfl (by simp [go_sem]) (by rintro _ r rfl; simp [go_sem]) ?_
  rintro r rfl
  simp [go_sem]
  refine OpW.ext (bits_run x) rfl (by simp [go_sem]) (by simp [go_sem]) (by simp [go_sem]) ?_
  simp [go_sem, hfd, he, hf, w1, w2, w3, w4]
  refine OpW.ext (frombits_run _) rfl (by simp [go_sem]) (by simp [go_sem]; rfl) (by simp [go_sem]) ?_
  simp [go_sem]
set_option maxHeartbeats 4000000 in
set_option maxRecDepth 100000 in
theorem frexpS_c (x : Nat) (hx : x < B52) (h0 : x ≠ 0) : ACalls Try.prog 109 [fv x] (fun r => ∃ y e, (-1100 ≤ e ∧ e ≤ -1000) ∧ r = .many [.sv (fv y), .sv (iv e)]) := by
  refine ACalls.of_bodyS (fun _ _ => Try.call109 _ _) Try.func109 rfl Try.ntmps109 (by simp) ?_
  refine Tr.ex ?_
  have hI : INF = 9218868437227405312 := rfl
  have hB : B52 = 4503599627370496 := rfl
  have hxI : x < INF := by omega
  have hz : fEq .f64 x 0 = false := by rw [fEq_zero hxI]; simp; omega
  obtain ⟨u1, u2⟩ := up52_bounds hx h0
  have fN := normS_c x hx
  generalize up52 x = y at *
  have hfd := fdiv52 y
  have hqe : y / 4503599627370496 = q52 y := rfl
  have hq : q52 y ≤ 52 := by unfold q52; omega
  rw [hqe] at hfd
  have he := ib_expU (show q52 y < 2048 by omega)
  have hf := ib_frac (show y < 9223372036854775808 by omega)
  have w1 : IntKind.i64.wrap (q52 y : Int) = q52 y := by rw [i64w] <;> omega
  have w2 : IntKind.i64.wrap ((q52 y : Int) - 1023) = (q52 y : Int) - 1023 := by rw [i64w] <;> omega
  have w3 : IntKind.i64.wrap ((q52 y : Int) - 1023 + 1) = (q52 y : Int) - 1022 := by rw [i64w] <;> omega
  have w4 : IntKind.i64.wrap (-52 + ((q52 y : Int) - 1022)) = (q52 y : Int) - 1074 := by rw [i64w] <;> omega
  simp [go_sem, hz]
  refine OpW.fn true (IsInf0_no hxI) rfl rfl (by simp [go_sem]) (by rintro _ r rfl; simp [go_sem]) ?_
  rintro r rfl
  simp [go_sem]
  refine OpW.fn true (IsNaN_no hxI) rfl rfl (by simp [go_sem]) (by rintro _ r rfl; simp [go_sem]) ?_
  rintro r rfl
  simp [go_sem]
  refine OpW.fn true fN rfl rfl (by simp [go_sem]) (by rintro _ r rfl; simp [go_sem]) ?_
  rintro r rfl
  simp [go_sem]
  refine OpW.ext (bits_run y) rfl (by simp [go_sem]) (by simp [go_sem]) (by simp [go_sem]) ?_
  simp [go_sem, hfd, he, hf, w1, w2, w3, w4]
  refine OpW.ext (frombits_run _) rfl (by simp [go_sem]) (by simp [go_sem]; rfl) (by simp [go_sem]) ?_
  simp [go_sem]
  omega
theorem frexp0_c : ACalls Try.prog 109 [fv 0] (· = .many [.sv (fv 0), .sv (iv 0)]) := by
  refine ACalls.of_bodyS (fun _ _ => Try.call109 _ _) Try.func109 rfl Try.ntmps109 (by simp) ?_
  refine Tr.ex ?_
  have hz : fEq .f64 0 0 = true := by rw [fEq_zero (by decide)]; rfl
  simp [go_sem, hz]
/-- What Frexp tells of one that is not negative. -/
def FrxP (x : Nat) (e : Int) : Prop := (x = 0 → e = 0) ∧ (B52 ≤ x → e = (q52 x : Int) - 1022) ∧ (x < B52 → x ≠ 0 → -1100 ≤ e ∧ e ≤ -1000)
theorem Frexp_c (x : Nat) (hx : x < INF) : ACalls Try.prog 88 [fv x] (fun r => ∃ y e, FrxP x e ∧ r = .many [.sv (fv y), .sv (iv e)]) := by
  refine ACalls.of_bodyS (fun _ _ => Try.call88 _ _) Try.func88 rfl Try.ntmps88 (by simp) ?_
  refine Tr.ex ?_
  have hB : 0 < B52 := b52_pos
  have fF : ACalls Try.prog 109 [fv x] (fun r => ∃ y e, FrxP x e ∧ r = .many [.sv (fv y), .sv (iv e)]) := by
    by_cases h0 : x = 0
    · subst h0
      exact frexp0_c.mono fun r hr => ⟨0, 0, ⟨fun _ => rfl, fun h => by omega, fun _ h => (h rfl).elim⟩, hr⟩
    · by_cases h1 : B52 ≤ x
      · exact (frexpN_c x hx h1).mono fun r ⟨y, hr⟩ => ⟨y, _, ⟨fun h => (h0 h).elim, fun _ => rfl, fun h => by omega⟩, hr⟩
      · exact (frexpS_c x (by omega) h0).mono fun r ⟨y, e, he, hr⟩ => ⟨y, e, ⟨fun h => (h0 h).elim, fun h => (h1 h).elim, fun _ _ => he⟩, hr⟩
  simp [go_sem]
  refine OpW.fn true fF rfl rfl (by simp [go_sem]) (by rintro _ r ⟨y, e, _, rfl⟩; simp [go_sem]) ?_
  rintro r ⟨y, e, he, rfl⟩
  simp [go_sem]
  exact he
/-! ### Ldexp -/
theorem one_bits {x : Nat} (hx : x < INF) : floatBits .mul .f64 4607182418800017408 x = some x := one_mul hx
set_option maxHeartbeats 4000000 in
set_option maxRecDepth 100000 in
theorem ldexpZ_c (x n z : Nat) (hx : x < INF) (hn : n ≤ 4096) (hq0 : n + 22 < q52 x) (hres : (q52 x - n) * 4503599627370496 + x % 4503599627370496 = z) (hrl : z < INF) : ACalls Try.prog 111 [fv x, iv (-(n : Int))] (· = .one (.sv (fv z))) := by
  refine ACalls.of_bodyS (fun _ _ => Try.call111 _ _) Try.func111 rfl Try.ntmps111 (by simp) ?_
  refine Tr.ex ?_
  have hI : INF = 9218868437227405312 := rfl
  have hB : B52 = 4503599627370496 := rfl
  have hq := q52_lt hx
  have hqe : x / 4503599627370496 = q52 x := rfl
  have h0 : B52 ≤ x := by unfold q52 at hq0; omega
  have hz : fEq .f64 x 0 = false := by rw [fEq_zero hx]; simp; omega
  have hfd := fdiv52 x
  rw [hqe] at hfd
  have he := ib_expI (show q52 x < 2048 by omega)
  have hf := ib_frac (show x < 9223372036854775808 by omega)
  have hor := ib_or (f := x % 4503599627370496) (e := q52 x - n) (by omega) (by omega)
  rw [hres] at hor
  have ho := one_bits hrl
  have w0 : IntKind.i64.wrap (-(n : Int)) = -(n : Int) := by rw [i64w] <;> omega
  have w1 : IntKind.i64.wrap (q52 x : Int) = q52 x := by rw [i64w] <;> omega
  have w2 : IntKind.i64.wrap ((q52 x : Int) - 1023) = (q52 x : Int) - 1023 := by rw [i64w] <;> omega
  have w3 : IntKind.i64.wrap (-(n : Int) + ((q52 x : Int) - 1023)) = -(n : Int) + ((q52 x : Int) - 1023) := by rw [i64w] <;> omega
  have w4 : IntKind.i64.wrap (-(n : Int) + ((q52 x : Int) - 1023) + 1023) = ((q52 x - n : Nat) : Int) := by rw [i64w] <;> omega
  have w5 : IntKind.u64.wrap ((q52 x - n : Nat) : Int) = ((q52 x - n : Nat) : Int) := by rw [u64w] <;> omega
  have w6 : IntKind.u64.wrap (((q52 x - n : Nat) : Int) * 4503599627370496) = (((q52 x - n) * 4503599627370496 : Nat) : Int) := by rw [u64w] <;> omega
  have c1 : ¬ -(n : Int) + ((q52 x : Int) - 1023) < -1075 := by omega
  have c2 : ¬ 1023 < -(n : Int) + ((q52 x : Int) - 1023) := by omega
  have c3 : ¬ -(n : Int) + ((q52 x : Int) - 1023) < -1022 := by omega
  simp [go_sem, hz]
  refine OpW.fn true (IsInf0_no hx) rfl rfl (by simp [go_sem]) (by rintro _ r rfl; simp [go_sem]) ?_
  rintro r rfl
  simp [go_sem]
  refine OpW.fn true (IsNaN_no hx) rfl rfl (by simp [go_sem]) (by rintro _ r rfl; simp [go_sem]) ?_
  rintro r rfl
  simp [go_sem]
  refine OpW.fn true (norm_c x hx h0) rfl rfl (by simp [go_sem]) (by rintro _ r rfl; simp [go_sem]) ?_
  rintro r rfl
  simp [go_sem, w0]
  refine OpW.ext (bits_run x) rfl (by simp [go_sem]) (by simp [go_sem]) (by simp [go_sem]) ?_
  rw [Int.natCast_mul] at w6
  simp at hor w6
  simp [go_sem, hfd, he, hf, w0, w1, w2, w3, w4, w5, w6, c1, c2, c3, hor]
  refine OpW.ext (frombits_run z) rfl (by simp [go_sem]) (by simp [go_sem]) (by simp [go_sem]) ?_
  simp [go_sem, ho]
theorem ldexpN_c (x n : Nat) (hx : x < INF) (hn : n ≤ 4096) (hq0 : n + 22 < q52 x) : ACalls Try.prog 111 [fv x, iv (-(n : Int))] (· = .one (.sv (fv (x - n * B52)))) := by
  have hB : B52 = 4503599627370496 := rfl
  have hres : (q52 x - n) * 4503599627370496 + x % 4503599627370496 = x - n * B52 := by rw [hB]; unfold q52 at hq0 ⊢; omega
  have hrl : x - n * B52 < INF := Nat.lt_of_le_of_lt (Nat.sub_le ..) hx
  exact ldexpZ_c x n _ hx hn hq0 hres hrl
theorem ldexp0_c (n : Nat) (hn : n ≤ 4096) : ACalls Try.prog 111 [fv 0, iv (-(n : Int))] (· = .one (.sv (fv 0))) := by
  refine ACalls.of_bodyS (fun _ _ => Try.call111 _ _) Try.func111 rfl Try.ntmps111 (by simp) ?_
  refine Tr.ex ?_
  have hz : fEq .f64 0 0 = true := by rw [fEq_zero (by decide)]; rfl
  simp [go_sem, hz]
theorem Ldexp_c (x n : Nat) (hx : x < INF) (hn : n ≤ 4096) (hq0 : x = 0 ∨ n + 22 < q52 x) : ACalls Try.prog 89 [fv x, iv (-(n : Int))] (· = .one (.sv (fv (x - n * B52)))) := by
  refine ACalls.of_bodyS (fun _ _ => Try.call89 _ _) Try.func89 rfl Try.ntmps89 (by simp) ?_
  refine Tr.ex ?_
  have f : ACalls Try.prog 111 [fv x, iv (-(n : Int))] (· = .one (.sv (fv (x - n * B52)))) := by
    rcases hq0 with h | h
    · subst h
      rw [Nat.zero_sub]
      exact ldexp0_c n hn
    · exact ldexpN_c x n hx hn h
  generalize x - n * B52 = z at *
  simp [go_sem]
  refine OpW.fn true f rfl rfl (by simp [go_sem]) (by rintro _ r rfl; simp [go_sem]) ?_
  rintro r rfl
  simp [go_sem]
/-! ### Fade -/
theorem fadeF_far {x n : Nat} (h : n + 22 < q52 (cl x)) : ∀ k, k ≤ n → fadeF x k = cl x - k * B52
  | 0, _ => by rw [fadeF_zero]; simp
  | k + 1, hk => by
    have hB : B52 = 4503599627370496 := rfl
    rw [fadeF_succ, fadeF_far h k (by omega)]
    have e : cl x - k * B52 = (cl x - (k + 1) * B52) + B52 := by rw [hB]; unfold q52 at h; omega
    rw [e]
    have hl := cl_lt x
    refine hv_normal ?_ ?_
    · rw [hB]; unfold q52 at h; omega
    · rw [← e]; omega
theorem fadeF_stay {x i : Nat} (h : fadeF x i = 0) : ∀ k, fadeF x (i + k) = 0
  | 0 => h
  | k + 1 => by rw [← Nat.add_assoc, fadeF_succ, fadeF_stay h k]; exact hv_zero
theorem fadeF_none {x n : Nat} (h : cl x = 0) : fadeF x n = 0 := by
  have := fadeF_stay (x := x) (i := 0) h n
  rwa [Nat.zero_add] at this
end Go.Proofs.Ytnkcenafpigmbaa.Ab
