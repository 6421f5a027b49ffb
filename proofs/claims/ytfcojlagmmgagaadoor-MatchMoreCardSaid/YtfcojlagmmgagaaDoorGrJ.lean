/- Sets: TrailingZeros64, words.list, put, Join, Meet, Less. (Seats with the table of math/bits.) -/
import Derived.Test.YtfcojlagmmgagaaDoorSetP
import Derived.Test.YtfcojlagmmgagaaDoorAbT
import Derived.Lib.TrailingZeros
import Derived.Laws.Bits64b
import Derived.Test.YtfcojlagmmgagaaDoorGrT
namespace Go.Proofs.YtfcojlagmmgagaaDoor.Ab
open Go.RowKit
set_option linter.unusedVariables false
set_option linter.unusedSimpArgs false

/-! ### The lowest bit -/
def tz (y : BitVec 64) : Nat := Lib.ctz 64 y.toNat
def wSub (y : BitVec 64) : BitVec 64 := y - 1#64
theorem tz_form {y : BitVec 64} (h : y ≠ 0#64) : ∃ m, y.toNat = 2 ^ tz y * (2 * m + 1) ∧ tz y < 64 := by
  have h0 : y.toNat ≠ 0 := fun e => h (BitVec.eq_of_toNat_eq (by simpa using e))
  obtain ⟨m, hm, hk⟩ := Lib.ctzFrom_spec 64 y.toNat (by omega) y.isLt
  have e : tz y = Lib.ctzFrom 64 y.toNat := by simp [tz, Lib.ctz, h0]
  rw [e]
  exact ⟨m, hm, hk⟩
theorem bit_mul (k a j : Nat) : (2 ^ k * a).testBit j = if j < k then false else a.testBit (j - k) := by
  have := Nat.testBit_two_pow_mul_add a (show 0 < 2 ^ k from Nat.two_pow_pos k) j
  simpa using this
theorem tz_bits {y : BitVec 64} (h : y ≠ 0#64) : (∀ j, j < tz y → y.getLsbD j = false) ∧ y.getLsbD (tz y) = true ∧ ∀ j, (wAnd y (wSub y)).getLsbD j = (y.getLsbD j && !decide (j = tz y)) := by
  obtain ⟨m, hm, hk⟩ := tz_form h
  generalize tz y = k at hm hk
  have hy : ∀ j, y.getLsbD j = if j < k then false else (2 * m + 1).testBit (j - k) := fun j => by
    rw [← bit_mul, ← hm]; rfl
  have hpos : 0 < 2 ^ k := Nat.two_pow_pos k
  have hs : (wSub y).toNat = 2 ^ k * (2 * m) + (2 ^ k - 1) := by
    have h1 : (wSub y).toNat = y.toNat - 1 := by
      unfold wSub
      rw [BitVec.toNat_sub]
      have := y.isLt
      have h0 : y.toNat ≠ 0 := fun e => h (BitVec.eq_of_toNat_eq (by simpa using e))
      simp
      omega
    rw [h1, hm, Nat.mul_add, Nat.mul_one]
    omega
  have hz : ∀ j, (wSub y).getLsbD j = if j < k then (2 ^ k - 1).testBit j else (2 * m).testBit (j - k) := fun j => by
    have := Nat.testBit_two_pow_mul_add (2 * m) (show 2 ^ k - 1 < 2 ^ k by omega) j
    rw [← hs] at this
    exact this
  refine ⟨fun j hj => by rw [hy, if_pos hj], ?_, fun j => ?_⟩
  · rw [hy, if_neg (by omega), Nat.sub_self, Nat.testBit_zero]; simp
  · unfold wAnd
    rw [BitVec.getLsbD_and, hy, hz]
    by_cases h1 : j < k
    · rw [if_pos h1]; simp
    · rw [if_neg h1, if_neg h1]
      by_cases h2 : j = k
      · subst h2; simp [Nat.testBit_zero]
      · obtain ⟨d, hd⟩ : ∃ d, j - k = d + 1 := ⟨j - k - 1, by omega⟩
        rw [hd, Nat.testBit_succ, Nat.testBit_succ, show (2 * m + 1) / 2 = m by omega, show 2 * m / 2 = m by omega]
        simp [h2]
/-- The bits of a word, as numbers. -/
def bitsI (y : BitVec 64) : List Int := rangeF (fun j => y.getLsbD j) 64
theorem bits_zero : bitsI 0#64 = [] := by
  unfold bitsI rangeF
  rw [List.filter_eq_nil_iff.2 (fun i _ => by simp)]; rfl
theorem bits_cons {y : BitVec 64} (h : y ≠ 0#64) : bitsI y = (tz y : Int) :: bitsI (wAnd y (wSub y)) := by
  obtain ⟨h1, h2, h3⟩ := tz_bits h
  obtain ⟨m, _, hk⟩ := tz_form h
  unfold bitsI
  refine sorted_ext (rangeF_sorted _ _) ?_ fun n => ?_
  · rw [List.pairwise_cons]
    refine ⟨fun a ha => ?_, rangeF_sorted _ _⟩
    obtain ⟨a0, a1, a2⟩ := mem_rangeF.1 ha
    rw [h3] at a2
    simp only [Bool.and_eq_true, Bool.not_eq_true', decide_eq_false_iff_not] at a2
    have : ¬ a.toNat < tz y := fun hlt => by rw [h1 _ hlt] at a2; exact absurd a2.1 (by simp)
    omega
  · rw [List.mem_cons, mem_rangeF, mem_rangeF]
    simp only [h3, Bool.and_eq_true, Bool.not_eq_true', decide_eq_false_iff_not]
    constructor
    · rintro ⟨a0, a1, a2⟩
      by_cases he : n.toNat = tz y
      · left; omega
      · exact .inr ⟨a0, a1, a2, he⟩
    · rintro (rfl | ⟨a0, a1, a2, _⟩)
      · exact ⟨by omega, by omega, by simpa using h2⟩
      · exact ⟨a0, a1, a2⟩
/-- The numbers that words hold. -/
def listW (x : Nat → BitVec 64) (n : Nat) : List Int := rangeF (fun i => (x (i / 64)).getLsbD (i % 64)) n
theorem listW_succ (x : Nat → BitVec 64) (i : Nat) : listW x (64 * (i + 1)) = listW x (64 * i) ++ (bitsI (x i)).map fun j => 64 * (i : Int) + j := by
  unfold listW
  refine sorted_ext (rangeF_sorted _ _) ?_ fun n => ?_
  · rw [List.pairwise_append]
    refine ⟨rangeF_sorted _ _, ?_, fun a ha b hb => ?_⟩
    · rw [List.pairwise_map]
      exact (rangeF_sorted _ _).imp fun h => by omega
    · obtain ⟨a0, a1, _⟩ := mem_rangeF.1 ha
      obtain ⟨c, hc, rfl⟩ := List.mem_map.1 hb
      obtain ⟨c0, _, _⟩ := mem_rangeF.1 hc
      omega
  · rw [List.mem_append, mem_rangeF, mem_rangeF, List.mem_map]
    constructor
    · rintro ⟨a0, a1, a2⟩
      by_cases hlt : n < ((64 * i : Nat) : Int)
      · exact .inl ⟨a0, hlt, a2⟩
      · right
        refine ⟨n - 64 * (i : Int), mem_rangeF.2 ⟨by omega, by omega, ?_⟩, by omega⟩
        have e1 : n.toNat / 64 = i := by omega
        have e2 : n.toNat % 64 = (n - 64 * (i : Int)).toNat := by omega
        rw [e1, e2] at a2
        exact a2
    · rintro (⟨a0, a1, a2⟩ | ⟨c, hc, rfl⟩)
      · exact ⟨a0, by omega, a2⟩
      · obtain ⟨c0, c1, c2⟩ := mem_rangeF.1 hc
        refine ⟨by omega, by omega, ?_⟩
        have e1 : (64 * (i : Int) + c).toNat / 64 = i := by omega
        have e2 : (64 * (i : Int) + c).toNat % 64 = c.toNat := by omega
        rw [e1, e2]
        exact c2
theorem listW_len (x : Nat → BitVec 64) (n : Nat) : (listW x n).length ≤ n := rangeF_len _ _

/-! ### math/bits.TrailingZeros64 -/
def dbL : List SV := Lib.deBruijn64tab.map fun n : Nat => .val (.int .u8 (n : Int))
theorem gtab1 : lk Gtab 0 = some (.agg dbL) := Eq.trans rfl rfl
theorem db_at {i : Nat} (hi : i < 64) : dbL[i]? = some (.val (.int .u8 (Lib.deBruijn64tab.getD i 0 : Int))) := by
  have : i < Lib.deBruijn64tab.length := hi
  unfold dbL
  rw [List.getElem?_map, List.getElem?_eq_getElem this, List.getD_eq_getElem?_getD, List.getElem?_eq_getElem this]; rfl
theorem neg_w (y : BitVec 64) : IntKind.u64.wrap (-(y.toNat : Int)) = ((-y).toNat : Int) := by
  have := y.isLt
  rw [IntKind.wrap_u64, BitVec.toNat_neg]
  omega
theorem low_w {y : BitVec 64} (h : y ≠ 0#64) : (wAnd y (-y)).toNat = 2 ^ tz y ∧ tz y < 64 := by
  have h0 : y.toNat ≠ 0 := fun e => h (BitVec.eq_of_toNat_eq (by simpa using e))
  have := Lib.lowest_bit 64 y.toNat h0 y.isLt
  refine ⟨?_, this.2⟩
  unfold wAnd
  rw [BitVec.toNat_and, BitVec.toNat_neg, Nat.mod_eq_of_lt (by have := y.isLt; omega)]
  exact this.1
theorem tz_key (x a : Nat) (hx : x < 18446744073709551616) (hx0 : x ≠ 0) (hlow : x &&& (18446744073709551616 - x) = a) :
    IntKind.u64.wrap (bits BinOp.and IntKind.u64 (x : Int) (IntKind.u64.wrap (-(x : Int))) * 285870213051353865) / 288230376151711744 = ((a * 285870213051353865 % 18446744073709551616 / 288230376151711744 : Nat) : Int) := by
  have e1 : IntKind.u64.wrap (-(x : Int)) = ((18446744073709551616 - x : Nat) : Int) := by rw [IntKind.wrap_u64]; omega
  rw [e1, bits_and_u64_nat x _ hx (by omega), hlow, IntKind.wrap_u64]
  omega
set_option maxHeartbeats 1000000 in
theorem tz_core (x k idx : Nat) (w : World) (hx0 : ((x : Int) == 0) = false)
    (key : IntKind.u64.wrap (bits BinOp.and IntKind.u64 (x : Int) (IntKind.u64.wrap (-(x : Int))) * 285870213051353865) / 288230376151711744 = (idx : Int))
    (hi : idx < 64) (hk : k < 64) (hcell : w.cell? ⟨0, idx, none⟩ = some (.int .u8 k)) :
    Calls Tryd.prog 116 #[.int .u64 x] w fun e w' => e = .returned (.int .i64 k) ∧ w' = w := by
  go_enter Tryd.func116, Tryd.ntmps116
  go_wp2_with (simp only [key])
  go_ret
  exact ⟨rfl, rfl⟩
theorem tab_cell {w : World} (hw : GWx w) {i : Nat} (hi : i < 64) : w.cell? ⟨0, i, none⟩ = some (.int .u8 (Lib.deBruijn64tab.getD i 0 : Int)) := by
  have h := hw _ _ gtab1
  simp only [RepS] at h
  obtain ⟨a, u, he, _, ⟨cs, rfl, hr⟩, hat⟩ := h
  obtain ⟨v, hv, hrv⟩ := hr.at (db_at hi)
  have hc := hat i v (by simpa [Value.cells] using hv)
  simp only [RepS] at hrv
  subst hrv
  have ha : a = ⟨0, 0, none⟩ := by
    have : a.add 0 = a := by simp [Addr.add]
    rw [this] at he
    simpa using he.symm
  rw [ha, add_lit, Nat.zero_add] at hc
  exact hc
theorem tz_c (y : BitVec 64) (h : y ≠ 0#64) : ACalls Tryd.prog 116 [u64 y] (· = .one (.sv (iv (tz y)))) := by
  have hy : y.toNat ≠ 0 := fun e => h (BitVec.eq_of_toNat_eq (by simpa using e))
  have h0 : ((y.toNat : Int) == 0) = false := by simpa using hy
  obtain ⟨hlow, hk⟩ := Lib.lowest_bit 64 y.toNat hy y.isLt
  obtain ⟨hi, htab⟩ := Lib.deBruijn64_at _ hk
  refine ACalls.ofArgs (us := [.int .u64 y.toNat]) (fun _ _ => Tryd.call116 _ _) (fun w ok vs hr => ?_) fun w hw => (tz_core y.toNat (tz y) _ w h0 (tz_key _ _ y.isLt hy hlow) hi hk ?_).mono ?_
  · simp only [u64, RepL, RepS] at hr
    obtain ⟨v, vs', rfl, rfl, rfl⟩ := hr
    rfl
  · have := tab_cell hw hi
    rw [htab] at this
    exact this
  · rintro e w' ⟨rfl, rfl⟩
    exact ⟨_, rfl, rfl, Below.refl _ _⟩
theorem sub_w {y : BitVec 64} (h : y ≠ 0#64) : IntKind.u64.wrap ((y.toNat : Int) - 1) = ((wSub y).toNat : Int) := by
  have h0 : y.toNat ≠ 0 := fun e => h (BitVec.eq_of_toNat_eq (by simpa using e))
  have := y.isLt
  unfold wSub
  rw [IntKind.wrap_u64, BitVec.toNat_sub]
  simp
  omega
theorem list_c (x : Nat → BitVec 64) : ACalls Tryd.prog 101 [.agg (words x)] (· = .one (.sv (ints (listW x 256)))) := by
  refine ACalls.of_bodyS (fun _ _ => Tryd.call101 _ _) Tryd.func101 rfl Tryd.ntmps101 (by simp) ?_
  refine Tr.ex ?_
  simp [go_sem]
  refine LoopW.of (fun i : Nat => ⟨27, [(2, .nil), (3, .own 3), (6, .sv (.agg (words x))), (7, .sv (iv i))], [(3, .row 1 ((listW x (64 * i)).map iv))]⟩)
    (fun i => i ≤ 4) (fun i => 4 - i) 0 (by omega) (Ent.thaw 3 3 1 (by simp [go_sem]) (by simp [go_sem]) (by decide) (Ent.chk (by simp [go_sem, listW, rangeF]))) ?_
  rintro i hi
  by_cases hlt : i < 4
  · have hlt' : (i : Int) < 4 := by omega
    have hwi : ∀ h, ([.val (.int .u64 ((x 0).toNat : Int)), .val (.int .u64 ((x 1).toNat : Int)), .val (.int .u64 ((x 2).toNat : Int)), .val (.int .u64 ((x 3).toNat : Int))] : List SV)[i]'h = .val (.int .u64 ((x i).toNat : Int)) := by
      have hi4 : i = 0 ∨ i = 1 ∨ i = 2 ∨ i = 3 := by omega
      rcases hi4 with rfl | rfl | rfl | rfl <;> intro h <;> rfl
    have hw : IntKind.i64.wrap ((i : Int) + 1) = (i : Int) + 1 := by rw [i64w] <;> omega
    have hll := listW_len x (64 * (i + 1))
    simp [go_sem, hwi, hlt, hlt']
    refine LoopW.of (fun s : List Int × BitVec 64 => ⟨27, [(2, .nil), (3, .own 3), (4, .sv (iv i)), (5, .sv (u64 s.2)), (6, .sv (.agg (words x))), (7, .sv (iv i))], [(3, .row 1 (s.1.map iv))]⟩)
      (fun s => s.1 ++ (bitsI s.2).map (fun j => 64 * (i : Int) + j) = listW x (64 * (i + 1))) (fun s => (bitsI s.2).length) (listW x (64 * i), x i) (listW_succ x i).symm (Ent.chk (by simp [go_sem])) ?_
    rintro ⟨acc, y⟩ hacc
    simp only at hacc
    by_cases hy : y = 0#64
    · subst hy
      rw [bits_zero, List.map_nil, List.append_nil] at hacc
      simp [go_sem, bne]
      exact ⟨i + 1, by omega, by omega, Ent.chk (by simp [go_sem, hw, hacc])⟩
    · have h0 : ((y.toNat : Int) == 0) = false := by
        have : y.toNat ≠ 0 := fun e => hy (BitVec.eq_of_toNat_eq (by simpa using e))
        simp; omega
      obtain ⟨m, _, hk⟩ := tz_form hy
      have hb := bits_cons hy
      rw [hb, List.map_cons] at hacc
      have hal : acc.length ≤ 256 := by
        have := congrArg List.length hacc
        simp at this; omega
      have w1 : IntKind.i64.wrap (64 * (i : Int)) = 64 * (i : Int) := by rw [i64w] <;> omega
      have w2 : IntKind.i64.wrap (64 * (i : Int) + tz y) = 64 * (i : Int) + tz y := by rw [i64w] <;> omega
      simp [go_sem, bne, h0]
      refine OpW.fn true (tz_c y hy) rfl rfl (by simp [go_sem]) (by rintro _ r rfl; simp [go_sem]) ?_
      rintro r rfl
      simp [go_sem, w1, w2, sub_w hy]
      exact ⟨by omega, acc ++ [64 * (i : Int) + tz y], wAnd y (wSub y), by simpa using hacc, by rw [hb]; simp, Ent.rename2 24 3 (by simp [go_sem]) (Ent.chk (by simp [go_sem]))⟩
  · have hil : i = 4 := by omega
    subst hil
    simp [go_sem]

/-! ### put, Join, Meet, Less -/
def putX (F : BitVec 64 → BitVec 64 → BitVec 64) (x y : Nat → BitVec 64) (i : Nat) : Nat → BitVec 64 := fun j => if j < i then F (x j) (y j) else x j
theorem put_c (a b : List Int) (f : FuncId) (F : BitVec 64 → BitVec 64 → BitVec 64) (ha : a.length ≤ 140737488355328) (hb : b.length ≤ 140737488355328) (hF : ∀ x y, ACalls Tryd.prog f [u64 x, u64 y] (· = .one (.sv (u64 (F x y))))) :
    ACalls Tryd.prog 71 [ints a, ints b, .fn f []] (· = .one (.sv (ints (if isSet a = true ∧ isSet b = true then listW (fun j => F (wd a j) (wd b j)) 256 else [])))) := by
  refine ACalls.of_bodyS (fun _ _ => Tryd.call71 _ _) Tryd.func71 rfl Tryd.ntmps71 (by simp) ?_
  refine Tr.ex ?_
  simp [go_sem]
  refine OpW.fn true (both_c a b ha hb) rfl rfl (by simp [go_sem]) (by rintro _ r ⟨x, y, rfl, hx, hy⟩; simp [go_sem]) ?_
  rintro r ⟨x, y, rfl, hx, hy⟩
  cases hsa : isSet a with
  | false => simp [go_sem]
  | true =>
    cases hsb : isSet b with
    | false => simp [go_sem]
    | true =>
      have hx := hx hsa
      have hy := hy hsb
      have hFk : ∀ k, ACalls Tryd.prog f ([u64 (wd a k), u64 (wd b k)] ++ []) (· = .one (.sv (u64 (F (wd a k) (wd b k))))) := fun k => by simpa using hF (wd a k) (wd b k)
      subst hx
      subst hy
      simp [go_sem]
      refine LoopW.of (fun i : Nat => ⟨36, [(2, .sv (.fn f [])), (6, .nil), (7, .box 7 0), (8, .box 8 0), (20, .sv (iv i))],
          [(7, .box [.sv (u64 (putX F (wd a) (wd b) i 0)), .sv (u64 (putX F (wd a) (wd b) i 1)), .sv (u64 (putX F (wd a) (wd b) i 2)), .sv (u64 (putX F (wd a) (wd b) i 3))]), (8, .box [.sv (u64 (wd b 0)), .sv (u64 (wd b 1)), .sv (u64 (wd b 2)), .sv (u64 (wd b 3))])]⟩)
        (fun i => i ≤ 4) (fun i => 4 - i) 0 (by omega) (Ent.chk (by simp [go_sem, putX])) ?_
      rintro i hi
      by_cases hlt : i < 4
      · have hlt' : (i : Int) < 4 := by omega
        have hi4 : i = 0 ∨ i = 1 ∨ i = 2 ∨ i = 3 := by omega
        rcases hi4 with rfl | rfl | rfl | rfl
        · simp [go_sem, putX]
          refine DrawW.rd rfl ?_
          simp [go_sem, putX]
          refine OpD.callF true (hFk 0) rfl rfl (by simp [go_sem]) (by simp [go_sem]) (by intro _; simp [go_sem]) (by simp [go_sem]) (by simp [go_sem]) ?_
          simp [go_sem]
          exact ⟨by kernel_rfl, 1, by decide, by decide, Ent.chk (by simp [go_sem, putX])⟩
        · simp [go_sem, putX]
          refine DrawW.rd rfl ?_
          simp [go_sem, putX]
          refine OpD.callF true (hFk 1) rfl rfl (by simp [go_sem]) (by simp [go_sem]) (by intro _; simp [go_sem]) (by simp [go_sem]) (by simp [go_sem]) ?_
          simp [go_sem]
          exact ⟨by kernel_rfl, 2, by decide, by decide, Ent.chk (by simp [go_sem, putX])⟩
        · simp [go_sem, putX]
          refine DrawW.rd rfl ?_
          simp [go_sem, putX]
          refine OpD.callF true (hFk 2) rfl rfl (by simp [go_sem]) (by simp [go_sem]) (by intro _; simp [go_sem]) (by simp [go_sem]) (by simp [go_sem]) ?_
          simp [go_sem]
          exact ⟨by kernel_rfl, 3, by decide, by decide, Ent.chk (by simp [go_sem, putX])⟩
        · simp [go_sem, putX]
          refine DrawW.rd rfl ?_
          simp [go_sem, putX]
          refine OpD.callF true (hFk 3) rfl rfl (by simp [go_sem]) (by simp [go_sem]) (by intro _; simp [go_sem]) (by simp [go_sem]) (by simp [go_sem]) ?_
          simp [go_sem]
          exact ⟨by kernel_rfl, 4, by decide, by decide, Ent.chk (by simp [go_sem, putX])⟩
      · have hil : i = 4 := by omega
        subst hil
        have hp : (putX F (wd a) (wd b) 4) = fun j => if j < 4 then F (wd a j) (wd b j) else wd a j := rfl
        have hli : listW (fun j => F (wd a j) (wd b j)) 256 = listW (putX F (wd a) (wd b) 4) 256 := by
          unfold listW
          refine rangeF_congr fun i hi => ?_
          simp only [putX]
          rw [if_pos (by omega)]
        rw [hli]
        generalize putX F (wd a) (wd b) 4 = z
        simp [go_sem]
        refine OpW.fn false (list_c z) rfl rfl (by simp [go_sem]) (fun h => by cases h) ?_
        rintro r rfl
        simp [go_sem]
end Go.Proofs.YtfcojlagmmgagaaDoor.Ab
