/- Sets: what set.of, Right, Has, Part and Apart answer. -/
import Derived.Test.YtfcojlagmmgagaaDoorAbR
import Derived.Test.YtfcojlagmmgagaaDoorTy
namespace Go.Proofs.YtfcojlagmmgagaaDoor.Ab
open Go.RowKit
set_option linter.unusedVariables false
set_option linter.unusedSimpArgs false

/-- A word of bits. -/
def u64 (x : BitVec 64) : SV := .val (.int .u64 (x.toNat : Int))
attribute [go_sem] u64
theorem bv_of (x : BitVec 64) : BitVec.ofInt 64 (x.toNat : Int) = x := by simp
theorem u64x (x : BitVec 64) : IntKind.u64.wrap (x.toNat : Int) = (x.toNat : Int) := u64w _ (by omega) (by have := x.isLt; omega)
def wOr (x y : BitVec 64) : BitVec 64 := x ||| y
def wAnd (x y : BitVec 64) : BitVec 64 := x &&& y
def wNot (x y : BitVec 64) : BitVec 64 := x &&& ~~~y
def wShl (k : Nat) : BitVec 64 := 1#64 <<< k
def wShr (x : BitVec 64) (k : Nat) : BitVec 64 := x >>> k
theorem ibin_or (x y : BitVec 64) : ibin .or .u64 (x.toNat : Int) (y.toNat : Int) = some (.int .u64 ((wOr x y).toNat : Int)) := by
  show some (Value.int .u64 (IntKind.u64.wrap ((BitVec.ofInt 64 (x.toNat : Int) ||| BitVec.ofInt 64 (y.toNat : Int)).toNat : Int))) = _
  rw [bv_of, bv_of, u64x]; rfl
theorem ibin_and (x y : BitVec 64) : ibin .and .u64 (x.toNat : Int) (y.toNat : Int) = some (.int .u64 ((wAnd x y).toNat : Int)) := by
  show some (Value.int .u64 (IntKind.u64.wrap ((BitVec.ofInt 64 (x.toNat : Int) &&& BitVec.ofInt 64 (y.toNat : Int)).toNat : Int))) = _
  rw [bv_of, bv_of, u64x]; rfl
theorem ibin_and1 (x : BitVec 64) : ibin .and .u64 (x.toNat : Int) 1 = some (.int .u64 ((wAnd x 1#64).toNat : Int)) := ibin_and x 1#64
theorem ibin_not (x y : BitVec 64) : ibin .andNot .u64 (x.toNat : Int) (y.toNat : Int) = some (.int .u64 ((wNot x y).toNat : Int)) := by
  show some (Value.int .u64 (IntKind.u64.wrap ((BitVec.ofInt 64 (x.toNat : Int) &&& ~~~BitVec.ofInt 64 (y.toNat : Int)).toNat : Int))) = _
  rw [bv_of, bv_of, u64x]; rfl
theorem ishift_shl (k : Nat) (h : k < 64) : ishift .shl .u64 1 (k : Int) = some (.int .u64 ((wShl k).toNat : Int)) := by
  have h1 : 2 ^ k < 18446744073709551616 := Nat.pow_lt_pow_right (a := 2) (by omega) (n := 64) h
  have h2 : ¬ (k : Int) < 0 := by omega
  show (if (k : Int) < 0 then none else some (Value.int .u64 (IntKind.u64.wrap (1 * 2 ^ (min k 64))))) = _
  rw [if_neg h2, Nat.min_eq_left (by omega), Int.one_mul, show ((2 : Int) ^ k) = ((2 ^ k : Nat) : Int) by simp, u64w _ (Int.natCast_nonneg _) (by omega)]
  congr 3
  simp [wShl, BitVec.toNat_shiftLeft, Nat.shiftLeft_eq, Nat.mod_eq_of_lt h1]
theorem ishift_shr (x : BitVec 64) (k : Nat) (h : k < 64) : ishift .shr .u64 (x.toNat : Int) (k : Int) = some (.int .u64 ((wShr x k).toNat : Int)) := by
  have h2 : ¬ (k : Int) < 0 := by omega
  show (if (k : Int) < 0 then none else some (Value.int .u64 ((x.toNat : Int).fdiv (2 ^ (min k 64))))) = _
  rw [if_neg h2, Nat.min_eq_left (by omega), show ((2 : Int) ^ k) = ((2 ^ k : Nat) : Int) by simp, Int.fdiv_eq_ediv_of_nonneg _ (Int.natCast_nonneg _)]
  congr 3
  simp [wShr, BitVec.toNat_ushiftRight, Nat.shiftRight_eq_div_pow]
attribute [go_sem ↓] ibin_or ibin_and ibin_and1 ibin_not ishift_shl ishift_shr

/-- Is it a set, above a number? -/
def setFrom (last : Int) : List Int → Bool
  | [] => true
  | n :: l => decide (last < n) && decide (n < 256) && setFrom n l
def isSet (l : List Int) : Bool := setFrom (-1) l
def lastOf (l : List Int) : Int := l.getLast?.getD (-1)
theorem setFrom_snoc (n : Int) : ∀ (l : List Int) (last : Int), setFrom last (l ++ [n]) = (setFrom last l && decide (l.getLast?.getD last < n) && decide (n < 256))
  | [], last => by simp [setFrom]; rfl
  | m :: l, last => by
    simp only [List.cons_append, setFrom, setFrom_snoc n l m, Bool.and_assoc]
    cases l with
    | nil => rfl
    | cons k l => simp [List.getLast?_cons_cons, List.getLast?_cons]
theorem isSet_snoc (l : List Int) (n : Int) : isSet (l ++ [n]) = (isSet l && decide (lastOf l < n) && decide (n < 256)) := setFrom_snoc n l (-1)
theorem setFrom_mem : ∀ {l : List Int} {last : Int}, setFrom last l = true → ∀ n ∈ l, last < n ∧ n < 256
  | [], _, _, n, hn => by cases hn
  | m :: l, last, h, n, hn => by
    simp only [setFrom, Bool.and_eq_true, decide_eq_true_eq] at h
    cases hn with
    | head => exact h.1
    | tail _ hn => have := setFrom_mem h.2 n hn; omega
theorem isSet_mem {l : List Int} (h : isSet l = true) : ∀ n ∈ l, 0 ≤ n ∧ n < 256 := fun n hn => by have := setFrom_mem h n hn; omega
theorem lastOf_ge {l : List Int} (h : isSet l = true) : -1 ≤ lastOf l := by
  unfold lastOf
  cases hl : l.getLast? with
  | none => simp
  | some n => have := isSet_mem h n (List.mem_of_getLast? hl); simp; omega
theorem setFrom_bad : ∀ (a b : List Int) (last : Int), setFrom last a = false → setFrom last (a ++ b) = false
  | [], b, last, h => by simp [setFrom] at h
  | m :: a, b, last, h => by
    simp only [setFrom, List.cons_append, Bool.and_eq_false_iff] at h ⊢
    rcases h with h | h
    · exact .inl h
    · exact .inr (setFrom_bad a b m h)
theorem isSet_take {l : List Int} {i : Nat} (h : isSet l = true) : isSet (l.take i) = true := by
  cases hh : isSet (l.take i) with
  | true => rfl
  | false => have := setFrom_bad (l.take i) (l.drop i) (-1) hh; rw [List.take_append_drop] at this; rw [show isSet l = false from this] at h; cases h

/-- The word k of a list's bits. -/
def wd (l : List Int) (k : Nat) : BitVec 64 := l.foldl (fun a n => if n.toNat / 64 = k then wOr a (wShl (n.toNat % 64)) else a) 0#64
theorem wd_snoc (l : List Int) (n : Int) (k : Nat) : wd (l ++ [n]) k = if n.toNat / 64 = k then wOr (wd l k) (wShl (n.toNat % 64)) else wd l k := by
  unfold wd
  rw [List.foldl_append]
  rfl
theorem wd_bit (l : List Int) (k j : Nat) (hj : j < 64) : (wd l k).getLsbD j = l.any fun n => decide (n.toNat / 64 = k) && decide (n.toNat % 64 = j) := by
  suffices h : ∀ (l : List Int) (a : BitVec 64), (l.foldl (fun a n => if n.toNat / 64 = k then wOr a (wShl (n.toNat % 64)) else a) a).getLsbD j = (a.getLsbD j || l.any fun n => decide (n.toNat / 64 = k) && decide (n.toNat % 64 = j)) by
    have := h l 0#64
    simpa [wd] using this
  intro l
  induction l with
  | nil => intro a; simp
  | cons n l ih =>
    intro a
    rw [List.foldl_cons, ih, List.any_cons]
    by_cases hk : n.toNat / 64 = k
    · rw [if_pos hk]
      simp only [wOr, wShl, BitVec.getLsbD_or, BitVec.getLsbD_shiftLeft, BitVec.getLsbD_one, hk, decide_true, Bool.true_and, hj, Bool.or_assoc]
      congr 1
      by_cases hm : n.toNat % 64 = j
      · subst hm; simp
      · have : (decide (n.toNat % 64 = j)) = false := by simp [hm]
        rw [this]
        by_cases hlt : j < n.toNat % 64
        · simp [hlt]
        · have : ¬ j - n.toNat % 64 = 0 := by omega
          simp [hlt, this]
    · rw [if_neg hk]
      simp [hk]
theorem wd_has {l : List Int} (h : isSet l = true) {n : Int} (h0 : 0 ≤ n) (h1 : n < 256) : (wd l (n.toNat / 64)).getLsbD (n.toNat % 64) = decide (n ∈ l) := by
  rw [wd_bit _ _ _ (by omega)]
  rw [Bool.eq_iff_iff]
  simp only [List.any_eq_true, Bool.and_eq_true, decide_eq_true_eq]
  constructor
  · rintro ⟨m, hm, h2, h3⟩
    have := isSet_mem h m hm
    have e : m = n := by omega
    exact e ▸ hm
  · intro hm
    exact ⟨n, hm, rfl, rfl⟩

def words (x : Nat → BitVec 64) : List SV := [u64 (x 0), u64 (x 1), u64 (x 2), u64 (x 3)]
attribute [go_sem] words
theorem of_c (l : List Int) (hl : l.length ≤ 140737488355328) : ACalls Tryd.prog 70 [ints l] (fun r => ∃ x : Nat → BitVec 64, r = .many [.sv (.agg (words x)), .sv (bv (isSet l))] ∧ (isSet l = true → x = wd l)) := by
  refine ACalls.of_body (fun _ _ => Tryd.call70 _ _) Tryd.func70 rfl Tryd.ntmps70 (by simp) ?_
  refine Tr.ex ?_
  simp [go_sem]
  refine LoopW.of (fun i : Nat => ⟨34, [(0, .sv (ints l)), (2, .box 2 0), (3, .sv (bv false)), (4, .box 4 0), (5, .sv (iv (lastOf (l.take i)))), (8, .sv (ints l)), (9, .sv (iv l.length)), (10, .sv (iv i))],
      [(2, .box [.sv (u64 0#64), .sv (u64 0#64), .sv (u64 0#64), .sv (u64 0#64)]), (4, .box [.sv (u64 (wd (l.take i) 0)), .sv (u64 (wd (l.take i) 1)), .sv (u64 (wd (l.take i) 2)), .sv (u64 (wd (l.take i) 3))])]⟩)
    (fun i => i ≤ l.length ∧ isSet (l.take i) = true) (fun i => l.length - i) 0 ⟨by omega, rfl⟩ (Ent.chk (by simp [go_sem, lastOf, wd])) ?_
  rintro i ⟨hi, hs⟩
  by_cases hlt : i < l.length
  · have hlt' : (i : Int) < l.length := by omega
    have hx : l[i]? = some l[i] := List.getElem?_eq_getElem hlt
    have htk : l.take (i + 1) = l.take i ++ [l[i]] := by rw [List.take_add_one, hx]; rfl
    have hsn := isSet_snoc (l.take i) l[i]
    rw [← htk, hs, Bool.true_and] at hsn
    have hbad : isSet (l.take (i + 1)) = false → isSet l = false := fun h => by
      cases hh : isSet l with
      | false => rfl
      | true => rw [isSet_take hh] at h; cases h
    have hge := lastOf_ge hs
    by_cases h1 : l[i] ≤ lastOf (l.take i)
    · have e1 : isSet l = false := hbad (by rw [hsn]; simp; omega)
      simp [go_sem, hlt, hlt', getD_map, h1, e1]
      exact ⟨wd (l.take i), rfl, rfl, rfl, rfl⟩
    · by_cases h2 : 256 ≤ l[i]
      · have e1 : isSet l = false := hbad (by rw [hsn]; simp; omega)
        simp [go_sem, hlt, hlt', getD_map, h1, h2, e1]
        exact ⟨wd (l.take i), rfl, rfl, rfl, rfl⟩
      · simp [go_sem, hlt, hlt', getD_map, h1, h2]
        refine DrawW.rd rfl ?_
        have hq : l[i].tdiv 64 = 0 ∨ l[i].tdiv 64 = 1 ∨ l[i].tdiv 64 = 2 ∨ l[i].tdiv 64 = 3 := by rw [Int.tdiv_eq_ediv_of_nonneg (by omega)]; omega
        have hd : l[i].tdiv 64 = l[i].toNat / 64 := by rw [Int.tdiv_eq_ediv_of_nonneg (by omega)]; omega
        have hr : l[i].tmod 64 = (l[i].toNat % 64 : Nat) := by rw [Int.tmod_eq_emod_of_nonneg (by omega)]; omega
        obtain ⟨m, hm⟩ : ∃ m, l[i].toNat % 64 = m := ⟨_, rfl⟩
        have hm64 : m < 64 := by omega
        rw [hm] at hr
        have hlast : lastOf (l.take (i + 1)) = l[i] := by rw [htk]; unfold lastOf; rw [List.getLast?_concat]; rfl
        have hnew : ∀ k, wd (l.take (i + 1)) k = if l[i].toNat / 64 = k then wOr (wd (l.take i) k) (wShl m) else wd (l.take i) k := fun k => by rw [htk, wd_snoc, hm]
        have hs' : isSet (l.take (i + 1)) = true := by rw [hsn]; simp; omega
        have hw : IntKind.i64.wrap ((i : Int) + 1) = ((i + 1 : Nat) : Int) := by rw [i64w] <;> omega
        rcases hq with hq | hq | hq | hq
        all_goals
          have hk : l[i].toNat / 64 = _ := Int.ofNat_inj.1 (hd.symm.trans hq)
          simp [go_sem, hq, hr, hm64]
          refine ⟨by kernel_rfl, i + 1, ⟨by omega, hs'⟩, by omega, Ent.chk (by simp [go_sem, hlast, hnew, hk, hw])⟩
  · have hil : i = l.length := by omega
    subst hil
    rw [List.take_length] at hs
    simp [go_sem, hs]

theorem both_c (a b : List Int) (ha : a.length ≤ 140737488355328) (hb : b.length ≤ 140737488355328) : ACalls Tryd.prog 69 [ints a, ints b] (fun r => ∃ x y : Nat → BitVec 64, r = .many [.sv (.agg (words x)), .sv (.agg (words y)), .sv (bv (isSet a && isSet b))] ∧ (isSet a = true → x = wd a) ∧ (isSet b = true → y = wd b)) := by
  refine ACalls.of_body (fun _ _ => Tryd.call69 _ _) Tryd.func69 rfl Tryd.ntmps69 (by simp) ?_
  refine Tr.ex ?_
  simp [go_sem]
  refine OpW.fn true (of_c a ha) rfl rfl (by simp [go_sem]) (by rintro _ r ⟨x, rfl, hx⟩; simp [go_sem]) ?_
  rintro r ⟨x, rfl, hx⟩
  simp [go_sem]
  refine OpW.fn true (of_c b hb) rfl rfl (by simp [go_sem]) (by rintro _ r ⟨x, rfl, hx⟩; simp [go_sem]) ?_
  rintro r ⟨y, rfl, hy⟩
  simp [go_sem]
  refine DrawW.rd rfl ?_
  cases hsa : isSet a
  all_goals
    simp [go_sem, hsa]
    refine ⟨by kernel_rfl, x, y, ?_⟩
    first | exact ⟨by simp, hx hsa, hy⟩ | exact ⟨by simp, hy⟩
theorem setRight_c (l : List Int) (hl : l.length ≤ 140737488355328) : ACalls Tryd.prog 30 [ints l] (· = .one (.sv (bv (isSet l)))) := by
  refine ACalls.of_body (fun _ _ => Tryd.call30 _ _) Tryd.func30 rfl Tryd.ntmps30 (by simp) ?_
  refine Tr.ex ?_
  simp [go_sem]
  refine OpW.fn true (of_c l hl) rfl rfl (by simp [go_sem]) (by rintro _ r ⟨x, rfl, hx⟩; simp [go_sem]) ?_
  rintro r ⟨x, rfl, hx⟩
  simp [go_sem]
/-- Has a set a number? -/
def hasB (l : List Int) (n : Int) : Bool := isSet l && decide (n ∈ l)
/-- Words alike in what they have: one within another one. -/
theorem part_bits {a b : List Int} (ha : isSet a = true) (hb : isSet b = true) : ((List.range 4).all fun k => ((wNot (wd a k) (wd b k)).toNat : Int) == 0) = a.all fun n => decide (n ∈ b) := by
  rw [Bool.eq_iff_iff, List.all_eq_true, List.all_eq_true]
  have hz : ∀ x : BitVec 64, (((x.toNat : Int) == 0) = true) ↔ x = 0#64 := fun x => by
    rw [beq_iff_eq]
    constructor
    · intro h; exact BitVec.eq_of_toNat_eq (by simpa using h)
    · intro h; subst h; rfl
  constructor
  · intro h n hn
    have hr := isSet_mem ha n hn
    have h1 := (hz _).1 (h (n.toNat / 64) (by simp; omega))
    have h2 := wd_has ha hr.1 hr.2
    have h3 := wd_has hb hr.1 hr.2
    have h4 : (wNot (wd a (n.toNat / 64)) (wd b (n.toNat / 64))).getLsbD (n.toNat % 64) = false := by rw [h1]; simp
    unfold wNot at h4
    rw [BitVec.getLsbD_and, BitVec.getLsbD_not, h2, h3] at h4
    have h5 : n.toNat % 64 < 64 := by omega
    simpa [hn, h5] using h4
  · intro h k hk
    have hk4 : k < 4 := by simpa using hk
    rw [hz]
    ext j hj
    unfold wNot
    rw [BitVec.getElem_and, BitVec.getElem_not, ← BitVec.getLsbD_eq_getElem, ← BitVec.getLsbD_eq_getElem]
    have e1 : ((64 * k + j : Nat) : Int).toNat / 64 = k := by omega
    have e2 : ((64 * k + j : Nat) : Int).toNat % 64 = j := by omega
    have h2 := wd_has ha (n := ((64 * k + j : Nat) : Int)) (by omega) (by omega)
    have h3 := wd_has hb (n := ((64 * k + j : Nat) : Int)) (by omega) (by omega)
    rw [e1, e2] at h2 h3
    rw [h2, h3]
    simp
    intro hm
    simpa using h (64 * (k : Int) + j) hm
/-- .. nothing in both. -/
theorem apart_bits {a b : List Int} (ha : isSet a = true) (hb : isSet b = true) : ((List.range 4).all fun k => ((wAnd (wd a k) (wd b k)).toNat : Int) == 0) = a.all fun n => !decide (n ∈ b) := by
  rw [Bool.eq_iff_iff, List.all_eq_true, List.all_eq_true]
  have hz : ∀ x : BitVec 64, (((x.toNat : Int) == 0) = true) ↔ x = 0#64 := fun x => by
    rw [beq_iff_eq]
    constructor
    · intro h; exact BitVec.eq_of_toNat_eq (by simpa using h)
    · intro h; subst h; rfl
  constructor
  · intro h n hn
    have hr := isSet_mem ha n hn
    have h1 := (hz _).1 (h (n.toNat / 64) (by simp; omega))
    have h2 := wd_has ha hr.1 hr.2
    have h3 := wd_has hb hr.1 hr.2
    have h4 : (wAnd (wd a (n.toNat / 64)) (wd b (n.toNat / 64))).getLsbD (n.toNat % 64) = false := by rw [h1]; simp
    unfold wAnd at h4
    rw [BitVec.getLsbD_and, h2, h3] at h4
    simpa [hn] using h4
  · intro h k hk
    have hk4 : k < 4 := by simpa using hk
    rw [hz]
    ext j hj
    unfold wAnd
    rw [BitVec.getElem_and, ← BitVec.getLsbD_eq_getElem, ← BitVec.getLsbD_eq_getElem]
    have e1 : ((64 * k + j : Nat) : Int).toNat / 64 = k := by omega
    have e2 : ((64 * k + j : Nat) : Int).toNat % 64 = j := by omega
    have h2 := wd_has ha (n := ((64 * k + j : Nat) : Int)) (by omega) (by omega)
    have h3 := wd_has hb (n := ((64 * k + j : Nat) : Int)) (by omega) (by omega)
    rw [e1, e2] at h2 h3
    rw [h2, h3]
    simp
    intro hm
    simpa using h (64 * (k : Int) + j) hm
/-- Is a set part of another one; is nothing in both? -/
def partB (a b : List Int) : Bool := isSet a && isSet b && a.all fun n => decide (n ∈ b)
def apartB (a b : List Int) : Bool := isSet a && isSet b && a.all fun n => !decide (n ∈ b)
def okW (f : BitVec 64 → BitVec 64 → BitVec 64) (o : Bool) (x y : Nat → BitVec 64) (i : Nat) : Bool := o && (List.range i).all fun k => ((f (x k) (y k)).toNat : Int) == 0
theorem okW_succ (f : BitVec 64 → BitVec 64 → BitVec 64) (o : Bool) (x y : Nat → BitVec 64) (i : Nat) : okW f o x y (i + 1) = (okW f o x y i && ((f (x i) (y i)).toNat : Int) == 0) := by
  unfold okW
  rw [List.range_succ, List.all_append, Bool.and_assoc]
  simp

theorem okW_part {a b : List Int} {x y : Nat → BitVec 64} (hx : isSet a = true → x = wd a) (hy : isSet b = true → y = wd b) : okW wNot (isSet a && isSet b) x y 4 = partB a b := by
  unfold okW partB
  cases ha : isSet a with
  | false => rfl
  | true => cases hb : isSet b with
    | false => rfl
    | true => rw [hx ha, hy hb, part_bits ha hb]

theorem okW_apart {a b : List Int} {x y : Nat → BitVec 64} (hx : isSet a = true → x = wd a) (hy : isSet b = true → y = wd b) : okW wAnd (isSet a && isSet b) x y 4 = apartB a b := by
  unfold okW apartB
  cases ha : isSet a with
  | false => rfl
  | true => cases hb : isSet b with
    | false => rfl
    | true => rw [hx ha, hy hb, apart_bits ha hb]

theorem Part_c (a b : List Int) (ha : a.length ≤ 140737488355328) (hb : b.length ≤ 140737488355328) : ACalls Tryd.prog 28 [ints a, ints b] (· = .one (.sv (bv (partB a b)))) := by
  refine ACalls.of_body (fun _ _ => Tryd.call28 _ _) Tryd.func28 rfl Tryd.ntmps28 (by simp) ?_
  refine Tr.ex ?_
  simp [go_sem]
  refine OpW.fn true (both_c a b ha hb) rfl rfl (by simp [go_sem]) (by rintro _ r ⟨x, y, rfl, hx, hy⟩; simp [go_sem]) ?_
  rintro r ⟨x, y, rfl, hx, hy⟩
  simp [go_sem]
  refine LoopW.of (fun i : Nat => ⟨32, [(4, .sv (bv false)), (5, .box 5 0), (6, .box 6 0), (7, .sv (bv (okW wNot (isSet a && isSet b) x y i))), (16, .sv (iv i))],
      [(5, .box [.sv (u64 (x 0)), .sv (u64 (x 1)), .sv (u64 (x 2)), .sv (u64 (x 3))]), (6, .box [.sv (u64 (y 0)), .sv (u64 (y 1)), .sv (u64 (y 2)), .sv (u64 (y 3))])]⟩)
    (fun i => i ≤ 4) (fun i => 4 - i) 0 (by omega) (Ent.chk (by simp [go_sem, okW])) ?_
  rintro i hi
  by_cases hlt : i < 4
  · have hlt' : (i : Int) < 4 := by omega
    have hs := okW_succ wNot (isSet a && isSet b) x y i
    have hw : IntKind.i64.wrap ((i : Int) + 1) = (i : Int) + 1 := by rw [i64w] <;> omega
    cases ho : okW wNot (isSet a && isSet b) x y i
    · rw [ho, Bool.false_and] at hs
      simp [go_sem, hlt']
      refine DrawW.rd rfl ?_
      simp [go_sem]
      exact ⟨by kernel_rfl, i + 1, by omega, by omega, Ent.chk (by simp [go_sem, hs, hw])⟩
    · rw [ho, Bool.true_and] at hs
      have hi4 : i = 0 ∨ i = 1 ∨ i = 2 ∨ i = 3 := by omega
      rcases hi4 with rfl | rfl | rfl | rfl
      all_goals
        simp [go_sem]
        refine DrawW.rd rfl ?_
        simp [go_sem]
        refine ⟨by kernel_rfl, ?_⟩
        first | exact ⟨1, by decide, by decide, Ent.chk (by simp [go_sem, hs])⟩ | exact ⟨2, by decide, by decide, Ent.chk (by simp [go_sem, hs])⟩ | exact ⟨3, by decide, by decide, Ent.chk (by simp [go_sem, hs])⟩ | exact ⟨4, by decide, by decide, Ent.chk (by simp [go_sem, hs])⟩
  · have hil : i = 4 := by omega
    subst hil
    simp [go_sem, okW_part hx hy]
theorem Apart_c (a b : List Int) (ha : a.length ≤ 140737488355328) (hb : b.length ≤ 140737488355328) : ACalls Tryd.prog 29 [ints a, ints b] (· = .one (.sv (bv (apartB a b)))) := by
  refine ACalls.of_body (fun _ _ => Tryd.call29 _ _) Tryd.func29 rfl Tryd.ntmps29 (by simp) ?_
  refine Tr.ex ?_
  simp [go_sem]
  refine OpW.fn true (both_c a b ha hb) rfl rfl (by simp [go_sem]) (by rintro _ r ⟨x, y, rfl, hx, hy⟩; simp [go_sem]) ?_
  rintro r ⟨x, y, rfl, hx, hy⟩
  simp [go_sem]
  refine LoopW.of (fun i : Nat => ⟨32, [(4, .sv (bv false)), (5, .box 5 0), (6, .box 6 0), (7, .sv (bv (okW wAnd (isSet a && isSet b) x y i))), (16, .sv (iv i))],
      [(5, .box [.sv (u64 (x 0)), .sv (u64 (x 1)), .sv (u64 (x 2)), .sv (u64 (x 3))]), (6, .box [.sv (u64 (y 0)), .sv (u64 (y 1)), .sv (u64 (y 2)), .sv (u64 (y 3))])]⟩)
    (fun i => i ≤ 4) (fun i => 4 - i) 0 (by omega) (Ent.chk (by simp [go_sem, okW])) ?_
  rintro i hi
  by_cases hlt : i < 4
  · have hlt' : (i : Int) < 4 := by omega
    have hs := okW_succ wAnd (isSet a && isSet b) x y i
    have hw : IntKind.i64.wrap ((i : Int) + 1) = (i : Int) + 1 := by rw [i64w] <;> omega
    cases ho : okW wAnd (isSet a && isSet b) x y i
    · rw [ho, Bool.false_and] at hs
      simp [go_sem, hlt']
      refine DrawW.rd rfl ?_
      simp [go_sem]
      exact ⟨by kernel_rfl, i + 1, by omega, by omega, Ent.chk (by simp [go_sem, hs, hw])⟩
    · rw [ho, Bool.true_and] at hs
      have hi4 : i = 0 ∨ i = 1 ∨ i = 2 ∨ i = 3 := by omega
      rcases hi4 with rfl | rfl | rfl | rfl
      all_goals
        simp [go_sem]
        refine DrawW.rd rfl ?_
        simp [go_sem]
        refine ⟨by kernel_rfl, ?_⟩
        first | exact ⟨1, by decide, by decide, Ent.chk (by simp [go_sem, hs])⟩ | exact ⟨2, by decide, by decide, Ent.chk (by simp [go_sem, hs])⟩ | exact ⟨3, by decide, by decide, Ent.chk (by simp [go_sem, hs])⟩ | exact ⟨4, by decide, by decide, Ent.chk (by simp [go_sem, hs])⟩
  · have hil : i = 4 := by omega
    subst hil
    simp [go_sem, okW_apart hx hy]
end Go.Proofs.YtfcojlagmmgagaaDoor.Ab
