/- Things, as values. The reference of chapter 1: Same. Sets: what set.of, Right, Has, Part and Apart answer. Sets, plainly: what is strictly increasing, below 256. Tags: strings.ContainsFunc over the letters: each function of the library on the way, walked. Tags: the closure, strings.indexFunc over it, graph.Tag. Graphs: graph.part, Right, there. Graphs: there, Under. slices.Reverse; graph.Above, Node. graph.Kinds, Nodes. slices.Clone, ContainsFunc; health. Graphs, plainly: what is under what; counts. The reference of chapter 5: Tag, Right. Specs: spec.Right; the reference's (as in MaA, for seats without graphs). -/
import Derived.Test.YtnkcenafpigmbaaAb3
import Derived.Test.YtnkcenafpigmbaaTy1
import Derived.Lib.Strings
import Derived.Lib.Slices
import Derived.Lib.Walk
import Derived.Lib.Bytealg
import Derived.Lib.OthersKept
import Derived.Lib.TrimU
import Derived.Deep.LoopGhost
import Derived.Laws.RangeString
import Derived.Laws.RangeAny
namespace Go.Proofs.Ytnkcenafpigmbaa.Ab
open Go.RowKit
structure Thing where
  kind : Int
  up : Int
  tag : ByteArray
  deriving Inhabited
def thingSV (t : Thing) : SV := .agg [iv t.kind, iv t.up, sv' t.tag]
def ThingOk (t : Thing) : Prop := (Lit.int .i64 t.kind).wf = true ∧ (Lit.int .i64 t.up).wf = true ∧ t.tag.size ≤ 140737488351232
theorem ThingOk_mk {p : Int × Int × ByteArray × Unit} (h : (Lit.int .i64 p.1).wf = true ∧ (Lit.int .i64 p.2.1).wf = true ∧ p.2.2.1.size ≤ 140737488351232 ∧ True) : ThingOk ⟨p.1, p.2.1, p.2.2.1⟩ := ⟨h.1, h.2.1, h.2.2.1⟩
def things (g : List Thing) : SV := .lst (g.map thingSV)
attribute [go_sem] thingSV things sv'
end Go.Proofs.Ytnkcenafpigmbaa.Ab

namespace Go.Proofs.Ytnkcenafpigmbaa.Ab
open Go.RowKit
set_option linter.unusedVariables false
set_option linter.unusedSimpArgs false

theorem Same_c (a b : List Int) (ha : a.length ≤ 140737488355328) (hb : b.length ≤ 140737488355328) : ACalls Try.prog 14 [ints a, ints b] (· = .one (.sv (bv (decide (a = b))))) := by
  refine ACalls.of_body (fun _ _ => Try.call14 _ _) Try.func14 rfl Try.ntmps14 (by simp) ?_
  refine Tr.ex ?_
  simp [go_sem]
  refine cnd.part (fun h => ?_) (fun h => ?_)
  · simp [go_sem]
    rintro rfl
    simp at h
  · simp [go_sem]
    have hl : a.length = b.length := by simp at h; omega
    refine LoopW.of (fun i : Nat => ⟨26, [(0, .sv (ints a)), (1, .sv (ints b)), (5, .sv (iv i))], []⟩) (fun i => i ≤ a.length ∧ ∀ j, j < i → a.getD j 0 = b.getD j 0) (fun i => a.length - i) 0 ⟨by omega, fun j h => by omega⟩ (Ent.chk (by simp [go_sem])) ?_
    rintro i ⟨hi, heq⟩
    simp [go_sem]
    refine cnd.part (fun h => ?_) (fun h => ?_)
    · have hlt : i < a.length := by simpa using h
      have hlt' : i < b.length := by omega
      simp [go_sem]
      refine DrawW.rd rfl ?_
      simp [go_sem, getD_map, hlt, hlt']
      refine ⟨by kernel_rfl, ?_⟩
      refine cnd.part (fun h => ?_) (fun h => ?_)
      · simp [go_sem]
        rintro rfl
        simp at h
      · simp [go_sem]
        have hab : a[i] = b[i] := by simpa using h
        refine ⟨i + 1, ⟨by omega, fun j hj => ?_⟩, by omega, Ent.chk (by simp [go_sem]; rw [i64w] <;> omega)⟩
        by_cases hji : j = i
        · subst hji; simp [hlt, hlt', hab]
        · have := heq j (by omega); simpa using this
    · have hia : i = a.length := by simp at h; omega
      simp [go_sem]
      refine List.ext_getElem hl fun j h1 h2 => ?_
      have := heq j (by omega)
      simpa [h1, h2] using this
end Go.Proofs.Ytnkcenafpigmbaa.Ab

namespace Go.Proofs.Ytnkcenafpigmbaa.Ab
open Go.RowKit
set_option linter.unusedVariables false
set_option linter.unusedSimpArgs false
attribute [go_sem] iand ior ixor iandn

/-- A word of bits. -/
def u64 (x : BitVec 64) : SV := .val (.int .u64 (x.toNat : Int))
attribute [go_sem] u64
theorem bv_of (x : BitVec 64) : BitVec.ofInt 64 (x.toNat : Int) = x := by simp
theorem u64x (x : BitVec 64) : IntKind.u64.wrap (x.toNat : Int) = (x.toNat : Int) := u64w _ (by omega) (by have := x.isLt; omega)
def wOr (x y : BitVec 64) : BitVec 64 := x ||| y
def wAnd (x y : BitVec 64) : BitVec 64 := x &&& y
def wNot (x y : BitVec 64) : BitVec 64 := x &&& ~~~y
def wShl (k : Nat) : BitVec 64 := 1#64 <<< k
def wShr (x : BitVec 64) (k : Nat) : BitVec 64 := x >>> k
theorem ibin_or (x y : BitVec 64) : ibin .or .u64 (x.toNat : Int) (y.toNat : Int) = some (.int .u64 ((wOr x y).toNat : Int)) := by
  show some (Value.int .u64 (IntKind.u64.wrap ((BitVec.ofInt 64 (x.toNat : Int) ||| BitVec.ofInt 64 (y.toNat : Int)).toNat : Int))) = _
  rw [bv_of, bv_of, u64x]; rfl
theorem ibin_and (x y : BitVec 64) : ibin .and .u64 (x.toNat : Int) (y.toNat : Int) = some (.int .u64 ((wAnd x y).toNat : Int)) := by
  show some (Value.int .u64 (IntKind.u64.wrap ((BitVec.ofInt 64 (x.toNat : Int) &&& BitVec.ofInt 64 (y.toNat : Int)).toNat : Int))) = _
  rw [bv_of, bv_of, u64x]; rfl
theorem ibin_and1 (x : BitVec 64) : ibin .and .u64 (x.toNat : Int) 1 = some (.int .u64 ((wAnd x 1#64).toNat : Int)) := ibin_and x 1#64
theorem ibin_not (x y : BitVec 64) : ibin .andNot .u64 (x.toNat : Int) (y.toNat : Int) = some (.int .u64 ((wNot x y).toNat : Int)) := by
  show some (Value.int .u64 (IntKind.u64.wrap ((BitVec.ofInt 64 (x.toNat : Int) &&& ~~~BitVec.ofInt 64 (y.toNat : Int)).toNat : Int))) = _
  rw [bv_of, bv_of, u64x]; rfl
theorem ishift_shl (k : Nat) (h : k < 64) : ishift .shl .u64 1 (k : Int) = some (.int .u64 ((wShl k).toNat : Int)) := by
  have h1 : 2 ^ k < 18446744073709551616 := Nat.pow_lt_pow_right (a := 2) (by omega) (n := 64) h
  have h2 : ¬ (k : Int) < 0 := by omega
  show (if (k : Int) < 0 then none else some (Value.int .u64 (IntKind.u64.wrap (1 * 2 ^ (min k 64))))) = _
  rw [if_neg h2, Nat.min_eq_left (by omega), Int.one_mul, show ((2 : Int) ^ k) = ((2 ^ k : Nat) : Int) by simp, u64w _ (Int.natCast_nonneg _) (by omega)]
  congr 3
  simp [wShl, BitVec.toNat_shiftLeft, Nat.shiftLeft_eq, Nat.mod_eq_of_lt h1]
theorem ishift_shr (x : BitVec 64) (k : Nat) (h : k < 64) : ishift .shr .u64 (x.toNat : Int) (k : Int) = some (.int .u64 ((wShr x k).toNat : Int)) := by
  have h2 : ¬ (k : Int) < 0 := by omega
  show (if (k : Int) < 0 then none else some (Value.int .u64 ((x.toNat : Int).fdiv (2 ^ (min k 64))))) = _
  rw [if_neg h2, Nat.min_eq_left (by omega), show ((2 : Int) ^ k) = ((2 ^ k : Nat) : Int) by simp, Int.fdiv_eq_ediv_of_nonneg _ (Int.natCast_nonneg _)]
  congr 3
  simp [wShr, BitVec.toNat_ushiftRight, Nat.shiftRight_eq_div_pow]
attribute [go_sem ↓] ibin_or ibin_and ibin_and1 ibin_not ishift_shl ishift_shr

/-- Is it a set, above a number? -/
def setFrom (last : Int) : List Int → Bool
  | [] => true
  | n :: l => decide (last < n) && decide (n < 256) && setFrom n l
def isSet (l : List Int) : Bool := setFrom (-1) l
def lastOf (l : List Int) : Int := l.getLast?.getD (-1)
theorem setFrom_snoc (n : Int) : ∀ (l : List Int) (last : Int), setFrom last (l ++ [n]) = (setFrom last l && decide (l.getLast?.getD last < n) && decide (n < 256))
  | [], last => by simp [setFrom]; rfl
  | m :: l, last => by
    simp only [List.cons_append, setFrom, setFrom_snoc n l m, Bool.and_assoc]
    cases l with
    | nil => rfl
    | cons k l => simp [List.getLast?_cons_cons, List.getLast?_cons]
theorem isSet_snoc (l : List Int) (n : Int) : isSet (l ++ [n]) = (isSet l && decide (lastOf l < n) && decide (n < 256)) := setFrom_snoc n l (-1)
theorem setFrom_mem : ∀ {l : List Int} {last : Int}, setFrom last l = true → ∀ n ∈ l, last < n ∧ n < 256
  | [], _, _, n, hn => by cases hn
  | m :: l, last, h, n, hn => by
    simp only [setFrom, Bool.and_eq_true, decide_eq_true_eq] at h
    cases hn with
    | head => exact h.1
    | tail _ hn => have := setFrom_mem h.2 n hn; omega
theorem isSet_mem {l : List Int} (h : isSet l = true) : ∀ n ∈ l, 0 ≤ n ∧ n < 256 := fun n hn => by have := setFrom_mem h n hn; omega
theorem lastOf_ge {l : List Int} (h : isSet l = true) : -1 ≤ lastOf l := by
  unfold lastOf
  cases hl : l.getLast? with
  | none => simp
  | some n => have := isSet_mem h n (List.mem_of_getLast? hl); simp; omega
theorem setFrom_bad : ∀ (a b : List Int) (last : Int), setFrom last a = false → setFrom last (a ++ b) = false
  | [], b, last, h => by simp [setFrom] at h
  | m :: a, b, last, h => by
    simp only [setFrom, List.cons_append, Bool.and_eq_false_iff] at h ⊢
    rcases h with h | h
    · exact .inl h
    · exact .inr (setFrom_bad a b m h)
theorem isSet_take {l : List Int} {i : Nat} (h : isSet l = true) : isSet (l.take i) = true := by
  cases hh : isSet (l.take i) with
  | true => rfl
  | false => have := setFrom_bad (l.take i) (l.drop i) (-1) hh; rw [List.take_append_drop] at this; rw [show isSet l = false from this] at h; cases h

/-- The word k of a list's bits. -/
def wd (l : List Int) (k : Nat) : BitVec 64 := l.foldl (fun a n => if n.toNat / 64 = k then wOr a (wShl (n.toNat % 64)) else a) 0#64
theorem wd_snoc (l : List Int) (n : Int) (k : Nat) : wd (l ++ [n]) k = if n.toNat / 64 = k then wOr (wd l k) (wShl (n.toNat % 64)) else wd l k := by
  unfold wd
  rw [List.foldl_append]
  rfl
theorem wd_bit (l : List Int) (k j : Nat) (hj : j < 64) : (wd l k).getLsbD j = l.any fun n => decide (n.toNat / 64 = k) && decide (n.toNat % 64 = j) := by
  suffices h : ∀ (l : List Int) (a : BitVec 64), (l.foldl (fun a n => if n.toNat / 64 = k then wOr a (wShl (n.toNat % 64)) else a) a).getLsbD j = (a.getLsbD j || l.any fun n => decide (n.toNat / 64 = k) && decide (n.toNat % 64 = j)) by
    have := h l 0#64
    simpa [wd] using this
  intro l
  induction l with
  | nil => intro a; simp
  | cons n l ih =>
    intro a
    rw [List.foldl_cons, ih, List.any_cons]
    by_cases hk : n.toNat / 64 = k
    · rw [if_pos hk]
      simp only [wOr, wShl, BitVec.getLsbD_or, BitVec.getLsbD_shiftLeft, BitVec.getLsbD_one, hk, decide_true, Bool.true_and, hj, Bool.or_assoc]
      congr 1
      by_cases hm : n.toNat % 64 = j
      · subst hm; simp
      · have : (decide (n.toNat % 64 = j)) = false := by simp [hm]
        rw [this]
        by_cases hlt : j < n.toNat % 64
        · simp [hlt]
        · have : ¬ j - n.toNat % 64 = 0 := by omega
          simp [hlt, this]
    · rw [if_neg hk]
      simp [hk]
theorem wd_has {l : List Int} (h : isSet l = true) {n : Int} (h0 : 0 ≤ n) (h1 : n < 256) : (wd l (n.toNat / 64)).getLsbD (n.toNat % 64) = decide (n ∈ l) := by
  rw [wd_bit _ _ _ (by omega)]
  rw [Bool.eq_iff_iff]
  simp only [List.any_eq_true, Bool.and_eq_true, decide_eq_true_eq]
  constructor
  · rintro ⟨m, hm, h2, h3⟩
    have := isSet_mem h m hm
    have e : m = n := by omega
    exact e ▸ hm
  · intro hm
    exact ⟨n, hm, rfl, rfl⟩

def words (x : Nat → BitVec 64) : List SV := [u64 (x 0), u64 (x 1), u64 (x 2), u64 (x 3)]
attribute [go_sem] words
/-- Has a set a number? -/
def hasB (l : List Int) (n : Int) : Bool := isSet l && decide (n ∈ l)
/-- Words alike in what they have: one within another one. -/
theorem part_bits {a b : List Int} (ha : isSet a = true) (hb : isSet b = true) : ((List.range 4).all fun k => ((wNot (wd a k) (wd b k)).toNat : Int) == 0) = a.all fun n => decide (n ∈ b) := by
  rw [Bool.eq_iff_iff, List.all_eq_true, List.all_eq_true]
  have hz : ∀ x : BitVec 64, (((x.toNat : Int) == 0) = true) ↔ x = 0#64 := fun x => by
    rw [beq_iff_eq]
    constructor
    · intro h; exact BitVec.eq_of_toNat_eq (by simpa using h)
    · intro h; subst h; rfl
  constructor
  · intro h n hn
    have hr := isSet_mem ha n hn
    have h1 := (hz _).1 (h (n.toNat / 64) (by simp; omega))
    have h2 := wd_has ha hr.1 hr.2
    have h3 := wd_has hb hr.1 hr.2
    have h4 : (wNot (wd a (n.toNat / 64)) (wd b (n.toNat / 64))).getLsbD (n.toNat % 64) = false := by rw [h1]; simp
    unfold wNot at h4
    rw [BitVec.getLsbD_and, BitVec.getLsbD_not, h2, h3] at h4
    have h5 : n.toNat % 64 < 64 := by omega
    simpa [hn, h5] using h4
  · intro h k hk
    have hk4 : k < 4 := by simpa using hk
    rw [hz]
    ext j hj
    unfold wNot
    rw [BitVec.getElem_and, BitVec.getElem_not, ← BitVec.getLsbD_eq_getElem, ← BitVec.getLsbD_eq_getElem]
    have e1 : ((64 * k + j : Nat) : Int).toNat / 64 = k := by omega
    have e2 : ((64 * k + j : Nat) : Int).toNat % 64 = j := by omega
    have h2 := wd_has ha (n := ((64 * k + j : Nat) : Int)) (by omega) (by omega)
    have h3 := wd_has hb (n := ((64 * k + j : Nat) : Int)) (by omega) (by omega)
    rw [e1, e2] at h2 h3
    rw [h2, h3]
    simp
    intro hm
    simpa using h (64 * (k : Int) + j) hm
/-- .. nothing in both. -/
theorem apart_bits {a b : List Int} (ha : isSet a = true) (hb : isSet b = true) : ((List.range 4).all fun k => ((wAnd (wd a k) (wd b k)).toNat : Int) == 0) = a.all fun n => !decide (n ∈ b) := by
  rw [Bool.eq_iff_iff, List.all_eq_true, List.all_eq_true]
  have hz : ∀ x : BitVec 64, (((x.toNat : Int) == 0) = true) ↔ x = 0#64 := fun x => by
    rw [beq_iff_eq]
    constructor
    · intro h; exact BitVec.eq_of_toNat_eq (by simpa using h)
    · intro h; subst h; rfl
  constructor
  · intro h n hn
    have hr := isSet_mem ha n hn
    have h1 := (hz _).1 (h (n.toNat / 64) (by simp; omega))
    have h2 := wd_has ha hr.1 hr.2
    have h3 := wd_has hb hr.1 hr.2
    have h4 : (wAnd (wd a (n.toNat / 64)) (wd b (n.toNat / 64))).getLsbD (n.toNat % 64) = false := by rw [h1]; simp
    unfold wAnd at h4
    rw [BitVec.getLsbD_and, h2, h3] at h4
    simpa [hn] using h4
  · intro h k hk
    have hk4 : k < 4 := by simpa using hk
    rw [hz]
    ext j hj
    unfold wAnd
    rw [BitVec.getElem_and, ← BitVec.getLsbD_eq_getElem, ← BitVec.getLsbD_eq_getElem]
    have e1 : ((64 * k + j : Nat) : Int).toNat / 64 = k := by omega
    have e2 : ((64 * k + j : Nat) : Int).toNat % 64 = j := by omega
    have h2 := wd_has ha (n := ((64 * k + j : Nat) : Int)) (by omega) (by omega)
    have h3 := wd_has hb (n := ((64 * k + j : Nat) : Int)) (by omega) (by omega)
    rw [e1, e2] at h2 h3
    rw [h2, h3]
    simp
    intro hm
    simpa using h (64 * (k : Int) + j) hm
/-- Is a set part of another one; is nothing in both? -/
def partB (a b : List Int) : Bool := isSet a && isSet b && a.all fun n => decide (n ∈ b)
def apartB (a b : List Int) : Bool := isSet a && isSet b && a.all fun n => !decide (n ∈ b)
def okW (f : BitVec 64 → BitVec 64 → BitVec 64) (o : Bool) (x y : Nat → BitVec 64) (i : Nat) : Bool := o && (List.range i).all fun k => ((f (x k) (y k)).toNat : Int) == 0
theorem okW_succ (f : BitVec 64 → BitVec 64 → BitVec 64) (o : Bool) (x y : Nat → BitVec 64) (i : Nat) : okW f o x y (i + 1) = (okW f o x y i && ((f (x i) (y i)).toNat : Int) == 0) := by
  unfold okW
  rw [List.range_succ, List.all_append, Bool.and_assoc]
  simp

theorem okW_part {a b : List Int} {x y : Nat → BitVec 64} (hx : isSet a = true → x = wd a) (hy : isSet b = true → y = wd b) : okW wNot (isSet a && isSet b) x y 4 = partB a b := by
  unfold okW partB
  cases ha : isSet a with
  | false => rfl
  | true => cases hb : isSet b with
    | false => rfl
    | true => rw [hx ha, hy hb, part_bits ha hb]

theorem okW_apart {a b : List Int} {x y : Nat → BitVec 64} (hx : isSet a = true → x = wd a) (hy : isSet b = true → y = wd b) : okW wAnd (isSet a && isSet b) x y 4 = apartB a b := by
  unfold okW apartB
  cases ha : isSet a with
  | false => rfl
  | true => cases hb : isSet b with
    | false => rfl
    | true => rw [hx ha, hy hb, apart_bits ha hb]

end Go.Proofs.Ytnkcenafpigmbaa.Ab

namespace Go.Proofs.Ytnkcenafpigmbaa.Ab
set_option linter.unusedVariables false
set_option linter.unusedSimpArgs false

theorem setFrom_iff : ∀ {l : List Int} {last : Int}, setFrom last l = true ↔ (l.Pairwise (· < ·) ∧ ∀ n ∈ l, last < n ∧ n < 256)
  | [], last => by simp [setFrom]
  | m :: l, last => by
    simp only [setFrom, Bool.and_eq_true, decide_eq_true_eq, setFrom_iff (l := l) (last := m), List.pairwise_cons, List.mem_cons]
    constructor
    · rintro ⟨⟨h1, h2⟩, h3, h4⟩
      exact ⟨⟨fun a ha => (h4 a ha).1, h3⟩, fun n hn => by
        rcases hn with rfl | hn
        · exact ⟨h1, h2⟩
        · have := h4 n hn; omega⟩
    · rintro ⟨⟨h1, h2⟩, h3⟩
      exact ⟨h3 m (.inl rfl), h2, fun n hn => ⟨h1 n hn, (h3 n (.inr hn)).2⟩⟩
theorem isSet_iff {l : List Int} : isSet l = true ↔ (l.Pairwise (· < ·) ∧ ∀ n ∈ l, 0 ≤ n ∧ n < 256) := by
  unfold isSet
  rw [setFrom_iff]
  constructor
  · rintro ⟨h1, h2⟩; exact ⟨h1, fun n hn => by have := h2 n hn; omega⟩
  · rintro ⟨h1, h2⟩; exact ⟨h1, fun n hn => by have := h2 n hn; omega⟩
theorem sorted_ext : ∀ {a b : List Int}, a.Pairwise (· < ·) → b.Pairwise (· < ·) → (∀ n, n ∈ a ↔ n ∈ b) → a = b
  | [], [], _, _, _ => rfl
  | [], y :: b, _, _, h => by have := (h y).2 List.mem_cons_self; cases this
  | x :: a, [], _, _, h => by have := (h x).1 List.mem_cons_self; cases this
  | x :: a, y :: b, ha, hb, h => by
    rw [List.pairwise_cons] at ha hb
    have hxy : x = y := by
      have h1 := (h x).1 List.mem_cons_self
      have h2 := (h y).2 List.mem_cons_self
      rcases List.mem_cons.1 h1 with h1 | h1
      · exact h1
      · rcases List.mem_cons.1 h2 with h2 | h2
        · exact h2.symm
        · have := hb.1 x h1; have := ha.1 y h2; omega
    subst hxy
    congr 1
    refine sorted_ext ha.2 hb.2 fun n => ?_
    have := h n
    constructor
    · intro hn
      rcases List.mem_cons.1 (this.1 (List.mem_cons_of_mem _ hn)) with rfl | h3
      · have := ha.1 n hn; omega
      · exact h3
    · intro hn
      rcases List.mem_cons.1 (this.2 (List.mem_cons_of_mem _ hn)) with rfl | h3
      · have := hb.1 n hn; omega
      · exact h3
theorem set_ext {a b : List Int} (ha : isSet a = true) (hb : isSet b = true) (h : ∀ n, n ∈ a ↔ n ∈ b) : a = b := sorted_ext (isSet_iff.1 ha).1 (isSet_iff.1 hb).1 h
/-- The numbers below n of which p holds. -/
def rangeF (p : Nat → Bool) (n : Nat) : List Int := ((List.range n).filter p).map Int.ofNat
theorem mem_rangeF {p : Nat → Bool} {n : Nat} {k : Int} : k ∈ rangeF p n ↔ 0 ≤ k ∧ k < n ∧ p k.toNat = true := by
  unfold rangeF
  simp only [List.mem_map, List.mem_filter, List.mem_range]
  constructor
  · rintro ⟨i, ⟨h1, h2⟩, rfl⟩
    exact ⟨by simp, by simpa using h1, by simpa using h2⟩
  · rintro ⟨h1, h2, h3⟩
    exact ⟨k.toNat, ⟨by omega, h3⟩, by simp; omega⟩
theorem rangeF_sorted (p : Nat → Bool) (n : Nat) : (rangeF p n).Pairwise (· < ·) := by
  unfold rangeF
  rw [List.pairwise_map]
  refine List.Pairwise.imp ?_ (List.Pairwise.filter p List.pairwise_lt_range)
  intro a b h
  simpa using h
theorem rangeF_set (p : Nat → Bool) {n : Nat} (hn : n ≤ 256) : isSet (rangeF p n) = true := isSet_iff.2 ⟨rangeF_sorted p n, fun k hk => by have := mem_rangeF.1 hk; omega⟩
theorem rangeF_len (p : Nat → Bool) (n : Nat) : (rangeF p n).length ≤ n := by
  unfold rangeF; rw [List.length_map]; exact Nat.le_trans (List.length_filter_le _ _) (by simp)
theorem rangeF_succ (p : Nat → Bool) (i : Nat) : rangeF p (i + 1) = if p i = true then rangeF p i ++ [(i : Int)] else rangeF p i := by
  unfold rangeF
  rw [List.range_succ, List.filter_append, List.map_append]
  split
  · rename_i h; simp [h]
  · rename_i h; simp [h]
theorem rangeF_zero (p : Nat → Bool) : rangeF p 0 = [] := rfl
theorem rangeF_congr {p q : Nat → Bool} {n : Nat} (h : ∀ i, i < n → p i = q i) : rangeF p n = rangeF q n := by
  unfold rangeF
  rw [List.filter_congr fun i hi => h i (List.mem_range.1 hi)]
theorem nil_set : isSet [] = true := rfl
theorem set_len {l : List Int} (h : isSet l = true) : l.length ≤ 256 := by
  have h2 := (isSet_iff.1 h).2
  have : l = rangeF (fun i => decide ((i : Int) ∈ l)) 256 := set_ext h (rangeF_set _ (Nat.le_refl _)) fun n => by
    rw [mem_rangeF]
    constructor
    · intro hn
      have := h2 n hn
      exact ⟨this.1, this.2, by simpa [Int.toNat_of_nonneg this.1] using hn⟩
    · rintro ⟨h3, _, h4⟩
      simpa [Int.toNat_of_nonneg h3] using h4
  rw [this]; exact rangeF_len _ _
theorem partB_iff {a b : List Int} (ha : isSet a = true) (hb : isSet b = true) : partB a b = true ↔ ∀ n ∈ a, n ∈ b := by
  unfold partB; rw [ha, hb]; simp
theorem apartB_iff {a b : List Int} (ha : isSet a = true) (hb : isSet b = true) : apartB a b = true ↔ ∀ n ∈ a, n ∉ b := by
  unfold apartB; rw [ha, hb]; simp
end Go.Proofs.Ytnkcenafpigmbaa.Ab

namespace Go.Proofs.Ytnkcenafpigmbaa.Ab
open Go.RowKit
set_option linter.unusedVariables false
set_option linter.unusedSimpArgs false

/-- The tables lie in the world. -/
def GWx (w : World) : Prop := GW w (· < w.heap.size)
theorem Okl.x {w : World} {ok : Nat → Prop} (h : Okl w ok) : GWx w := h.gw.keep fun b hb => ⟨h.lt b hb, rfl⟩
theorem GWx.below {w w' : World} (h : GWx w) (hb : Below w.heap.size w w') : GWx w' := GW.keep h fun b hk => ⟨Nat.lt_of_lt_of_le hk hb.size, hb.block b hk⟩
/-- Nothing that was has turned, and draws never go back. -/
structure BelD (B : Nat) (w w' : World) : Prop extends Below B w w' where
  drawn : w.drawn ≤ w'.drawn
theorem BelD.refl (B : Nat) (w : World) : BelD B w w := ⟨Below.refl B w, Nat.le_refl _⟩
theorem BelD.trans {B : Nat} {a b c : World} (h : BelD B a b) (k : BelD B b c) : BelD B a c := ⟨h.toBelow.trans k.toBelow, Nat.le_trans h.drawn k.drawn⟩
theorem BelD.mono {B B' : Nat} {w w' : World} (h : BelD B w w') (hB : B' ≤ B) : BelD B' w w' := ⟨h.toBelow.mono hB, h.drawn⟩
/-- What is returned is one value, and nothing that was has turned. -/
theorem fin_val {w w' : World} {ok : Nat → Prop} {v : Value} {R : RV → Prop} (hb : BelD w.heap.size w w') (hok : Okl w ok) (hR : R (.one (.sv (.val v)))) :
    ∃ (r : RV) (vs : List Value) (E1 : Env), R r ∧ Ending.returned v = .returned (r.val vs) ∧ Inv (· < w.heap.size) w' E1 (cst r.comps) ⟨vs.toArray, []⟩ ∧ Evo (· < w.heap.size) w ⟨ok, E1.at_⟩ w' E1 := by
  refine ⟨_, [v], ⟨ok, fun _ => none⟩, hR, rfl, ⟨rfl, rfl, fun d x hx => ?_, fun t o ho => by simp [cst, impM, RV.comps, lk] at ho, fun t t' o o' g c s c' s' k1 => by simp [cst, impM, RV.comps, lk] at k1, fun t o g c s k1 => by simp [cst, impM, RV.comps, lk] at k1, ⟨fun b hb' => Nat.lt_of_lt_of_le (hok b hb') hb.size, hok.gw.keep fun b hb' => ⟨hb', hb.block b (hok b hb')⟩⟩, fun b hb' => Nat.lt_of_lt_of_le hb' hb.size⟩,
    ⟨hb.os, hb.tape, hb.output, hb.size, fun b hb' => hb.block b hb', fun b hb' => ⟨hb', hb.block b (hok b hb')⟩, fun b hb' => .inl hb', fun _ _ => rfl, hb.drawn⟩⟩
  simp only [cst, RV.comps, ent1, lk] at hx
  split at hx
  · rename_i e; subst e
    simp only [R1.av, Option.some.injEq] at hx; subst hx
    exact ⟨v, by simp, RepV.val_mk v⟩
  · cases hx
/-- From a contract of the kit's to one of ours: numbers, strings and bools alone. -/
theorem ACalls.ofVals {P : Program} {g g' : FuncId} {us : List Value} {v : Value} (hcall : ∀ (cargs : Array Value) (w : World), (callFunc g cargs).run P w = .ok (.enter g' cargs) w) (h : ∀ w, Calls P g' us.toArray w fun e w' => e = .returned v ∧ BelD w.heap.size w w') :
    ACalls P g (us.map .val) (· = .one (.sv (.val v))) := by
  refine ⟨g', hcall, fun w ok cargs hok hargs => ?_⟩
  have : cargs = us.toArray := by
    apply Array.toList_inj.1
    have : ∀ {us vs : List Value}, RepL w ok (us.map .val) vs → vs = us := by
      intro us
      induction us with
      | nil => intro vs h; simpa only [List.map_nil, RepL] using h
      | cons u us ih =>
        intro vs h
        simp only [List.map_cons, RepL, RepS] at h
        obtain ⟨v, vs', rfl, rfl, h⟩ := h
        rw [ih h]
    simpa using this hargs
  subst this
  refine (h w).mono ?_
  rintro e w' ⟨rfl, hb⟩
  exact fin_val hb hok rfl

set_option maxRecDepth 100000 in
theorem stringslite_IndexByte (s : ByteArray) (c : Int) (w : World) :
    Calls Try.prog 132 #[.string s, .int .u8 c] w fun e w' => e = .returned (.int .i64 (Lib.indexByte s.data.toList c.toNat.toUInt8)) ∧ w' = w := by
  go_enter Try.func132, Try.ntmps132
  go_wp2
  rw [run_callFunc_extern Try.func133 (by kernel_rfl) (by kernel_rfl) (by kernel_rfl) (e := Extern.BytealgIndexByte.indexByte) (by kernel_rfl), Lib.run_indexByteString]
  simp only [Result.andThen]
  rw [Oper.upon_value]
  go_wp2
  go_ret
  exact ⟨rfl, rfl⟩
set_option maxRecDepth 100000 in
theorem strings_IndexByte (s : ByteArray) (c : Int) (w : World) :
    Calls Try.prog 127 #[.string s, .int .u8 c] w fun e w' => e = .returned (.int .i64 (Lib.indexByte s.data.toList c.toNat.toUInt8)) ∧ w' = w := by
  go_enter Try.func127, Try.ntmps127
  go_wp2_with (go_at_call 132; refine (stringslite_IndexByte _ _ _).mono ?_; rintro e w' ⟨rfl, rfl⟩)
  go_ret
  exact ⟨rfl, rfl⟩
theorem IndexByte_c (s : ByteArray) (c : Int) : ACalls Try.prog 127 [.val (.string s), .val (.int .u8 c)] (· = .one (.sv (iv (Lib.indexByte s.data.toList c.toNat.toUInt8)))) :=
  ACalls.ofVals (us := [.string s, .int .u8 c]) (fun _ _ => Try.call127 _ _) fun w => (strings_IndexByte s c w).mono fun e w' ⟨h1, h2⟩ => ⟨h1, h2 ▸ BelD.refl _ _⟩

/-- The letters of tags. -/
def letters : ByteArray := { data := #[97, 98, 99, 100, 101, 102, 103, 104, 105, 106, 107, 108, 109, 110, 111, 112, 113, 114, 115, 116, 117, 118, 119, 120, 121, 122, 48, 49, 50, 51, 52, 53, 54, 55, 56, 57] }
def isLet (c : Nat) : Bool := (decide (97 ≤ c) && decide (c ≤ 122)) || (decide (48 ≤ c) && decide (c ≤ 57))
theorem let_index (c : Nat) (h : c < 128) : decide (0 ≤ Lib.indexByte letters.data.toList c.toUInt8) = isLet c := by
  revert c
  decide +kernel
theorem let_high (c : UInt8) (h : 128 ≤ c.toNat) (k : Nat) : Lib.indexByte ((letters.extract k letters.size).data.toList) c = -1 := by
  have hall : ∀ b ∈ (letters.extract k letters.size).data.toList, b.toNat < 128 := by
    intro b hb
    have h1 : b ∈ letters.data.toList := by
      rw [ByteArray.data_extract, Array.toList_extract] at hb
      rw [List.extract_eq_take_drop] at hb
      exact List.mem_of_mem_drop (List.mem_of_mem_take hb)
    have : ∀ b ∈ letters.data.toList, b.toNat < 128 := by decide +kernel
    exact this b h1
  have key : ∀ l : List UInt8, (∀ b ∈ l, b.toNat < 128) → Lib.indexByte l c = -1 := by
    intro l
    induction l with
    | nil => intro _; rfl
    | cons b l ih =>
      intro hl
      have hb := hl b List.mem_cons_self
      have : (b == c) = false := by
        rw [beq_eq_false_iff_ne]
        rintro rfl; omega
      simp [Lib.indexByte, this, ih (fun x hx => hl x (List.mem_cons_of_mem _ hx))]
  exact key _ hall

/-- The bytes of a rune that is no ASCII. -/
theorem encode_high (c : Int) (h : 128 ≤ c) : 2 ≤ (Utf8.encode c).size ∧ 128 ≤ bt (Utf8.encode c) ((Utf8.encode c).size - 1 : Int) := by
  have key : ∀ n : Nat, 128 ≤ n → ∀ s : ByteArray, (if n < 0x80 then ⟨#[UInt8.ofNat n]⟩ else if n < 0x800 then ⟨#[UInt8.ofNat (0xC0 + n / 64), UInt8.ofNat (0x80 + n % 64)]⟩ else if n < 0x10000 then ⟨#[UInt8.ofNat (0xE0 + n / 4096), UInt8.ofNat (0x80 + n / 64 % 64), UInt8.ofNat (0x80 + n % 64)]⟩
      else ⟨#[UInt8.ofNat (0xF0 + n / 262144), UInt8.ofNat (0x80 + n / 4096 % 64), UInt8.ofNat (0x80 + n / 64 % 64), UInt8.ofNat (0x80 + n % 64)]⟩) = s → 2 ≤ s.size ∧ 128 ≤ bt s (s.size - 1 : Int) := by
    intro n hn s hs
    have hb : 128 ≤ ((UInt8.ofNat (0x80 + n % 64)).toNat : Int) := by
      rw [UInt8.toNat_ofNat']
      omega
    rw [if_neg (by omega)] at hs
    split at hs
    · subst hs; exact ⟨Nat.le_refl 2, hb⟩
    · split at hs
      · subst hs; exact ⟨(by show 2 ≤ 3; omega), hb⟩
      · subst hs; exact ⟨(by show 2 ≤ 4; omega), hb⟩
  unfold Utf8.encode
  refine key (if Utf8.valid c then c.toNat else Utf8.runeError) ?_ _ rfl
  split
  · omega
  · decide

theorem encode_le (c : Int) : (Utf8.encode c).size ≤ 4 := by
  unfold Utf8.encode
  generalize (if Utf8.valid c then c.toNat else Utf8.runeError) = n
  show (if n < 0x80 then _ else _ : ByteArray).size ≤ 4
  split
  · exact (by decide : 1 ≤ 4)
  · split
    · exact (by decide : 2 ≤ 4)
    · split
      · exact (by decide : 3 ≤ 4)
      · exact (by decide : 4 ≤ 4)

theorem ValidRune_c (c : Int) : ACalls Try.prog 128 [.val (.int .i32 c)] (fun r => ∃ b, r = .one (.sv (bv b))) := by
  refine ACalls.of_body (fun _ _ => Try.call128 _ _) Try.func128 rfl Try.ntmps128 (by simp) ?_
  refine Tr.ex ?_
  by_cases h1 : 0 ≤ c <;> by_cases h2 : c < 55296 <;> by_cases h3 : 57343 < c <;> by_cases h4 : c ≤ 1114111 <;> simp [go_sem, h1, h2, h3, h4] <;> exact ⟨_, rfl⟩

theorem IndexRune_low (s : ByteArray) (c : Int) (h0 : 0 ≤ c) (h1 : c < 128) : ACalls Try.prog 114 [.val (.string s), .val (.int .i32 c)] (· = .one (.sv (iv (Lib.indexByte s.data.toList c.toNat.toUInt8)))) := by
  refine ACalls.of_body (fun _ _ => Try.call114 _ _) Try.func114 rfl Try.ntmps114 (by simp) ?_
  refine Tr.ex ?_
  have hw : IntKind.u8.wrap c = c := by simp [IntKind.wrap, IntKind.bits, IntKind.signed]; omega
  simp [go_sem, h0, h1, hw]
  refine OpW.fn true (IndexByte_c s c) rfl rfl (by simp [go_sem]) (by rintro _ r rfl; simp [go_sem]) ?_
  rintro r rfl
  simp [go_sem]

theorem IndexRune_high (c : Int) (h0 : 128 ≤ c) (h1 : c ≤ 1114111) (h2 : c ≠ 65533) : ACalls Try.prog 114 [.val (.string letters), .val (.int .i32 c)] (· = .one (.sv (iv (-1)))) := by
  refine ACalls.of_body (fun _ _ => Try.call114 _ _) Try.func114 rfl Try.ntmps114 (by simp) ?_
  refine Tr.ex ?_
  obtain ⟨e1, e2⟩ := encode_high c h0
  generalize hs : Utf8.encode c = s at e1 e2
  have e3 : bt s (s.size - 1 : Int) ≤ 255 := by unfold bt; have := UInt8.toNat_lt (s.data.getD ((s.size : Int) - 1).toNat 0); omega
  have a1 : 0 ≤ c := by omega
  have a2 : ¬ c < 128 := by omega
  have a3 : (c == 65533) = false := by simpa using h2
  simp [go_sem, a1, a2, a3]
  refine OpW.fn true (ValidRune_c c) rfl rfl (by simp [go_sem]) (by rintro _ r ⟨b, rfl⟩; simp [go_sem]) ?_
  rintro r ⟨b, rfl⟩
  cases b with
  | false => simp [go_sem]
  | true =>
    have e4 : s.size ≤ 4 := by rw [← hs]; exact encode_le c
    have ew : IntKind.i64.wrap ((s.size : Int) - 1) = (s.size : Int) - 1 := i64w _ (by omega) (by omega)
    have el : letters.size = 36 := rfl
    simp [go_sem, hs, ew]
    refine LoopW.of (fun _ : Unit => ⟨187, [(0, .sv (.val (.string letters))), (1, .sv (.val (.int .i32 c))), (7, .sv (.val (.string s))), (8, .sv (iv ((s.size : Int) - 1))), (9, .sv (iv ((s.size : Int) - 1)))], []⟩) (fun _ => True) (fun _ => 0) () trivial (Ent.chk (by simp [go_sem])) ?_
    rintro _ _
    have l1 : ((s.size : Int) - 1 < 36) := by omega
    simp [go_sem, el, l1]
    refine DrawW.rd rfl ?_
    have lb : ∀ k : Nat, k < 36 → bt letters (k : Int) < 128 := by decide +kernel
    have b1 : bt letters ((s.size : Int) - 1) < 128 := by have := lb (s.size - 1) (by omega); rwa [show ((s.size - 1 : Nat) : Int) = (s.size : Int) - 1 by omega] at this
    have b2 : (bt letters ((s.size : Int) - 1) != bt s ((s.size : Int) - 1)) = true := by simp; omega
    have ew2 : IntKind.i64.wrap ((s.size : Int) - 1 + 1) = (s.size : Int) := by rw [i64w] <;> omega
    simp [go_sem, el, l1, b2, ew2]
    refine ⟨by omega, by omega, by rfl, ?_⟩
    refine DrawW.rd rfl ?_
    have ew3 : IntKind.i64.wrap (s.size : Int) = (s.size : Int) := by rw [i64w] <;> omega
    have hx := let_high (bt s ((s.size : Int) - 1)).toNat.toUInt8 (by rw [UInt8.toNat_ofNat']; omega) s.size
    simp [go_sem, el, l1, ew3]
    refine ⟨by omega, by omega, ?_⟩
    refine OpD.call true (IndexByte_c (letters.extract s.size 36) (bt s ((s.size : Int) - 1))) rfl rfl (by simp [go_sem]) (by intro _; simp [go_sem]) (by simp [go_sem]) (by simp [go_sem]) ?_
    rw [el] at hx
    rw [hx]
    simp [go_sem]
    rfl
theorem ACalls.ofArgs {P : Program} {g g' : FuncId} {args : List SV} {us : List Value} {R : RV → Prop} (hcall : ∀ (cargs : Array Value) (w : World), (callFunc g cargs).run P w = .ok (.enter g' cargs) w) (ha : ∀ (w : World) (ok : Nat → Prop) (vs : List Value), RepL w ok args vs → vs = us)
    (h : ∀ w, GWx w → Calls P g' us.toArray w fun e w' => ∃ v, e = .returned v ∧ R (.one (.sv (.val v))) ∧ BelD w.heap.size w w') :
    ACalls P g args R := by
  refine ⟨g', hcall, fun w ok cargs hok hargs => ?_⟩
  have : cargs = us.toArray := Array.toList_inj.1 (by simpa using ha w ok _ hargs)
  subst this
  refine (h w hok.x).mono ?_
  rintro e w' ⟨v, rfl, hR, hb⟩
  exact fin_val hb hok hR
theorem ACalls.toVals {P : Program} {g : FuncId} {us : List Value} {v : Value} (h : ACalls P g (us.map .val) (· = .one (.sv (.val v)))) (he : ∀ (cargs : Array Value) (w : World), (callFunc g cargs).run P w = .ok (.enter g cargs) w) (w : World) (hw : GWx w) :
    Calls P g us.toArray w fun e w' => e = .returned v ∧ BelD w.heap.size w w' := by
  obtain ⟨g', h1, h2⟩ := h
  have hg : g' = g := by
    have a1 := h1 #[] w
    rw [he #[] w] at a1
    simp only [Result.ok.injEq, Next.enter.injEq] at a1
    exact a1.1.1.symm
  subst hg
  refine (h2 w (· < w.heap.size) us.toArray ⟨fun _ h => h, hw⟩ ?_).mono ?_
  · have : ∀ us : List Value, RepL w (· < w.heap.size) (us.map .val) us := by
      intro us
      induction us with
      | nil => simp only [List.map_nil, RepL]
      | cons u us ih => simp only [List.map_cons, RepL]; exact ⟨u, us, rfl, rfl, ih⟩
    simpa using this us
  · rintro e w' ⟨r, vs, E1, rfl, rfl, hI, hE⟩
    refine ⟨?_, ⟨⟨hE.os, hE.tape, hE.output, hE.size, fun k hk => hE.kp k hk⟩, hE.drawn⟩⟩
    obtain ⟨v', h1, h2⟩ := hI.tm 0 (.sv (.val v)) (by simp [cst, RV.comps, ent1, lk, R1.av])
    have h3 := h2.val
    subst h3
    have h4 : vs[0]? = some v' := by simpa using h1
    simp [RV.val, List.headD_eq_head?_getD, List.head?_eq_getElem?, h4]

set_option maxHeartbeats 2000000 in
set_option maxRecDepth 1000000 in
theorem IndexRune_err (w : World) : Calls Try.prog 114 #[.string letters, .int .i32 65533] w fun e w' => e = .returned (.int .i64 (-1)) ∧ BelD w.heap.size w w' := by
  have hall : ∀ pos, pos < 36 → (Utf8.decode letters pos).1 < 128 ∧ (Utf8.decode letters pos).2 = 1 := by decide +kernel
  have hsz : letters.size = 36 := rfl
  go_enter Try.func114, Try.ntmps114
  go_wp2
  go_loopg [] 36 (fun gf wx => ∃ pos : Nat, wx.heap[w.heap.size]? = some (.stringIter letters pos) ∧ BelD w.heap.size w wx ∧ 36 ≤ pos + gf)
  case atStart => exact ⟨0, World.iter_heap w letters 0, ⟨(Below.refl _ w).alloc (Nat.le_refl _) _, Nat.le_refl _⟩, by omega⟩
  case round =>
    obtain ⟨pos, hit, hbw, hfu⟩ := hrel
    by_cases hps : pos < letters.size
    · obtain ⟨g', rfl⟩ : ∃ g', gk = g' + 1 := ⟨gk - 1, by omega⟩
      have hnx : ∀ ty, (Instr.next (.pointer (some ⟨w.heap.size, 0, none⟩)) true ty).run Try.prog wr = _ := fun ty => Lib.run_next_any_at wr w.heap.size letters pos ty hit hps
      obtain ⟨hr, hk⟩ := hall pos (by omega)
      obtain ⟨R, hR⟩ : ∃ R, (Utf8.decode letters pos).1 = R := ⟨_, rfl⟩
      rw [hR, hk] at hnx
      rw [hR] at hr
      have hit2 := Lib.iterAt_heap wr w.heap.size letters pos (pos + 1) hit
      have hbw2 : BelD w.heap.size w (wr.iterAt w.heap.size letters (pos + 1)) := ⟨Lib.below_iterAt hbw.toBelow (k := w.heap.size) (Nat.le_refl _) letters (pos + 1), hbw.drawn⟩
      obtain ⟨W, hWd⟩ : ∃ W, wr.iterAt w.heap.size letters (pos + 1) = W := ⟨_, rfl⟩
      rw [hWd] at hnx hit2 hbw2
      have hne : ((R : Int) == 65533) = false := by simp; omega
      go_wp2
      go_roundg g'
      case measure => omega
      case rel => exact ⟨pos + 1, hit2, hbw2, by omega⟩
    · have hnx : ∀ ty, (Instr.next (.pointer (some ⟨w.heap.size, 0, none⟩)) true ty).run Try.prog wr = _ := fun ty => Lib.run_next_end_at wr w.heap.size letters pos ty hit hps
      go_wp2
      go_ret
      exact ⟨rfl, hbw⟩

theorem IndexRune_err_c : ACalls Try.prog 114 [.val (.string letters), .val (.int .i32 65533)] (· = .one (.sv (iv (-1)))) :=
  ACalls.ofVals (us := [.string letters, .int .i32 65533]) (fun _ _ => Try.call114 _ _) IndexRune_err
/-- The letters hold it, at every rune. -/
theorem IndexRune_c (c : Int) (h0 : 0 ≤ c) (h1 : c ≤ 1114111) : ∃ i : Int, decide (0 ≤ i) = isLet c.toNat ∧ ACalls Try.prog 114 [.val (.string letters), .val (.int .i32 c)] (· = .one (.sv (iv i))) := by
  by_cases h2 : c < 128
  · exact ⟨_, let_index c.toNat (by omega), IndexRune_low letters c h0 h2⟩
  · have hl : isLet c.toNat = false := by
      unfold isLet
      have h3 : ¬ c.toNat ≤ 122 := by omega
      have h4 : ¬ c.toNat ≤ 57 := by omega
      simp [h3, h4]
    by_cases h3 : c = 65533
    · subst h3; exact ⟨-1, by rw [hl]; rfl, IndexRune_err_c⟩
    · exact ⟨-1, by rw [hl]; rfl, IndexRune_high c (by omega) h1 h3⟩
theorem ContainsRune_c (c : Int) (h0 : 0 ≤ c) (h1 : c ≤ 1114111) : ACalls Try.prog 95 [.val (.string letters), .val (.int .i32 c)] (· = .one (.sv (bv (isLet c.toNat)))) := by
  obtain ⟨i, hi, hc⟩ := IndexRune_c c h0 h1
  refine ACalls.of_body (fun _ _ => Try.call95 _ _) Try.func95 rfl Try.ntmps95 (by simp) ?_
  refine Tr.ex ?_
  simp [go_sem]
  refine OpW.fn true hc rfl rfl (by simp [go_sem]) (by rintro _ r rfl; simp [go_sem]) ?_
  rintro r rfl
  simp [go_sem, hi]
end Go.Proofs.Ytnkcenafpigmbaa.Ab

namespace Go.Proofs.Ytnkcenafpigmbaa.Ab
open Go.RowKit
set_option linter.unusedVariables false
set_option linter.unusedSimpArgs false
theorem tag1_c (c : Int) (h0 : 0 ≤ c) (h1 : c ≤ 1114111) : ACalls Try.prog 94 [.val (.int .i32 c)] (· = .one (.sv (bv (!isLet c.toNat)))) := by
  refine ACalls.of_body (fun _ _ => Try.call94 _ _) Try.func94 rfl Try.ntmps94 (by simp) ?_
  refine Tr.ex ?_
  simp [go_sem]
  refine OpW.fn true (ContainsRune_c c h0 h1) rfl rfl (by simp [go_sem, letters]) (by rintro _ r rfl; simp [go_sem]) ?_
  rintro r rfl
  simp [go_sem]
theorem tag1_w (R : Nat) (h1 : R ≤ 1114111) (w : World) (hw : GWx w) : Calls Try.prog 94 #[.int .i32 R] w fun e w' => e = .returned (.bool (!isLet R)) ∧ BelD w.heap.size w w' :=
  ACalls.toVals (us := [.int .i32 R]) (tag1_c R (by omega) (by omega)) (fun _ _ => Try.call94 _ _) w hw

/-- Letters alone, from a place on. -/
def tagBytes (s : ByteArray) : Bool := s.data.toList.all fun b => isLet b.toNat
theorem tag_upto {s : ByteArray} {pos : Nat} (h : ¬ pos < s.size) (hp : ∀ j, j < pos → ∀ b, s.data.toList[j]? = some b → isLet b.toNat = true) : tagBytes s = true := by
  unfold tagBytes
  rw [List.all_eq_true]
  intro b hb
  obtain ⟨j, hj, rfl⟩ := List.getElem_of_mem hb
  have hs : s.data.toList.length = s.size := Array.length_toList
  exact hp j (by omega) _ (List.getElem?_eq_getElem hj)
theorem tag_not {s : ByteArray} {pos : Nat} {b : UInt8} (h : s.data.toList[pos]? = some b) (hb : isLet b.toNat = false) : tagBytes s = false := by
  unfold tagBytes
  rw [List.all_eq_false]
  exact ⟨b, List.mem_of_getElem? h, by simp [hb]⟩
theorem isLet_lt {n : Nat} (h : isLet n = true) : n < 128 := by
  unfold isLet at h
  simp at h
  omega

set_option maxHeartbeats 2000000 in
set_option maxRecDepth 1000000 in
theorem indexFunc_w (s : ByteArray) (w : World) (hgw : GWx w) : Calls Try.prog 126 #[.string s, .func (.func 94) #[] #[], .bool true] w fun e w' => ∃ v, e = .returned v ∧ (∃ i : Int, v = .int .i64 i ∧ decide (0 ≤ i) = !tagBytes s) ∧ BelD w.heap.size w w' := by
  go_enter Try.func126, Try.ntmps126
  go_wp2
  go_loopg [] s.size (fun gf wx => ∃ pos : Nat, wx.heap[w.heap.size]? = some (.stringIter s pos) ∧ BelD w.heap.size w wx ∧ (∀ j, j < pos → ∀ b, s.data.toList[j]? = some b → isLet b.toNat = true) ∧ s.size ≤ pos + gf)
  case atStart => exact ⟨0, World.iter_heap w s 0, ⟨(Below.refl _ w).alloc (Nat.le_refl _) _, Nat.le_refl _⟩, fun j hj => by omega, by omega⟩
  case round =>
    obtain ⟨pos, hit, hbw, hleft, hfu⟩ := hrel
    by_cases hps : pos < s.size
    · obtain ⟨g', rfl⟩ : ∃ g', gk = g' + 1 := ⟨gk - 1, by omega⟩
      have hnx : ∀ ty, (Instr.next (.pointer (some ⟨w.heap.size, 0, none⟩)) true ty).run Try.prog wr = _ := fun ty => Lib.run_next_any_at wr w.heap.size s pos ty hit hps
      have hle := Lib.rune_le s pos
      have hbyte : s.data.toList[pos]? = some s[pos] := by simp [hps]; rfl
      have hdec : isLet (Utf8.decode s pos).1 = true → (Utf8.decode s pos).2 = 1 ∧ isLet (s[pos]).toNat = true := fun h => by
        have h1 := isLet_lt h
        by_cases ha : (s[pos]).toNat < 128
        · rw [decode_ascii s pos hps ha] at h ⊢
          exact ⟨rfl, h⟩
        · have := (decode_high s pos hps (by omega)).1
          omega
      have hdec2 : isLet (Utf8.decode s pos).1 = false → isLet (s[pos]).toNat = false := fun h => by
        by_cases ha : (s[pos]).toNat < 128
        · rw [decode_ascii s pos hps ha] at h
          exact h
        · cases hb : isLet (s[pos]).toNat with
          | false => rfl
          | true => exact absurd (isLet_lt hb) ha
      obtain ⟨R, hR⟩ : ∃ R, (Utf8.decode s pos).1 = R := ⟨_, rfl⟩
      obtain ⟨K, hK⟩ : ∃ K, (Utf8.decode s pos).2 = K := ⟨_, rfl⟩
      rw [hR, hK] at hnx hdec
      rw [hR] at hle hdec2
      have hit2 := Lib.iterAt_heap wr w.heap.size s pos (pos + K) hit
      have hbw2 : BelD w.heap.size w (wr.iterAt w.heap.size s (pos + K)) := ⟨Lib.below_iterAt hbw.toBelow (k := w.heap.size) (Nat.le_refl _) s (pos + K), hbw.drawn⟩
      obtain ⟨W, hWd⟩ : ∃ W, wr.iterAt w.heap.size s (pos + K) = W := ⟨_, rfl⟩
      rw [hWd] at hnx hit2 hbw2
      have cS : Calls Try.prog 94 #[.int .i32 (R : Int)] W _ := tag1_w R hle W (hgw.below hbw2.toBelow)
      cases hsp : isLet R <;> rw [hsp] at cS
      · go_wp2_with (go_at_call 94; refine cS.mono ?_; rintro e W' ⟨rfl, q⟩)
        go_ret
        exact ⟨_, rfl, ⟨(pos : Int), rfl, by rw [tag_not hbyte (hdec2 hsp)]; simp⟩, hbw2.trans (q.mono hbw2.size)⟩
      · obtain ⟨rfl, hb1⟩ := hdec hsp
        go_wp2_with (go_at_call 94; refine cS.mono ?_; rintro e W' ⟨rfl, q⟩)
        go_roundg g'
        case measure => omega
        case rel =>
          refine ⟨pos + 1, ?_, hbw2.trans (q.mono hbw2.size), fun j hj b hb => ?_, by omega⟩
          · rw [q.block _ ?_]; exact hit2
            exact (Array.getElem?_eq_some_iff.1 hit2).1
          · by_cases hjp : j = pos
            · subst hjp; rw [hbyte] at hb; simp only [Option.some.injEq] at hb; subst hb; exact hb1
            · exact hleft j (by omega) b hb
    · have hnx : ∀ ty, (Instr.next (.pointer (some ⟨w.heap.size, 0, none⟩)) true ty).run Try.prog wr = _ := fun ty => Lib.run_next_end_at wr w.heap.size s pos ty hit hps
      go_wp2
      go_ret
      exact ⟨_, rfl, ⟨-1, rfl, by rw [tag_upto hps hleft]; rfl⟩, hbw⟩
theorem indexFunc_c (s : ByteArray) : ACalls Try.prog 126 [.val (.string s), .fn 94 [], .val (.bool true)] (fun r => ∃ i : Int, r = .one (.sv (iv i)) ∧ decide (0 ≤ i) = !tagBytes s) := by
  refine ACalls.ofArgs (us := [.string s, .func (.func 94) #[] #[], .bool true]) (fun _ _ => Try.call126 _ _) ?_ fun w hw => (indexFunc_w s w hw).mono ?_
  · intro w ok vs h
    simp only [RepL, RepS] at h
    obtain ⟨v1, vs1, rfl, rfl, v2, vs2, rfl, ⟨cs, rfl, h3⟩, v3, vs3, rfl, rfl, rfl⟩ := h
    have : cs = #[] := Array.toList_inj.1 (by simpa using h3)
    subst this
    rfl
  · rintro e w' ⟨v, rfl, ⟨i, rfl, hi⟩, hb⟩
    exact ⟨_, rfl, ⟨i, rfl, hi⟩, hb⟩
theorem IndexFunc_c (s : ByteArray) : ACalls Try.prog 113 [.val (.string s), .fn 94 []] (fun r => ∃ i : Int, r = .one (.sv (iv i)) ∧ decide (0 ≤ i) = !tagBytes s) := by
  refine ACalls.of_body (fun _ _ => Try.call113 _ _) Try.func113 rfl Try.ntmps113 (by simp) ?_
  refine Tr.ex ?_
  simp [go_sem]
  refine OpW.fn true (indexFunc_c s) rfl rfl (by simp [go_sem]) (by rintro _ r ⟨i, rfl, hi⟩; simp [go_sem]) ?_
  rintro r ⟨i, rfl, hi⟩
  simp [go_sem, hi]
theorem ContainsFunc_c (s : ByteArray) : ACalls Try.prog 93 [.val (.string s), .fn 94 []] (· = .one (.sv (bv (!tagBytes s)))) := by
  refine ACalls.of_body (fun _ _ => Try.call93 _ _) Try.func93 rfl Try.ntmps93 (by simp) ?_
  refine Tr.ex ?_
  simp [go_sem]
  refine OpW.fn true (IndexFunc_c s) rfl rfl (by simp [go_sem]) (by rintro _ r ⟨i, rfl, hi⟩; simp [go_sem]) ?_
  rintro r ⟨i, rfl, hi⟩
  simp [go_sem, hi]
/-- A tag is right. -/
def isTag (s : ByteArray) : Bool := decide (s.size ≤ 16) && tagBytes s
theorem Tag_c (s : ByteArray) (hs : s.size ≤ 9223372036854775807) : ACalls Try.prog 80 [.val (.string s)] (· = .one (.sv (bv (isTag s)))) := by
  refine ACalls.of_body (fun _ _ => Try.call80 _ _) Try.func80 rfl Try.ntmps80 (by simp) ?_
  refine Tr.ex ?_
  unfold isTag
  by_cases h : s.size ≤ 16
  · have h' : (s.size : Int) ≤ 16 := by omega
    simp [go_sem, h, h']
    refine OpW.fn true (ContainsFunc_c s) rfl rfl (by simp [go_sem]) (by rintro _ r rfl; simp [go_sem]) ?_
    rintro r rfl
    simp [go_sem]
  · have h' : ¬ (s.size : Int) ≤ 16 := by omega
    simp [go_sem, h, h']

end Go.Proofs.Ytnkcenafpigmbaa.Ab

namespace Go.Proofs.Ytnkcenafpigmbaa.Ab
open Go.RowKit
set_option linter.unusedVariables false
set_option linter.unusedSimpArgs false

/-- May a kind be part of another one? -/
def kindOk (k up : Int) : Bool := (k == 1 && up == 0) || (k == 2 && (up == 0 || up == 1)) || ((k == 3 || k == 4) && up == 2)
def th (g : List Thing) (i : Nat) : Thing := g.getD i default
/-- Is a thing, beyond the first one, as it should be? -/
def goodB (g : List Thing) (i : Nat) : Bool :=
  decide (0 ≤ (th g i).up) && decide ((th g i).up < i) && kindOk (th g i).kind (th g (th g i).up.toNat).kind && isTag (th g i).tag && ((th g i).tag.toList == [] || (th g i).kind == 2)
def rootB (t : Thing) : Bool := t.kind == 0 && t.up == -1 && t.tag.toList == []
def isGraph (g : List Thing) : Bool := decide (1 ≤ g.length) && decide (g.length ≤ 256) && rootB (th g 0) && (List.range (g.length - 1)).all fun i => goodB g (i + 1)
/-- What the machine asks of a graph that comes in. -/
def Things (g : List Thing) : Prop := ∀ t ∈ g, t.tag.size ≤ 9223372036854775807

end Go.Proofs.Ytnkcenafpigmbaa.Ab

namespace Go.Proofs.Ytnkcenafpigmbaa.Ab
open Go.RowKit
set_option linter.unusedVariables false
set_option linter.unusedSimpArgs false

def thereB (g : List Thing) (n : Int) : Bool := decide (0 ≤ n) && decide (n < g.length) && isGraph g
theorem isGraph_len {g : List Thing} (h : isGraph g = true) : 1 ≤ g.length ∧ g.length ≤ 256 := by
  unfold isGraph at h
  simp only [Bool.and_eq_true, decide_eq_true_eq] at h
  exact ⟨h.1.1.1, h.1.1.2⟩
theorem isGraph_root {g : List Thing} (h : isGraph g = true) : (th g 0).kind = 0 ∧ (th g 0).up = -1 := by
  unfold isGraph rootB at h
  simp only [Bool.and_eq_true, beq_iff_eq] at h
  exact ⟨h.1.2.1.1, h.1.2.1.2⟩
theorem isGraph_up {g : List Thing} (h : isGraph g = true) {i : Nat} (h0 : 0 < i) (h1 : i < g.length) : 0 ≤ (th g i).up ∧ (th g i).up < i ∧ kindOk (th g i).kind (th g (th g i).up.toNat).kind = true := by
  unfold isGraph at h
  simp only [Bool.and_eq_true, List.all_eq_true] at h
  have := h.2 (i - 1) (by simp; omega)
  rw [show i - 1 + 1 = i by omega] at this
  unfold goodB at this
  simp only [Bool.and_eq_true, decide_eq_true_eq] at this
  exact ⟨this.1.1.1.1, this.1.1.1.2, this.1.1.2⟩
theorem isGraph_le {g : List Thing} (h : isGraph g = true) {i : Nat} (h1 : i < g.length) : (th g i).up < i := by
  by_cases h0 : 0 < i
  · exact (isGraph_up h h0 h1).2.1
  · have : i = 0 := by omega
    subst this
    rw [(isGraph_root h).2]; omega

/-- Is a thing under another one? -/
def inU (g : List Thing) (n : Nat) (i : Nat) : Bool := i == n || (if h : 0 ≤ (th g i).up ∧ (th g i).up < i then inU g n (th g i).up.toNat else false)
  termination_by i
  decreasing_by omega
def underL (g : List Thing) (n : Int) : List Int := if thereB g n = true then ((List.range g.length).filter (inU g n.toNat)).map Int.ofNat else []
def upTo (g : List Thing) (n i : Nat) : List Int := ((List.range i).filter (inU g n)).map Int.ofNat
theorem upTo_succ (g : List Thing) (n i : Nat) : upTo g n (i + 1) = if inU g n i = true then upTo g n i ++ [(i : Int)] else upTo g n i := by
  unfold upTo
  rw [List.range_succ, List.filter_append, List.map_append]
  split
  · rename_i h; simp [h]
  · rename_i h; simp [h]
def inRow (g : List Thing) (n i : Nat) : List SV := (List.range g.length).map fun j => bv (if j < i then inU g n j else j == n)

end Go.Proofs.Ytnkcenafpigmbaa.Ab

namespace Go.Proofs.Ytnkcenafpigmbaa.Ab
open Go.RowKit
set_option linter.unusedVariables false
set_option linter.unusedSimpArgs false

/-- A list of which the first and the last i are swapped. -/
def revd (xs : List Int) (i : Nat) : List Int := (List.range xs.length).map fun j => if j < i ∨ xs.length ≤ j + i then xs.getD (xs.length - 1 - j) 0 else xs.getD j 0
theorem revd_zero (xs : List Int) : revd xs 0 = xs := by
  refine List.ext_getElem (by simp [revd]) fun j h1 h2 => ?_
  have hj : j < xs.length := h2
  simp only [revd, List.getElem_map, List.getElem_range]
  rw [if_neg (by omega)]
  simp [hj]
theorem revd_all (xs : List Int) (i : Nat) (h : xs.length ≤ 2 * i + 1) : revd xs i = xs.reverse := by
  refine List.ext_getElem (by simp [revd]) fun j h1 h2 => ?_
  have hj : j < xs.length := by simpa using h2
  simp only [revd, List.getElem_map, List.getElem_range, List.getElem_reverse]
  have hk : xs.length - 1 - j < xs.length := by omega
  split
  · simp [hk]
  · have : xs.length - 1 - j = j := by omega
    simp only [this]
    simp [hj]
theorem revd_len (xs : List Int) (i : Nat) : (revd xs i).length = xs.length := by simp [revd]
theorem revd_get (xs : List Int) (i j : Nat) (h : j < xs.length) (h1 : i ≤ j) (h2 : j + i < xs.length) : (revd xs i)[j]? = some xs[j] := by
  simp [revd, h]; omega
theorem revd_step (xs : List Int) (i : Nat) (h : i < xs.length - 1 - i) (h1 : i < xs.length) (h2 : xs.length - 1 - i < xs.length) : ((revd xs i).set i xs[xs.length - 1 - i]).set (xs.length - 1 - i) xs[i] = revd xs (i + 1) := by
  refine List.ext_getElem (by simp [revd]) fun j h3 h4 => ?_
  have hj : j < xs.length := by simpa [revd] using h4
  have hk : xs.length - 1 - j < xs.length := by omega
  simp only [List.getElem_set, revd, List.getElem_map, List.getElem_range]
  by_cases c1 : xs.length - 1 - i = j
  · rw [if_pos c1, if_pos (by omega)]
    subst c1
    have : xs.length - 1 - (xs.length - 1 - i) = i := by omega
    simp [this, h1]
  · rw [if_neg c1]
    by_cases c2 : i = j
    · subst c2; simp [h2]
    · rw [if_neg c2]
      by_cases c3 : j < i ∨ xs.length ≤ j + i
      · rw [if_pos c3, if_pos (by omega)]
      · rw [if_neg c3, if_neg (by omega)]
/-- The way up from a thing. -/
def chainL (g : List Thing) (i : Nat) : List Int := (i : Int) :: (if h : 0 ≤ (th g i).up ∧ (th g i).up < i then chainL g (th g i).up.toNat else [])
  termination_by i
  decreasing_by omega
def aboveL (g : List Thing) (n : Int) : List Int := if thereB g n = true then (chainL g n.toNat).reverse else []
theorem chainL_len (g : List Thing) (i : Nat) : (chainL g i).length ≤ i + 1 := by
  induction i using Nat.strongRecOn with
  | _ i ih =>
    rw [chainL.eq_1]
    split
    · rename_i h; have := ih (th g i).up.toNat (by omega); simp only [List.length_cons]; omega
    · simp
/-- The node of a thing: of those above it the first one that is a node. -/
def nodeOf (g : List Thing) (n : Int) : Int := ((aboveL g n).find? fun k => (th g k.toNat).kind == 2).getD (-1)
theorem chainL_mem {g : List Thing} : ∀ {i : Nat} {k : Int}, k ∈ chainL g i → 0 ≤ k ∧ k ≤ i := by
  intro i
  induction i using Nat.strongRecOn with
  | _ i ih =>
    intro k hk
    rw [chainL.eq_1] at hk
    rcases List.mem_cons.1 hk with rfl | hk
    · omega
    · split at hk
      · rename_i h; have := ih (th g i).up.toNat (by omega) hk; omega
      · cases hk
theorem aboveL_mem {g : List Thing} {n k : Int} (h : k ∈ aboveL g n) : 0 ≤ k ∧ k ≤ n ∧ n < g.length := by
  unfold aboveL at h
  split at h
  · rename_i ht
    unfold thereB at ht
    simp only [Bool.and_eq_true, decide_eq_true_eq] at ht
    have := chainL_mem (List.mem_reverse.1 h)
    omega
  · cases h
theorem aboveL_len (g : List Thing) (n : Int) (hg : g.length ≤ 140737488355328) : (aboveL g n).length ≤ 140737488355329 := by
  unfold aboveL
  split
  · rename_i ht
    unfold thereB at ht
    simp only [Bool.and_eq_true, decide_eq_true_eq] at ht
    have := chainL_len g n.toNat
    simp; omega
  · simp
end Go.Proofs.Ytnkcenafpigmbaa.Ab

namespace Go.Proofs.Ytnkcenafpigmbaa.Ab
open Go.RowKit
set_option linter.unusedVariables false
set_option linter.unusedSimpArgs false

/-- How many of a list's things are of a kind. -/
def cnt (g : List Thing) (l : List Int) (k : Int) : Nat := (l.filter fun n : Int => decide (n < g.length) && (th g n.toNat).kind == k).length
def kindsL (g : List Thing) (l : List Int) : List Int := if isGraph g = true ∧ isSet l = true then [0, 1, 2, 3, 4].map fun k => ((cnt g l k : Nat) : Int) else [0, 0, 0, 0, 0]
theorem kind_rng {g : List Thing} (h : isGraph g = true) {i : Nat} (hi : i < g.length) : (th g i).kind = 0 ∨ (th g i).kind = 1 ∨ (th g i).kind = 2 ∨ (th g i).kind = 3 ∨ (th g i).kind = 4 := by
  by_cases h0 : 0 < i
  · have := (isGraph_up h h0 hi).2.2
    unfold kindOk at this
    simp only [Bool.or_eq_true, Bool.and_eq_true, beq_iff_eq] at this
    omega
  · have : i = 0 := by omega
    subst this; exact .inl (isGraph_root h).1
theorem cnt_snoc (g : List Thing) (l : List Int) (n k : Int) : cnt g (l ++ [n]) k = cnt g l k + if (decide (n < g.length) && (th g n.toNat).kind == k) = true then 1 else 0 := by
  unfold cnt
  rw [List.filter_append, List.length_append]
  congr 1
  cases h : (decide (n < g.length) && (th g n.toNat).kind == k) <;> simp [h]
theorem cnt_le (g : List Thing) (l : List Int) (k : Int) : cnt g l k ≤ l.length := List.length_filter_le _ _
def nodesL (g : List Thing) : List Int := if isGraph g = true then ((List.range g.length).filter fun i => (th g i).kind == 2).map Int.ofNat else []
def nodesTo (g : List Thing) (i : Nat) : List Int := if isGraph g = true then ((List.range i).filter fun i => (th g i).kind == 2).map Int.ofNat else []
theorem nodesTo_succ (g : List Thing) (i : Nat) : nodesTo g (i + 1) = if ((th g i).kind == 2 && isGraph g) = true then nodesTo g i ++ [(i : Int)] else nodesTo g i := by
  unfold nodesTo
  cases isGraph g with
  | false => simp
  | true =>
    simp only [if_true, Bool.and_true]
    rw [List.range_succ, List.filter_append, List.map_append]
    cases h : ((th g i).kind == 2) <;> simp [h]
end Go.Proofs.Ytnkcenafpigmbaa.Ab

namespace Go.Proofs.Ytnkcenafpigmbaa.Ab
open Go.RowKit
set_option linter.unusedVariables false
set_option linter.unusedSimpArgs false

theorem Clone_c (l : List Int) (hl : l.length ≤ 140737488355) : ACalls Try.prog 56 [ints l] (fun r => (l = [] ∧ r = .one .nil) ∨ r = .one (.own 1 (l.map iv))) := by
  refine ACalls.of_body (fun _ _ => Try.call56 _ _) Try.func56 rfl Try.ntmps56 (by simp) ?_
  refine Tr.ex ?_
  simp [go_sem]
  refine OpW.isnil (by decide) rfl rfl (by simp [go_sem]; rfl) (by simp [go_sem]; rfl) (by simp [go_sem]; rfl) (by simp [go_sem]) ?_
  rintro b hnil
  cases b with
  | true =>
    have hnil : l = [] := by simpa using hnil
    simp [go_sem, hnil]
  | false =>
    simp [go_sem]
    omega

def idxOf (p : Int → Bool) (l : List Int) : Int := if l.any p = true then (l.findIdx p : Nat) else -1
theorem idxOf_ge (p : Int → Bool) (l : List Int) : decide (0 ≤ idxOf p l) = l.any p := by
  unfold idxOf
  cases l.any p <;> simp
/-- Is a list a graph's health? -/
def isHealth (g : List Thing) (h : List Int) : Bool := isGraph g && decide (h.length = g.length) && h.all fun n => decide (0 ≤ n) && decide (n ≤ 2)
def setH (g : List Thing) (h : List Int) (n how : Int) : List Int × Int :=
  if isHealth g h = true ∧ 0 ≤ how ∧ how ≤ 2 then (if 0 ≤ n ∧ n < h.length then (h.set n.toNat how, 0) else (h, 6)) else (h, 1)
end Go.Proofs.Ytnkcenafpigmbaa.Ab

namespace Go.Proofs.Ytnkcenafpigmbaa.Ab
set_option linter.unusedVariables false
set_option linter.unusedSimpArgs false

theorem inU_refl (g : List Thing) (n : Nat) : inU g n n = true := by rw [inU.eq_1]; simp
theorem inU_le {g : List Thing} {a : Nat} : ∀ {k : Nat}, inU g a k = true → a ≤ k := by
  intro k
  induction k using Nat.strongRecOn with
  | _ k ih =>
    intro h
    rw [inU.eq_1] at h
    by_cases hk : k = a
    · omega
    · have : (k == a) = false := by simpa using hk
      rw [this, Bool.false_or] at h
      split at h
      · rename_i hh; have := ih _ (by omega) h; omega
      · cases h
/-- A step up. -/
theorem inU_step {g : List Thing} {a k : Nat} (h : inU g a k = true) (hne : a ≠ k) : 0 ≤ (th g k).up ∧ (th g k).up < k ∧ inU g a (th g k).up.toNat = true := by
  rw [inU.eq_1] at h
  have : (k == a) = false := by simp; omega
  rw [this, Bool.false_or] at h
  split at h
  · rename_i hh; exact ⟨hh.1, hh.2, h⟩
  · cases h
theorem inU_up {g : List Thing} {a k : Nat} (h0 : 0 ≤ (th g k).up) (h1 : (th g k).up < k) (h : inU g a (th g k).up.toNat = true) : inU g a k = true := by
  rw [inU.eq_1, dif_pos ⟨h0, h1⟩, h, Bool.or_true]
theorem inU_trans {g : List Thing} {a b : Nat} : ∀ {k : Nat}, inU g a b = true → inU g b k = true → inU g a k = true := by
  intro k
  induction k using Nat.strongRecOn with
  | _ k ih =>
    intro h1 h2
    by_cases hk : b = k
    · exact hk ▸ h1
    · obtain ⟨q1, q2, q3⟩ := inU_step h2 hk
      exact inU_up q1 q2 (ih _ (by omega) h1 q3)
theorem inU_total {g : List Thing} {a b : Nat} (hab : a ≤ b) : ∀ {k : Nat}, inU g a k = true → inU g b k = true → inU g a b = true := by
  intro k
  induction k using Nat.strongRecOn with
  | _ k ih =>
    intro h1 h2
    by_cases hk : b = k
    · exact hk ▸ h1
    · by_cases hk2 : a = k
      · have := inU_le h2; omega
      · obtain ⟨q1, q2, q3⟩ := inU_step h2 hk
        exact ih _ (by omega) (inU_step h1 hk2).2.2 q3
theorem inU_root {g : List Thing} (hg : isGraph g = true) : ∀ {k : Nat}, k < g.length → inU g 0 k = true := by
  intro k
  induction k using Nat.strongRecOn with
  | _ k ih =>
    intro hk
    by_cases h0 : k = 0
    · subst h0; exact inU_refl _ _
    · have := isGraph_up hg (by omega) hk
      exact inU_up this.1 this.2.1 (ih _ (by omega) (by omega))
theorem thereB_iff {g : List Thing} {n : Int} : thereB g n = true ↔ 0 ≤ n ∧ n < g.length ∧ isGraph g = true := by
  unfold thereB; simp [and_assoc]
theorem underL_eq {g : List Thing} {n : Int} (h : thereB g n = true) : underL g n = rangeF (inU g n.toNat) g.length := by unfold underL; rw [if_pos h]; rfl
theorem underL_set (g : List Thing) (n : Int) : isSet (underL g n) = true := by
  cases h : thereB g n with
  | true => rw [underL_eq h]; exact rangeF_set _ (isGraph_len (thereB_iff.1 h).2.2).2
  | false => unfold underL; rw [h]; rfl
theorem underL_mem {g : List Thing} {n k : Int} : k ∈ underL g n ↔ thereB g n = true ∧ 0 ≤ k ∧ k < g.length ∧ inU g n.toNat k.toNat = true := by
  cases h : thereB g n with
  | true => rw [underL_eq h, mem_rangeF]; simp
  | false => unfold underL; rw [h]; simp
theorem underL_len (g : List Thing) (n : Int) : (underL g n).length ≤ g.length := by
  cases h : thereB g n with
  | true => rw [underL_eq h]; exact rangeF_len _ _
  | false => unfold underL; rw [h]; simp
theorem chainL_iff {g : List Thing} {j : Int} : ∀ {i : Nat}, j ∈ chainL g i ↔ 0 ≤ j ∧ inU g j.toNat i = true := by
  intro i
  induction i using Nat.strongRecOn with
  | _ i ih =>
    rw [chainL.eq_1, List.mem_cons]
    constructor
    · rintro (rfl | h)
      · exact ⟨by omega, by simpa using inU_refl g i⟩
      · split at h
        · rename_i hh
          have := (ih _ (by omega)).1 h
          exact ⟨this.1, inU_up hh.1 hh.2 this.2⟩
        · cases h
    · rintro ⟨h0, h⟩
      by_cases he : j.toNat = i
      · left; omega
      · right
        obtain ⟨q1, q2, q3⟩ := inU_step h he
        rw [dif_pos ⟨q1, q2⟩]
        exact (ih _ (by omega)).2 ⟨h0, q3⟩
theorem chainL_sorted (g : List Thing) (i : Nat) : (chainL g i).Pairwise (· > ·) := by
  induction i using Nat.strongRecOn with
  | _ i ih =>
    rw [chainL.eq_1, List.pairwise_cons]
    split
    · rename_i hh
      refine ⟨fun a ha => ?_, ih _ (by omega)⟩
      have := chainL_mem ha
      omega
    · exact ⟨fun a ha => (by cases ha), List.Pairwise.nil⟩
theorem aboveL_mem_iff {g : List Thing} {n k : Int} : k ∈ aboveL g n ↔ thereB g n = true ∧ 0 ≤ k ∧ inU g k.toNat n.toNat = true := by
  unfold aboveL
  cases h : thereB g n with
  | true => rw [if_pos rfl, List.mem_reverse, chainL_iff]; simp
  | false => simp
theorem aboveL_set (g : List Thing) (n : Int) : isSet (aboveL g n) = true := by
  rw [isSet_iff]
  constructor
  · unfold aboveL
    split
    · rw [List.pairwise_reverse]; exact (chainL_sorted g _).imp (fun h => h)
    · exact List.Pairwise.nil
  · intro k hk
    have h := aboveL_mem hk
    have h2 := aboveL_mem_iff.1 hk
    have := isGraph_len (thereB_iff.1 h2.1).2.2
    omega
theorem hasB_iff {l : List Int} {n : Int} (h : isSet l = true) : hasB l n = decide (n ∈ l) := by unfold hasB; rw [h]; simp
theorem under_above {g : List Thing} {n k : Int} (hn : thereB g n = true) (hk : thereB g k = true) : hasB (underL g n) k = hasB (aboveL g k) n := by
  rw [hasB_iff (underL_set _ _), hasB_iff (aboveL_set _ _), decide_eq_decide, underL_mem, aboveL_mem_iff]
  have h1 := thereB_iff.1 hn
  have h2 := thereB_iff.1 hk
  constructor
  · rintro ⟨_, _, _, h⟩; exact ⟨hk, h1.1, h⟩
  · rintro ⟨_, _, h⟩; exact ⟨hn, h2.1, h2.2.1, h⟩

/-! ### Kinds -/
def level (k : Int) : Int := if k ≤ 3 then k else 3
theorem kindOk_level {k up : Int} (h : kindOk k up = true) : level up < level k := by
  unfold kindOk at h
  unfold level
  simp only [Bool.or_eq_true, Bool.and_eq_true, beq_iff_eq] at h
  split <;> split <;> omega
theorem inU_level {g : List Thing} (hg : isGraph g = true) {a : Nat} : ∀ {k : Nat}, k < g.length → inU g a k = true → a ≠ k → level (th g a).kind < level (th g k).kind := by
  intro k
  induction k using Nat.strongRecOn with
  | _ k ih =>
    intro hk h hne
    obtain ⟨q1, q2, q3⟩ := inU_step h hne
    have h0 : 0 < k := by omega
    have h3 := kindOk_level (isGraph_up hg h0 hk).2.2
    by_cases he : a = (th g k).up.toNat
    · rw [he]; exact h3
    · have := ih _ (by omega) (by omega) q3 he
      omega
/-- A node is under itself alone, of all nodes. -/
theorem node_one {g : List Thing} (hg : isGraph g = true) {a k : Nat} (hk : k < g.length) (ha2 : (th g a).kind = 2) (hk2 : (th g k).kind = 2) (h : inU g a k = true) : a = k := by
  by_cases he : a = k
  · exact he
  · have := inU_level hg hk h he
    rw [ha2, hk2] at this; omega
/-- A core or gpu is part of a node. -/
theorem leaf_up {g : List Thing} (hg : isGraph g = true) {k : Nat} (hk : k < g.length) (h3 : (th g k).kind = 3 ∨ (th g k).kind = 4) : 0 ≤ (th g k).up ∧ (th g k).up < k ∧ (th g (th g k).up.toNat).kind = 2 := by
  have h0 : 0 < k := by
    rcases Nat.eq_zero_or_pos k with rfl | h
    · have := (isGraph_root hg).1; omega
    · exact h
  have h := isGraph_up hg h0 hk
  refine ⟨h.1, h.2.1, ?_⟩
  have := h.2.2
  unfold kindOk at this
  simp only [Bool.or_eq_true, Bool.and_eq_true, beq_iff_eq] at this
  omega
theorem leaf_node {g : List Thing} (hg : isGraph g = true) {a k : Nat} (hk : k < g.length) (h3 : (th g k).kind = 3 ∨ (th g k).kind = 4) (ha : (th g a).kind = 2) : inU g a k = true ↔ (th g k).up = a := by
  have hu := leaf_up hg hk h3
  constructor
  · intro h
    have hne : a ≠ k := by rintro rfl; omega
    have := node_one hg (by omega) ha hu.2.2 (inU_step h hne).2.2
    omega
  · intro h
    refine inU_up hu.1 hu.2.1 ?_
    rw [h]; simpa using inU_refl g a
theorem kind_zero {g : List Thing} (hg : isGraph g = true) {k : Nat} (hk : k < g.length) : (th g k).kind = 0 ↔ k = 0 := by
  constructor
  · intro h
    rcases Nat.eq_zero_or_pos k with h0 | h0
    · exact h0
    · have := (isGraph_up hg h0 hk).2.2
      unfold kindOk at this
      simp only [Bool.or_eq_true, Bool.and_eq_true, beq_iff_eq] at this
      omega
  · rintro rfl; exact (isGraph_root hg).1
/-- How many things that are so are of a kind. -/
def cntN (g : List Thing) (p : Nat → Bool) (k : Int) : Nat := ((List.range g.length).filter fun i => p i && (th g i).kind == k).length
theorem cnt_rangeF (g : List Thing) (p : Nat → Bool) (k : Int) : cnt g (rangeF p g.length) k = cntN g p k := by
  unfold cnt cntN rangeF
  rw [List.filter_map, List.length_map, List.filter_filter]
  congr 1
  refine List.filter_congr fun i hi => ?_
  have : i < g.length := List.mem_range.1 hi
  simp [this, Bool.and_comm]
theorem kinds_under {g : List Thing} {n : Int} (h : thereB g n = true) : kindsL g (underL g n) = [((cntN g (inU g n.toNat) 0 : Nat) : Int), ((cntN g (inU g n.toNat) 1 : Nat) : Int), ((cntN g (inU g n.toNat) 2 : Nat) : Int), ((cntN g (inU g n.toNat) 3 : Nat) : Int), ((cntN g (inU g n.toNat) 4 : Nat) : Int)] := by
  unfold kindsL
  rw [if_pos ⟨(thereB_iff.1 h).2.2, underL_set _ _⟩, underL_eq h]
  simp only [List.map_cons, List.map_nil, cnt_rangeF]
theorem cntN_le (g : List Thing) (p : Nat → Bool) (k : Int) : cntN g p k ≤ g.length := by
  unfold cntN; exact Nat.le_trans (List.length_filter_le _ _) (by simp)
theorem cntN_congr {g : List Thing} {p q : Nat → Bool} {k : Int} (h : ∀ i, i < g.length → (th g i).kind = k → p i = q i) : cntN g p k = cntN g q k := by
  unfold cntN
  congr 1
  refine List.filter_congr fun i hi => ?_
  cases hk : ((th g i).kind == k) with
  | false => simp
  | true => simp [h i (List.mem_range.1 hi) (by simpa using hk)]
theorem cntN_or {g : List Thing} {p q : Nat → Bool} {k : Int} (h : ∀ i, i < g.length → (th g i).kind = k → p i = true → q i = true → False) : cntN g (fun i => p i || q i) k = cntN g p k + cntN g q k := by
  unfold cntN
  have : ∀ l : List Nat, (∀ i ∈ l, i < g.length) → (l.filter fun i => (p i || q i) && (th g i).kind == k).length = (l.filter fun i => p i && (th g i).kind == k).length + (l.filter fun i => q i && (th g i).kind == k).length := by
    intro l
    induction l with
    | nil => intro _; rfl
    | cons i l ih =>
      intro hl
      have ih := ih (fun j hj => hl j (List.mem_cons_of_mem _ hj))
      have hi := hl i List.mem_cons_self
      simp only [List.filter_cons]
      cases hk : ((th g i).kind == k) with
      | false => simpa using ih
      | true =>
        have hk' : (th g i).kind = k := by simpa using hk
        cases hp : p i <;> cases hq : q i
        · simpa using ih
        · simp; omega
        · simp; omega
        · exact (h i hi hk' hp hq).elim
  exact this _ (fun i hi => List.mem_range.1 hi)
theorem cntN_none {g : List Thing} {p : Nat → Bool} {k : Int} (h : ∀ i, i < g.length → (th g i).kind = k → p i = false) : cntN g p k = 0 := by
  unfold cntN
  rw [List.length_eq_zero_iff, List.filter_eq_nil_iff]
  intro i hi
  cases hk : ((th g i).kind == k) with
  | false => simp
  | true => simp [h i (List.mem_range.1 hi) (by simpa using hk)]
theorem cntN_one {g : List Thing} {p : Nat → Bool} {k : Int} {a : Nat} (ha : a < g.length) (h1 : p a = true) (h2 : (th g a).kind = k) (h : ∀ i, i < g.length → (th g i).kind = k → p i = true → i = a) : cntN g p k = 1 := by
  have e : cntN g p k = cntN g (fun i => i == a) k := cntN_congr fun i hi hk => by
    by_cases hia : i = a
    · subst hia; simp [h1]
    · cases hp : p i with
      | false => simp [hia]
      | true => exact absurd (h i hi hk hp) hia
  rw [e]
  unfold cntN
  have : ∀ n, ((List.range n).filter fun i => i == a && (th g i).kind == k).length = if a < n then 1 else 0 := by
    intro n
    induction n with
    | zero => simp
    | succ n ih =>
      rw [List.range_succ, List.filter_append, List.length_append, ih]
      by_cases hn : n = a
      · subst hn
        have : ((th g n).kind == k) = true := by simp [h2]
        simp [this]
      · have hna : (n == a) = false := by simpa using hn
        have h0 : (List.filter (fun i => i == a && (th g i).kind == k) [n]).length = 0 := by simp [hna]
        rw [h0]
        by_cases hlt : a < n
        · rw [if_pos hlt, if_pos (by omega)]
        · rw [if_neg hlt, if_neg (by omega)]
  rw [this, if_pos ha]
theorem cntN_all {g : List Thing} (hg : isGraph g = true) : cntN g (inU g 0) 0 + cntN g (inU g 0) 1 + cntN g (inU g 0) 2 + cntN g (inU g 0) 3 + cntN g (inU g 0) 4 = g.length := by
  have : ∀ k, cntN g (inU g 0) k = ((List.range g.length).filter fun i => (th g i).kind == k).length := fun k => by
    unfold cntN
    congr 1
    refine List.filter_congr fun i hi => ?_
    rw [inU_root hg (List.mem_range.1 hi), Bool.true_and]
  simp only [this]
  have key : ∀ l : List Nat, (∀ i ∈ l, i < g.length) → (l.filter fun i => (th g i).kind == 0).length + (l.filter fun i => (th g i).kind == 1).length + (l.filter fun i => (th g i).kind == 2).length + (l.filter fun i => (th g i).kind == 3).length + (l.filter fun i => (th g i).kind == 4).length = l.length := by
    intro l
    induction l with
    | nil => intro _; rfl
    | cons i l ih =>
      intro hl
      have ih := ih (fun j hj => hl j (List.mem_cons_of_mem _ hj))
      have hk := kind_rng hg (hl i List.mem_cons_self)
      simp only [List.filter_cons, List.length_cons]
      rcases hk with h | h | h | h | h <;> rw [h] <;> simp <;> omega
  have := key (List.range g.length) (fun i hi => List.mem_range.1 hi)
  simpa using this
theorem nodes_len {g : List Thing} (hg : isGraph g = true) : (nodesL g).length = cntN g (inU g 0) 2 := by
  unfold nodesL cntN
  rw [if_pos hg, List.length_map]
  congr 1
  refine List.filter_congr fun i hi => ?_
  rw [inU_root hg (List.mem_range.1 hi), Bool.true_and]
theorem nodesL_eq {g : List Thing} (hg : isGraph g = true) : nodesL g = rangeF (fun i => (th g i).kind == 2) g.length := by unfold nodesL; rw [if_pos hg]; rfl
theorem nodesL_mem {g : List Thing} {k : Int} : k ∈ nodesL g ↔ isGraph g = true ∧ 0 ≤ k ∧ k < g.length ∧ (th g k.toNat).kind = 2 := by
  cases hg : isGraph g with
  | true => rw [nodesL_eq hg, mem_rangeF]; simp
  | false => unfold nodesL; rw [hg]; simp
theorem nodesL_sorted (g : List Thing) : (nodesL g).Pairwise (· < ·) := by
  cases hg : isGraph g with
  | true => rw [nodesL_eq hg]; exact rangeF_sorted _ _
  | false => unfold nodesL; rw [hg]; exact List.Pairwise.nil
theorem nodeOf_node {g : List Thing} {a : Int} (ht : thereB g a = true) (h2 : (th g a.toNat).kind = 2) : nodeOf g a = a := by
  have h1 := thereB_iff.1 ht
  unfold nodeOf
  cases hf : (aboveL g a).find? fun k => (th g k.toNat).kind == 2 with
  | none =>
    rw [List.find?_eq_none] at hf
    have := hf a (aboveL_mem_iff.2 ⟨ht, h1.1, inU_refl _ _⟩)
    simp [h2] at this
  | some k =>
    have hk := List.find?_some hf
    have hm := aboveL_mem_iff.1 (List.mem_of_find?_eq_some hf)
    have := node_one h1.2.2 (by omega) (by simpa using hk) h2 hm.2.2
    simp; omega
/-- The leaves of a kind under some of the nodes. -/
def leafTo (g : List Thing) (l : List Int) (k : Int) : Nat := cntN g (fun i => decide ((th g i).up ∈ l)) k
theorem leafTo_succ {g : List Thing} (hg : isGraph g = true) {i : Nat} (hi : i < (nodesL g).length) {k : Int} (hk : k = 3 ∨ k = 4) : leafTo g ((nodesL g).take (i + 1)) k = leafTo g ((nodesL g).take i) k + cntN g (inU g (nodesL g)[i].toNat) k := by
  have hm := nodesL_mem.1 (List.getElem_mem hi)
  have hs := nodesL_sorted g
  unfold leafTo
  have htk : (nodesL g).take (i + 1) = (nodesL g).take i ++ [(nodesL g)[i]] := by rw [List.take_add_one, List.getElem?_eq_getElem hi]; rfl
  rw [← cntN_or]
  · refine cntN_congr fun j hj hjk => ?_
    have := leaf_node hg hj (by rw [hjk]; exact hk) hm.2.2.2
    rw [Bool.eq_iff_iff, htk]
    simp only [List.mem_append, List.mem_singleton, decide_eq_true_eq, Bool.or_eq_true, this]
    constructor
    · rintro (h | h)
      · exact .inl h
      · right; omega
    · rintro (h | h)
      · exact .inl h
      · right; omega
  · intro j hj hjk h1 h2
    have h3 := (leaf_node hg hj (by rw [hjk]; exact hk) hm.2.2.2).1 h2
    have h4 : (th g j).up ∈ (nodesL g).take i := by simpa using h1
    have h5 : (th g j).up = (nodesL g)[i] := by omega
    rw [h5] at h4
    obtain ⟨q, hq, he⟩ := List.getElem_of_mem h4
    rw [List.getElem_take] at he
    have hqi : q < i := by simp at hq; omega
    have := List.pairwise_iff_getElem.1 hs q i (by omega) hi hqi
    omega
theorem leafTo_all {g : List Thing} (hg : isGraph g = true) {k : Int} (hk : k = 3 ∨ k = 4) : leafTo g (nodesL g) k = cntN g (inU g 0) k := by
  unfold leafTo
  refine cntN_congr fun j hj hjk => ?_
  have hu := leaf_up hg hj (by rw [hjk]; exact hk)
  rw [inU_root hg hj, decide_eq_true_eq, nodesL_mem]
  exact ⟨hg, hu.1, by omega, hu.2.2⟩
end Go.Proofs.Ytnkcenafpigmbaa.Ab

namespace Go.Proofs.Ytnkcenafpigmbaa.Ab
open Go.RowKit
set_option linter.unusedVariables false
set_option linter.unusedSimpArgs false

def tagTo (s : ByteArray) (i : Nat) : Prop := ∀ j, j < i → ∀ b, s.data.toList[j]? = some b → isLet b.toNat = true
theorem rTag_c (s : ByteArray) (hs : s.size ≤ 9223372036854775807) : ACalls Try.prog 90 [.val (.string s)] (· = .one (.sv (bv (isTag s)))) := by
  refine ACalls.of_bodyS (fun _ _ => Try.call90 _ _) Try.func90 rfl Try.ntmps90 (by simp) ?_
  refine Tr.ex ?_
  simp [go_sem]
  refine LoopW.of (fun i : Nat => ⟨37, [(0, .sv (.val (.string s))), (2, .sv (bv false)), (3, .sv (iv i))], []⟩)
    (fun i => i ≤ s.size ∧ tagTo s i) (fun i => s.size - i) 0 ⟨by omega, fun j hj => by omega⟩ (Ent.chk (by simp [go_sem])) ?_
  rintro i ⟨hi, hl⟩
  by_cases hlt : i < s.size
  · have hlt' : (i : Int) < s.size := by omega
    have hw : IntKind.i64.wrap ((i : Int) + 1) = (i : Int) + 1 := by rw [i64w] <;> omega
    have hbyte : s.data.toList[i]? = some s[i] := by simp [hlt]; rfl
    have hbt : bt s i = (s[i].toNat : Int) := by
      unfold bt
      have : s.data.getD (i : Int).toNat 0 = s[i] := by
        rw [Int.toNat_natCast, Array.getD_eq_getD_getElem?, ← Array.getElem?_toList, hbyte]; rfl
      rw [this]
    have hgood : isLet s[i].toNat = true → tagTo s (i + 1) := fun h j hj b hb => by
      by_cases hji : j = i
      · subst hji; rw [hbyte] at hb; simp only [Option.some.injEq] at hb; subst hb; exact h
      · exact hl j (by omega) b hb
    have hbad : isLet s[i].toNat = false → isTag s = false := fun h => by unfold isTag; rw [tag_not hbyte h]; simp
    generalize s[i].toNat = n at hbt hgood hbad
    have il : isLet n = ((decide (97 ≤ n) && decide (n ≤ 122)) || (decide (48 ≤ n) && decide (n ≤ 57))) := rfl
    by_cases c1 : 97 ≤ n
    · have c1' : (97 : Int) ≤ n := by omega
      by_cases c2 : n ≤ 122
      · have c2' : (n : Int) ≤ 122 := by omega
        simp [go_sem, hlt, hlt', hbt, c1', c2']
        exact ⟨i + 1, ⟨by omega, hgood (by rw [il]; simp [c1, c2])⟩, by omega, Ent.chk (by simp [go_sem, hw])⟩
      · have c2' : ¬ (n : Int) ≤ 122 := by omega
        have c3' : ¬ (n : Int) ≤ 57 := by omega
        have c4' : (48 : Int) ≤ n := by omega
        simp [go_sem, hlt, hlt', hbt, c1', c2', c3', c4']
        exact hbad (by rw [il]; simp [c1, c2]; omega)
    · have c1' : ¬ (97 : Int) ≤ n := by omega
      by_cases c3 : 48 ≤ n
      · have c3' : (48 : Int) ≤ n := by omega
        by_cases c4 : n ≤ 57
        · have c4' : (n : Int) ≤ 57 := by omega
          simp [go_sem, hlt, hlt', hbt, c1', c3', c4']
          exact ⟨i + 1, ⟨by omega, hgood (by rw [il]; simp [c3, c4])⟩, by omega, Ent.chk (by simp [go_sem, hw])⟩
        · have c4' : ¬ (n : Int) ≤ 57 := by omega
          simp [go_sem, hlt, hlt', hbt, c1', c3', c4']
          exact hbad (by rw [il]; simp [c1, c4])
      · have c3' : ¬ (48 : Int) ≤ n := by omega
        simp [go_sem, hlt, hlt', hbt, c1', c3']
        exact hbad (by rw [il]; simp [c1, c3])
  · have hil : i = s.size := by omega
    subst hil
    have : tagBytes s = true := tag_upto (by omega) hl
    simp [go_sem, isTag, this]
    by_cases h : s.size ≤ 16
    · have : (s.size : Int) ≤ 16 := by omega
      simp [h, this]
    · have : ¬ (s.size : Int) ≤ 16 := by omega
      simp [h, this]

end Go.Proofs.Ytnkcenafpigmbaa.Ab

namespace Go.Proofs.Ytnkcenafpigmbaa.Ab
open Go.RowKit
set_option linter.unusedVariables false
set_option linter.unusedSimpArgs false

structure Spec where
  nodes : Int
  cores : Int
  gpus : Int
  tag : ByteArray
  whole : Bool
  long : Int
  prio : Int
  deriving Inhabited
def specCells (s : Spec) : List SV := [iv s.nodes, iv s.cores, iv s.gpus, sv' s.tag, bv s.whole, iv s.long, iv s.prio]
def specSV (s : Spec) : SV := .agg (specCells s)
attribute [go_sem] specSV specCells
def SpecOk (s : Spec) : Prop := (Lit.int .i64 s.nodes).wf = true ∧ (Lit.int .i64 s.cores).wf = true ∧ (Lit.int .i64 s.gpus).wf = true ∧ s.tag.size ≤ 140737488351232 ∧ (Lit.int .i64 s.long).wf = true ∧ (Lit.int .i64 s.prio).wf = true
theorem SpecOk_mk {p : Int × Int × Int × ByteArray × Bool × Int × Int × Unit} (h : (Lit.int .i64 p.1).wf = true ∧ (Lit.int .i64 p.2.1).wf = true ∧ (Lit.int .i64 p.2.2.1).wf = true ∧ p.2.2.2.1.size ≤ 140737488351232 ∧ True ∧ (Lit.int .i64 p.2.2.2.2.2.1).wf = true ∧ (Lit.int .i64 p.2.2.2.2.2.2.1).wf = true ∧ True) :
    SpecOk ⟨p.1, p.2.1, p.2.2.1, p.2.2.2.1, p.2.2.2.2.1, p.2.2.2.2.2.1, p.2.2.2.2.2.2.1⟩ := ⟨h.1, h.2.1, h.2.2.1, h.2.2.2.1, h.2.2.2.2.2.1, h.2.2.2.2.2.2.1⟩
def inR (n a b : Int) : Bool := decide (a ≤ n) && decide (n ≤ b)
theorem within_c (n a b : Int) : ACalls Try.prog 79 [iv n, iv a, iv b] (· = .one (.sv (bv (inR n a b)))) := by
  refine ACalls.of_bodyS (fun _ _ => Try.call79 _ _) Try.func79 rfl Try.ntmps79 (by simp) ?_
  refine Tr.ex ?_
  unfold inR
  by_cases h : a ≤ n <;> simp [go_sem, h]
theorem within64_c (n a b : Int) : ACalls Try.prog 81 [iv n, iv a, iv b] (· = .one (.sv (bv (inR n a b)))) := by
  refine ACalls.of_bodyS (fun _ _ => Try.call81 _ _) Try.func81 rfl Try.ntmps81 (by simp) ?_
  refine Tr.ex ?_
  unfold inR
  by_cases h : a ≤ n <;> simp [go_sem, h]
/-- Is it a spec that may be asked for? -/
def isSpec (s : Spec) : Bool := (inR s.nodes 1 64 && inR s.cores 0 64 && inR s.gpus 0 64) && (s.whole || decide (0 < s.cores) || decide (0 < s.gpus)) && isTag s.tag && inR s.long 1 1099511627776 && inR s.prio (-1000) 1000
set_option maxHeartbeats 8000000 in
set_option maxRecDepth 100000 in
theorem sRight_c (s : Spec) (hs : s.tag.size ≤ 140737488351232) : ACalls Try.prog 53 [specSV s] (· = .one (.sv (bv (isSpec s)))) := by
  refine ACalls.of_bodyS (fun _ _ => Try.call53 _ _) Try.func53 rfl Try.ntmps53 (by simp) ?_
  refine Tr.ex ?_
  unfold isSpec
  cases hw : s.whole <;> by_cases hc : 0 < s.cores <;> by_cases hg : 0 < s.gpus
  all_goals
    simp [go_sem, hw, hc, hg]
    refine OpW.fn true (within_c s.nodes 1 64) rfl rfl (by simp [go_sem]) (by rintro _ r rfl; simp [go_sem]) ?_
    rintro r rfl
    cases h1 : inR s.nodes 1 64 with
    | false => simp [go_sem, hw, hc, hg]
    | true =>
      simp [go_sem, hw, hc, hg]
      refine OpW.fn true (within_c s.cores 0 64) rfl rfl (by simp [go_sem]) (by rintro _ r rfl; simp [go_sem]) ?_
      rintro r rfl
      cases h2 : inR s.cores 0 64 with
      | false => simp [go_sem, hw, hc, hg]
      | true =>
        simp [go_sem, hw, hc, hg]
        refine OpW.fn true (within_c s.gpus 0 64) rfl rfl (by simp [go_sem]) (by rintro _ r rfl; simp [go_sem]) ?_
        rintro r rfl
        cases h3 : inR s.gpus 0 64 with
        | false => simp [go_sem, hw, hc, hg]
        | true =>
          simp [go_sem, hw, hc, hg]
          try
            refine OpW.fn true (Tag_c s.tag (by omega)) rfl rfl (by simp [go_sem]) (by rintro _ r rfl; simp [go_sem]) ?_
            rintro r rfl
            cases h4 : isTag s.tag with
            | false => simp [go_sem]
            | true =>
              simp [go_sem]
              refine OpW.fn true (within64_c s.long 1 1099511627776) rfl rfl (by simp [go_sem]) (by rintro _ r rfl; simp [go_sem]) ?_
              rintro r rfl
              cases h5 : inR s.long 1 1099511627776 with
              | false => simp [go_sem]
              | true =>
                simp [go_sem]
                refine OpW.fn true (within_c s.prio (-1000) 1000) rfl rfl (by simp [go_sem]) (by rintro _ r rfl; simp [go_sem]) ?_
                rintro r rfl
                simp [go_sem]
set_option maxHeartbeats 8000000 in
set_option maxRecDepth 100000 in
theorem rSpec_c (s : Spec) (hs : s.tag.size ≤ 140737488351232) : ACalls Try.prog 71 [specSV s] (· = .one (.sv (bv (isSpec s)))) := by
  refine ACalls.of_bodyS (fun _ _ => Try.call71 _ _) Try.func71 rfl Try.ntmps71 (by simp) ?_
  refine Tr.ex ?_
  unfold isSpec inR
  by_cases a1 : 1 ≤ s.nodes
  case neg =>
    have b1 : s.nodes < 1 := by omega
    simp [go_sem, a1, b1]
  have b1 : ¬ s.nodes < 1 := by omega
  by_cases a2 : s.nodes ≤ 64
  case neg =>
    have b2 : 64 < s.nodes := by omega
    simp [go_sem, b1, b2, a2]
  have b2 : ¬ 64 < s.nodes := by omega
  by_cases a3 : 0 ≤ s.cores
  case neg =>
    have b3 : s.cores < 0 := by omega
    simp [go_sem, b1, b2, a3, b3]
  have b3 : ¬ s.cores < 0 := by omega
  by_cases a4 : s.cores ≤ 64
  case neg =>
    have b4 : 64 < s.cores := by omega
    simp [go_sem, b1, b2, b3, a4, b4]
  have b4 : ¬ 64 < s.cores := by omega
  by_cases a5 : 0 ≤ s.gpus
  case neg =>
    have b5 : s.gpus < 0 := by omega
    simp [go_sem, b1, b2, b3, b4, a5, b5]
  have b5 : ¬ s.gpus < 0 := by omega
  by_cases a6 : s.gpus ≤ 64
  case neg =>
    have b6 : 64 < s.gpus := by omega
    simp [go_sem, b1, b2, b3, b4, b5, a6, b6]
  have b6 : ¬ 64 < s.gpus := by omega
  have r1 : decide (1 ≤ s.nodes) = true := by simpa using a1
  have r2 : decide (s.nodes ≤ 64) = true := by simpa using a2
  have r3 : decide (0 ≤ s.cores) = true := by simpa using a3
  have r4 : decide (s.cores ≤ 64) = true := by simpa using a4
  have r5 : decide (0 ≤ s.gpus) = true := by simpa using a5
  have r6 : decide (s.gpus ≤ 64) = true := by simpa using a6
  rw [r1, r2, r3, r4, r5, r6]
  by_cases z1 : s.cores = 0
  · by_cases z2 : s.gpus = 0
    · cases hw : s.whole with
      | false => simp [go_sem, z1, z2, hw, b1, b2]
      | true =>
        simp [go_sem, z1, z2, hw, b1, b2]
        refine OpW.fn true (rTag_c s.tag (by omega)) rfl rfl (by simp [go_sem]) (by rintro _ r rfl; simp [go_sem]) ?_
        rintro r rfl
        cases hq : isTag s.tag with
        | false => simp [go_sem]
        | true =>
          by_cases c1 : 1 ≤ s.long
          case neg => simp [go_sem, c1]
          by_cases c2 : s.long ≤ 1099511627776
          case neg => simp [go_sem, c1, c2]
          by_cases c3 : -1000 ≤ s.prio
          case neg => simp [go_sem, c1, c2, c3]
          by_cases c4 : s.prio ≤ 1000 <;> simp [go_sem, c1, c2, c3, c4]
    · have e2 : (s.gpus == 0) = false := by simpa using z2
      have p2 : 0 < s.gpus := by omega
      simp [go_sem, z1, e2, p2, b1, b2, b5, b6]
      refine OpW.fn true (rTag_c s.tag (by omega)) rfl rfl (by simp [go_sem]) (by rintro _ r rfl; simp [go_sem]) ?_
      rintro r rfl
      cases hq : isTag s.tag with
      | false => simp [go_sem]
      | true =>
        by_cases c1 : 1 ≤ s.long
        case neg => simp [go_sem, c1]
        by_cases c2 : s.long ≤ 1099511627776
        case neg => simp [go_sem, c1, c2]
        by_cases c3 : -1000 ≤ s.prio
        case neg => simp [go_sem, c1, c2, c3]
        by_cases c4 : s.prio ≤ 1000 <;> simp [go_sem, c1, c2, c3, c4]
  · have e1 : (s.cores == 0) = false := by simpa using z1
    have p1 : 0 < s.cores := by omega
    simp [go_sem, e1, p1, b1, b2, b3, b4, b5, b6]
    refine OpW.fn true (rTag_c s.tag (by omega)) rfl rfl (by simp [go_sem]) (by rintro _ r rfl; simp [go_sem]) ?_
    rintro r rfl
    cases hq : isTag s.tag with
    | false => simp [go_sem]
    | true =>
      by_cases c1 : 1 ≤ s.long
      case neg => simp [go_sem, c1]
      by_cases c2 : s.long ≤ 1099511627776
      case neg => simp [go_sem, c1, c2]
      by_cases c3 : -1000 ≤ s.prio
      case neg => simp [go_sem, c1, c2, c3]
      by_cases c4 : s.prio ≤ 1000 <;> simp [go_sem, c1, c2, c3, c4]
end Go.Proofs.Ytnkcenafpigmbaa.Ab
