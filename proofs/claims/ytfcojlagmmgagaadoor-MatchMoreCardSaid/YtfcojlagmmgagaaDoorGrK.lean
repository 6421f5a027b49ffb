/- Sets: Join, Meet, Less; graph.Whole, and the reference's. -/
import Derived.Test.YtfcojlagmmgagaaDoorGrJ
import Derived.Test.YtfcojlagmmgagaaDoorReC
namespace Go.Proofs.YtfcojlagmmgagaaDoor.Ab
open Go.RowKit
set_option linter.unusedVariables false
set_option linter.unusedSimpArgs false

def opL (F : Bool → Bool → Bool) (a b : List Int) : List Int := if isSet a = true ∧ isSet b = true then rangeF (fun i => F (decide ((i : Int) ∈ a)) (decide ((i : Int) ∈ b))) 256 else []
def joinL (a b : List Int) : List Int := opL (fun x y => x || y) a b
def meetL (a b : List Int) : List Int := opL (fun x y => x && y) a b
def lessL (a b : List Int) : List Int := opL (fun x y => x && !y) a b
theorem opL_set (F : Bool → Bool → Bool) (a b : List Int) : isSet (opL F a b) = true := by
  unfold opL; split
  · exact rangeF_set _ (Nat.le_refl _)
  · rfl
theorem opL_mem {F : Bool → Bool → Bool} (hF : F false false = false) {a b : List Int} (ha : isSet a = true) (hb : isSet b = true) {n : Int} : n ∈ opL F a b ↔ F (decide (n ∈ a)) (decide (n ∈ b)) = true := by
  unfold opL
  rw [if_pos ⟨ha, hb⟩, mem_rangeF]
  constructor
  · rintro ⟨h0, h1, h2⟩; rwa [Int.toNat_of_nonneg h0] at h2
  · intro h
    have h1 := (isSet_iff.1 ha).2 n
    have h2 := (isSet_iff.1 hb).2 n
    by_cases h3 : n ∈ a
    · have := h1 h3; exact ⟨this.1, this.2, by rw [Int.toNat_of_nonneg this.1]; exact h⟩
    · by_cases h4 : n ∈ b
      · have := h2 h4; exact ⟨this.1, this.2, by rw [Int.toNat_of_nonneg this.1]; exact h⟩
      · simp [h3, h4, hF] at h
theorem joinL_set (a b : List Int) : isSet (joinL a b) = true := opL_set _ _ _
theorem meetL_set (a b : List Int) : isSet (meetL a b) = true := opL_set _ _ _
theorem lessL_set (a b : List Int) : isSet (lessL a b) = true := opL_set _ _ _
theorem joinL_mem {a b : List Int} (ha : isSet a = true) (hb : isSet b = true) {n : Int} : n ∈ joinL a b ↔ n ∈ a ∨ n ∈ b := by unfold joinL; rw [opL_mem rfl ha hb]; simp
theorem meetL_mem {a b : List Int} (ha : isSet a = true) (hb : isSet b = true) {n : Int} : n ∈ meetL a b ↔ n ∈ a ∧ n ∈ b := by unfold meetL; rw [opL_mem rfl ha hb]; simp
theorem lessL_mem {a b : List Int} (ha : isSet a = true) (hb : isSet b = true) {n : Int} : n ∈ lessL a b ↔ n ∈ a ∧ n ∉ b := by unfold lessL; rw [opL_mem rfl ha hb]; simp
theorem opL_bad {F : Bool → Bool → Bool} {a b : List Int} (h : isSet a = false ∨ isSet b = false) : opL F a b = [] := by
  unfold opL; rw [if_neg]; rintro ⟨h1, h2⟩; rcases h with h | h <;> simp [h] at h1 h2
theorem listW_op {F : BitVec 64 → BitVec 64 → BitVec 64} {f : Bool → Bool → Bool} (hF : ∀ x y i, i < 64 → (F x y).getLsbD i = f (x.getLsbD i) (y.getLsbD i)) (a b : List Int) :
    (if isSet a = true ∧ isSet b = true then listW (fun j => F (wd a j) (wd b j)) 256 else []) = opL f a b := by
  unfold opL
  split
  · rename_i h
    unfold listW
    refine rangeF_congr fun i hi => ?_
    have h1 := wd_has h.1 (n := (i : Int)) (by omega) (by omega)
    have h2 := wd_has h.2 (n := (i : Int)) (by omega) (by omega)
    simp only [Int.toNat_natCast] at h1 h2
    rw [hF _ _ _ (by omega), h1, h2]
  · rfl
theorem or1_c (x y : BitVec 64) : ACalls Tryd.prog 72 [u64 x, u64 y] (· = .one (.sv (u64 (wOr x y)))) := by
  refine ACalls.of_bodyS (fun _ _ => Tryd.call72 _ _) Tryd.func72 rfl Tryd.ntmps72 (by simp) ?_
  refine Tr.ex ?_
  simp [go_sem]
theorem and1_c (x y : BitVec 64) : ACalls Tryd.prog 74 [u64 x, u64 y] (· = .one (.sv (u64 (wAnd x y)))) := by
  refine ACalls.of_bodyS (fun _ _ => Tryd.call74 _ _) Tryd.func74 rfl Tryd.ntmps74 (by simp) ?_
  refine Tr.ex ?_
  simp [go_sem]
theorem not1_c (x y : BitVec 64) : ACalls Tryd.prog 73 [u64 x, u64 y] (· = .one (.sv (u64 (wNot x y)))) := by
  refine ACalls.of_bodyS (fun _ _ => Tryd.call73 _ _) Tryd.func73 rfl Tryd.ntmps73 (by simp) ?_
  refine Tr.ex ?_
  simp [go_sem]
theorem Join_c (a b : List Int) (ha : a.length ≤ 140737488355328) (hb : b.length ≤ 140737488355328) : ACalls Tryd.prog 31 [ints a, ints b] (· = .one (.sv (ints (joinL a b)))) := by
  refine ACalls.of_bodyS (fun _ _ => Tryd.call31 _ _) Tryd.func31 rfl Tryd.ntmps31 (by simp) ?_
  refine Tr.ex ?_
  have h := put_c a b _ wOr ha hb or1_c
  rw [listW_op (f := fun x y => x || y) (fun x y i _ => by unfold wOr; simp)] at h
  simp [go_sem]
  refine OpW.fn false h rfl rfl (by simp [go_sem]) (fun h => by cases h) ?_
  rintro r rfl
  simp [go_sem, joinL]
theorem Meet_c (a b : List Int) (ha : a.length ≤ 140737488355328) (hb : b.length ≤ 140737488355328) : ACalls Tryd.prog 33 [ints a, ints b] (· = .one (.sv (ints (meetL a b)))) := by
  refine ACalls.of_bodyS (fun _ _ => Tryd.call33 _ _) Tryd.func33 rfl Tryd.ntmps33 (by simp) ?_
  refine Tr.ex ?_
  have h := put_c a b _ wAnd ha hb and1_c
  rw [listW_op (f := fun x y => x && y) (fun x y i _ => by unfold wAnd; simp)] at h
  simp [go_sem]
  refine OpW.fn false h rfl rfl (by simp [go_sem]) (fun h => by cases h) ?_
  rintro r rfl
  simp [go_sem, meetL]
theorem Less_c (a b : List Int) (ha : a.length ≤ 140737488355328) (hb : b.length ≤ 140737488355328) : ACalls Tryd.prog 32 [ints a, ints b] (· = .one (.sv (ints (lessL a b)))) := by
  refine ACalls.of_bodyS (fun _ _ => Tryd.call32 _ _) Tryd.func32 rfl Tryd.ntmps32 (by simp) ?_
  refine Tr.ex ?_
  have h := put_c a b _ wNot ha hb not1_c
  rw [listW_op (f := fun x y => x && !y) (fun x y i hi => by unfold wNot; simp [hi])] at h
  simp [go_sem]
  refine OpW.fn false h rfl rfl (by simp [go_sem]) (fun h => by cases h) ?_
  rintro r rfl
  simp [go_sem, lessL]

/-! ### Whole -/
def wholeP (g : List Thing) (l : List Int) (n : Nat) : Bool := l.any fun k => inU g n k.toNat
def wholeL (g : List Thing) (l : List Int) : List Int := if isGraph g = true ∧ isSet l = true ∧ (∀ n ∈ l, n < (g.length : Int)) then rangeF (wholeP g l) g.length else []
theorem whole_snoc {g : List Thing} (hg : isGraph g = true) {l : List Int} {k : Int} (h0 : 0 ≤ k) (hk : k < g.length) : joinL (rangeF (wholeP g l) g.length) (aboveL g k) = rangeF (wholeP g (l ++ [k])) g.length := by
  have hgl := isGraph_len hg
  refine set_ext (joinL_set _ _) (rangeF_set _ hgl.2) fun n => ?_
  rw [joinL_mem (rangeF_set _ hgl.2) (aboveL_set _ _), mem_rangeF, mem_rangeF, aboveL_mem_iff]
  unfold wholeP
  simp only [List.any_append, List.any_cons, List.any_nil, Bool.or_false, Bool.or_eq_true]
  constructor
  · rintro (⟨h1, h2, h3⟩ | ⟨_, h1, h2⟩)
    · exact ⟨h1, h2, .inl h3⟩
    · have := inU_le h2
      exact ⟨h1, by omega, .inr h2⟩
  · rintro ⟨h1, h2, h3 | h3⟩
    · exact .inl ⟨h1, h2, h3⟩
    · exact .inr ⟨thereB_iff.2 ⟨h0, hk, hg⟩, h1, h3⟩
theorem lastOf_max {l : List Int} (hs : isSet l = true) {n : Int} (hn : n ∈ l) : n ≤ l.getD (l.length - 1) 0 := by
  have h := (isSet_iff.1 hs).1
  obtain ⟨i, hi, rfl⟩ := List.getElem_of_mem hn
  rw [List.getD_eq_getElem?_getD, List.getElem?_eq_getElem (by omega)]
  by_cases he : i = l.length - 1
  · simp [← he]
  · have := List.pairwise_iff_getElem.1 h i (l.length - 1) hi (by omega) (by omega)
    simp; omega
end Go.Proofs.YtfcojlagmmgagaaDoor.Ab
