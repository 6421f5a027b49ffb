/- Sets: Join, Meet, Less; graph.Whole, and the reference's. -/
import Derived.Test.YtjpmldfmgogheaaDoorGrJ
import Derived.Test.YtjpmldfmgogheaaDoorReC
namespace Go.Proofs.YtjpmldfmgogheaaDoor.Ab
open Go.RowKit
set_option linter.unusedVariables false
set_option linter.unusedSimpArgs false

def opL (F : Bool → Bool → Bool) (a b : List Int) : List Int := if isSet a = true ∧ isSet b = true then rangeF (fun i => F (decide ((i : Int) ∈ a)) (decide ((i : Int) ∈ b))) 256 else []
def joinL (a b : List Int) : List Int := opL (fun x y => x || y) a b
def meetL (a b : List Int) : List Int := opL (fun x y => x && y) a b
def lessL (a b : List Int) : List Int := opL (fun x y => x && !y) a b
theorem opL_set (F : Bool → Bool → Bool) (a b : List Int) : isSet (opL F a b) = true := by
  unfold opL; split
  · exact rangeF_set _ (Nat.le_refl _)
  · rfl
theorem opL_mem {F : Bool → Bool → Bool} (hF : F false false = false) {a b : List Int} (ha : isSet a = true) (hb : isSet b = true) {n : Int} : n ∈ opL F a b ↔ F (decide (n ∈ a)) (decide (n ∈ b)) = true := by
  unfold opL
  rw [if_pos ⟨ha, hb⟩, mem_rangeF]
  constructor
  · rintro ⟨h0, h1, h2⟩; rwa [Int.toNat_of_nonneg h0] at h2
  · intro h
    have h1 := (isSet_iff.1 ha).2 n
    have h2 := (isSet_iff.1 hb).2 n
    by_cases h3 : n ∈ a
    · have := h1 h3; exact ⟨this.1, this.2, by rw [Int.toNat_of_nonneg this.1]; exact h⟩
    · by_cases h4 : n ∈ b
      · have := h2 h4; exact ⟨this.1, this.2, by rw [Int.toNat_of_nonneg this.1]; exact h⟩
      · simp [h3, h4, hF] at h
theorem joinL_set (a b : List Int) : isSet (joinL a b) = true := opL_set _ _ _
theorem meetL_set (a b : List Int) : isSet (meetL a b) = true := opL_set _ _ _
theorem lessL_set (a b : List Int) : isSet (lessL a b) = true := opL_set _ _ _
theorem joinL_mem {a b : List Int} (ha : isSet a = true) (hb : isSet b = true) {n : Int} : n ∈ joinL a b ↔ n ∈ a ∨ n ∈ b := by unfold joinL; rw [opL_mem rfl ha hb]; simp
theorem meetL_mem {a b : List Int} (ha : isSet a = true) (hb : isSet b = true) {n : Int} : n ∈ meetL a b ↔ n ∈ a ∧ n ∈ b := by unfold meetL; rw [opL_mem rfl ha hb]; simp
theorem lessL_mem {a b : List Int} (ha : isSet a = true) (hb : isSet b = true) {n : Int} : n ∈ lessL a b ↔ n ∈ a ∧ n ∉ b := by unfold lessL; rw [opL_mem rfl ha hb]; simp
theorem opL_bad {F : Bool → Bool → Bool} {a b : List Int} (h : isSet a = false ∨ isSet b = false) : opL F a b = [] := by
  unfold opL; rw [if_neg]; rintro ⟨h1, h2⟩; rcases h with h | h <;> simp [h] at h1 h2
theorem listW_op {F : BitVec 64 → BitVec 64 → BitVec 64} {f : Bool → Bool → Bool} (hF : ∀ x y i, i < 64 → (F x y).getLsbD i = f (x.getLsbD i) (y.getLsbD i)) (a b : List Int) :
    (if isSet a = true ∧ isSet b = true then listW (fun j => F (wd a j) (wd b j)) 256 else []) = opL f a b := by
  unfold opL
  split
  · rename_i h
    unfold listW
    refine rangeF_congr fun i hi => ?_
    have h1 := wd_has h.1 (n := (i : Int)) (by omega) (by omega)
    have h2 := wd_has h.2 (n := (i : Int)) (by omega) (by omega)
    simp only [Int.toNat_natCast] at h1 h2
    rw [hF _ _ _ (by omega), h1, h2]
  · rfl
theorem or1_c (x y : BitVec 64) : ACalls Tryd.prog 56 [u64 x, u64 y] (· = .one (.sv (u64 (wOr x y)))) := by
  refine ACalls.of_bodyS (fun _ _ => Tryd.call56 _ _) Tryd.func56 rfl Tryd.ntmps56 (by simp) ?_
  refine Tr.ex ?_
  simp [go_sem]
theorem and1_c (x y : BitVec 64) : ACalls Tryd.prog 47 [u64 x, u64 y] (· = .one (.sv (u64 (wAnd x y)))) := by
  refine ACalls.of_bodyS (fun _ _ => Tryd.call47 _ _) Tryd.func47 rfl Tryd.ntmps47 (by simp) ?_
  refine Tr.ex ?_
  simp [go_sem]
theorem not1_c (x y : BitVec 64) : ACalls Tryd.prog 48 [u64 x, u64 y] (· = .one (.sv (u64 (wNot x y)))) := by
  refine ACalls.of_bodyS (fun _ _ => Tryd.call48 _ _) Tryd.func48 rfl Tryd.ntmps48 (by simp) ?_
  refine Tr.ex ?_
  simp [go_sem]
theorem Join_c (a b : List Int) (ha : a.length ≤ 140737488355328) (hb : b.length ≤ 140737488355328) : ACalls Tryd.prog 39 [ints a, ints b] (· = .one (.sv (ints (joinL a b)))) := by
  refine ACalls.of_bodyS (fun _ _ => Tryd.call39 _ _) Tryd.func39 rfl Tryd.ntmps39 (by simp) ?_
  refine Tr.ex ?_
  have h := put_c a b _ wOr ha hb or1_c
  rw [listW_op (f := fun x y => x || y) (fun x y i _ => by unfold wOr; simp)] at h
  simp [go_sem]
  refine OpW.fn false h rfl rfl (by simp [go_sem]) (fun h => by cases h) ?_
  rintro r rfl
  simp [go_sem, joinL]
theorem Meet_c (a b : List Int) (ha : a.length ≤ 140737488355328) (hb : b.length ≤ 140737488355328) : ACalls Tryd.prog 26 [ints a, ints b] (· = .one (.sv (ints (meetL a b)))) := by
  refine ACalls.of_bodyS (fun _ _ => Tryd.call26 _ _) Tryd.func26 rfl Tryd.ntmps26 (by simp) ?_
  refine Tr.ex ?_
  have h := put_c a b _ wAnd ha hb and1_c
  rw [listW_op (f := fun x y => x && y) (fun x y i _ => by unfold wAnd; simp)] at h
  simp [go_sem]
  refine OpW.fn false h rfl rfl (by simp [go_sem]) (fun h => by cases h) ?_
  rintro r rfl
  simp [go_sem, meetL]
theorem Less_c (a b : List Int) (ha : a.length ≤ 140737488355328) (hb : b.length ≤ 140737488355328) : ACalls Tryd.prog 27 [ints a, ints b] (· = .one (.sv (ints (lessL a b)))) := by
  refine ACalls.of_bodyS (fun _ _ => Tryd.call27 _ _) Tryd.func27 rfl Tryd.ntmps27 (by simp) ?_
  refine Tr.ex ?_
  have h := put_c a b _ wNot ha hb not1_c
  rw [listW_op (f := fun x y => x && !y) (fun x y i hi => by unfold wNot; simp [hi])] at h
  simp [go_sem]
  refine OpW.fn false h rfl rfl (by simp [go_sem]) (fun h => by cases h) ?_
  rintro r rfl
  simp [go_sem, lessL]

/-! ### Whole -/
def wholeP (g : List Thing) (l : List Int) (n : Nat) : Bool := l.any fun k => inU g n k.toNat
def wholeL (g : List Thing) (l : List Int) : List Int := if isGraph g = true ∧ isSet l = true ∧ (∀ n ∈ l, n < (g.length : Int)) then rangeF (wholeP g l) g.length else []
theorem whole_snoc {g : List Thing} (hg : isGraph g = true) {l : List Int} {k : Int} (h0 : 0 ≤ k) (hk : k < g.length) : joinL (rangeF (wholeP g l) g.length) (aboveL g k) = rangeF (wholeP g (l ++ [k])) g.length := by
  have hgl := isGraph_len hg
  refine set_ext (joinL_set _ _) (rangeF_set _ hgl.2) fun n => ?_
  rw [joinL_mem (rangeF_set _ hgl.2) (aboveL_set _ _), mem_rangeF, mem_rangeF, aboveL_mem_iff]
  unfold wholeP
  simp only [List.any_append, List.any_cons, List.any_nil, Bool.or_false, Bool.or_eq_true]
  constructor
  · rintro (⟨h1, h2, h3⟩ | ⟨_, h1, h2⟩)
    · exact ⟨h1, h2, .inl h3⟩
    · have := inU_le h2
      exact ⟨h1, by omega, .inr h2⟩
  · rintro ⟨h1, h2, h3 | h3⟩
    · exact .inl ⟨h1, h2, h3⟩
    · exact .inr ⟨thereB_iff.2 ⟨h0, hk, hg⟩, h1, h3⟩
theorem Whole_c (g : List Thing) (l : List Int) (hg : g.length ≤ 140737488355328) (ht : Things g) (hl : l.length ≤ 140737488355328) : ACalls Tryd.prog 19 [things g, ints l] (· = .one (.sv (ints (wholeL g l)))) := by
  refine ACalls.of_bodyS (fun _ _ => Tryd.call19 _ _) Tryd.func19 rfl Tryd.ntmps19 (by simp) ?_
  refine Tr.ex ?_
  simp [go_sem]
  refine OpW.fn true (gRight_c g hg ht) rfl rfl (by simp [go_sem]) (by rintro _ r rfl; simp [go_sem]) ?_
  rintro r rfl
  cases hgr : isGraph g with
  | false => simp [go_sem, wholeL, hgr]
  | true =>
    simp [go_sem]
    refine OpW.fn true (setRight_c l hl) rfl rfl (by simp [go_sem]) (by rintro _ r rfl; simp [go_sem]) ?_
    rintro r rfl
    cases hs : isSet l with
    | false => simp [go_sem, wholeL, hs]
    | true =>
      have hgl := isGraph_len hgr
      simp [go_sem]
      refine LoopW.of (fun i : Nat => ⟨33, [(0, .sv (things g)), (4, .nil), (5, .sv (ints (rangeF (wholeP g (l.take i)) g.length))), (16, .sv (ints l)), (17, .sv (iv l.length)), (18, .sv (iv i))], []⟩)
        (fun i => i ≤ l.length ∧ ∀ n ∈ l.take i, n < (g.length : Int)) (fun i => l.length - i) 0 ⟨by omega, by simp⟩ ?_ ?_
      · have e : rangeF (wholeP g (l.take 0)) g.length = [] := by
          unfold rangeF
          rw [List.filter_eq_nil_iff.2 (fun i _ => by simp [wholeP])]; rfl
        rw [e]
        refine Ent.trans (Ent.nilS (d := 5) (by simp [go_sem])) (Ent.chk (by simp [go_sem]))
      rintro i ⟨hi, hb⟩
      by_cases hlt : i < l.length
      · have hlt' : (i : Int) < l.length := by omega
        have hx : l[i]? = some l[i] := List.getElem?_eq_getElem hlt
        have htk : l.take (i + 1) = l.take i ++ [l[i]] := by rw [List.take_add_one, hx]; rfl
        have hm : l[i] ∈ l := List.getElem_mem hlt
        have hnn := (isSet_mem hs _ hm).1
        have hw : IntKind.i64.wrap ((i : Int) + 1) = (i : Int) + 1 := by rw [i64w] <;> omega
        have hrl := rangeF_len (wholeP g (l.take i)) g.length
        generalize l[i] = v at hx htk hm hnn
        by_cases hv : (g.length : Int) ≤ v
        · have e : wholeL g l = [] := by unfold wholeL; rw [if_neg]; rintro ⟨_, _, h⟩; have := h v hm; omega
          simp [go_sem, hlt', hx, hv, e]
        · have hs1 := whole_snoc hgr (l := l.take i) hnn (by omega)
          have hal := set_len (aboveL_set g v)
          rw [← htk] at hs1
          simp [go_sem, hlt', hx, hv]
          refine OpW.fn false (Above_c g v hg ht) rfl rfl (by simp [go_sem]) (fun h => by cases h) ?_
          rintro r rfl
          simp [go_sem]
          refine OpW.fn false (Join_c (rangeF (wholeP g (l.take i)) g.length) (aboveL g v) (by omega) (by omega)) rfl rfl (by simp [go_sem]) (fun h => by cases h) ?_
          rintro r rfl
          rw [hs1]
          simp [go_sem]
          exact ⟨i + 1, ⟨by omega, by rw [htk]; intro n hn; rcases List.mem_append.1 hn with h | h; exact hb n h; rw [List.mem_singleton.1 h]; omega⟩, by omega, Ent.chk (by simp [go_sem, hw])⟩
      · have hil : i = l.length := by omega
        subst hil
        rw [List.take_length] at hb
        have e : wholeL g l = rangeF (wholeP g l) g.length := by unfold wholeL; rw [if_pos ⟨hgr, hs, hb⟩]
        simp [go_sem, e]
theorem lastOf_max {l : List Int} (hs : isSet l = true) {n : Int} (hn : n ∈ l) : n ≤ l.getD (l.length - 1) 0 := by
  have h := (isSet_iff.1 hs).1
  obtain ⟨i, hi, rfl⟩ := List.getElem_of_mem hn
  rw [List.getD_eq_getElem?_getD, List.getElem?_eq_getElem (by omega)]
  by_cases he : i = l.length - 1
  · simp [← he]
  · have := List.pairwise_iff_getElem.1 h i (l.length - 1) hi (by omega) (by omega)
    simp; omega
theorem rWhole_c (g : List Thing) (l : List Int) (hg : g.length ≤ 140737488355328) (ht : Things g) (hl : l.length ≤ 140737488355328) : ACalls Tryd.prog 20 [things g, ints l] (· = .one (.sv (ints (wholeL g l)))) := by
  refine ACalls.of_bodyS (fun _ _ => Tryd.call20 _ _) Tryd.func20 rfl Tryd.ntmps20 (by simp) ?_
  refine Tr.ex ?_
  simp [go_sem]
  refine OpW.fn true (rRight_c g hg ht) rfl rfl (by simp [go_sem]) (by rintro _ r rfl; simp [go_sem]) ?_
  rintro r rfl
  cases hgr : isGraph g with
  | false => simp [go_sem, wholeL, hgr]
  | true =>
    simp [go_sem]
    refine OpW.fn true (r1Right_c l hl) rfl rfl (by simp [go_sem]) (by rintro _ r rfl; simp [go_sem]) ?_
    rintro r rfl
    cases hs : isSet l with
    | false => simp [go_sem, wholeL, hs]
    | true =>
      have hgl := isGraph_len hgr
      have e0 : rangeF (wholeP g l) 0 = [] := rfl
      have hcase : l.length = 0 ∨ 0 < l.length := by omega
      have hgo : (∀ n ∈ l, n < (g.length : Int)) → wholeL g l = rangeF (wholeP g l) g.length := fun hb => by unfold wholeL; rw [if_pos ⟨hgr, hs, hb⟩]
      have hstop : ∀ q ∈ l, (g.length : Int) ≤ q → wholeL g l = [] := fun q hq hv => by unfold wholeL; rw [if_neg]; rintro ⟨_, _, h⟩; have := h q hq; omega
      have hlast : 0 < l.length → l[l.length - 1]? = some (l.getD (l.length - 1) 0) := fun h => by rw [List.getD_eq_getElem?_getD, List.getElem?_eq_getElem (by omega)]; rfl
      have hmax := fun n (hn : n ∈ l) => lastOf_max hs hn
      have hw1 : 0 < l.length → IntKind.i64.wrap ((l.length : Int) - 1) = ((l.length - 1 : Nat) : Int) := fun h => by rw [i64w] <;> omega
      generalize hq : l.getD (l.length - 1) 0 = q at hlast hmax
      by_cases hbad : 0 < l.length ∧ (g.length : Int) ≤ q
      · have h1 := hlast hbad.1
        have h2 := hw1 hbad.1
        have h3 : ((l.length - 1 : Nat) : Int) < l.length := by omega
        have h4 := hbad.1
        have h5 := hbad.2
        have e := hstop q (List.mem_of_getElem? h1) h5
        simp [go_sem, h1, h2, h3, h4, h5, e]
      · have hb : ∀ n ∈ l, n < (g.length : Int) := fun n hn => by
          have := hmax n hn
          have h6 : 0 < l.length := List.length_pos_of_mem hn
          have : ¬ (g.length : Int) ≤ q := fun h => hbad ⟨h6, h⟩
          omega
        rw [hgo hb]
        rcases hcase with h0 | h0
        case' inl =>
          have h0' : ¬ 0 < l.length := by omega
          simp [go_sem, h0']
        case' inr =>
          have h1 := hlast h0
          have h2 := hw1 h0
          have h3 : ((l.length - 1 : Nat) : Int) < l.length := by omega
          have h5 : ¬ (g.length : Int) ≤ q := fun h => hbad ⟨h0, h⟩
          simp [go_sem, h1, h2, h3, h0, h5]
        all_goals
          refine LoopW.of (fun n : Nat => ⟨56, [(0, .sv (things g)), (1, .sv (ints l)), (4, .nil), (5, .own 5), (6, .sv (iv n))], [(5, .row 1 ((rangeF (wholeP g l) n).map iv))]⟩)
            (fun n => n ≤ g.length) (fun n => g.length - n) 0 (by omega) (Ent.thaw 5 5 1 (by simp [go_sem]) (by simp [go_sem]) (by decide) (Ent.chk (by simp [go_sem, e0]))) ?_
          rintro n hn
          by_cases hlt : n < g.length
          · have hlt' : (n : Int) < g.length := by omega
            have hw : IntKind.i64.wrap ((n : Int) + 1) = (n : Int) + 1 := by rw [i64w] <;> omega
            have hsu := rangeF_succ (wholeP g l) n
            have hrl := rangeF_len (wholeP g l) n
            simp [go_sem, hlt']
            refine LoopW.of (fun i : Nat => ⟨56, [(0, .sv (things g)), (1, .sv (ints l)), (4, .nil), (5, .own 5), (6, .sv (iv n)), (7, .sv (iv i))], [(5, .row 1 ((rangeF (wholeP g l) n).map iv))]⟩)
              (fun i => i ≤ l.length ∧ wholeP g (l.take i) n = false) (fun i => l.length - i) 0 ⟨by omega, rfl⟩ (Ent.chk (by simp [go_sem])) ?_
            rintro i ⟨hi, hf⟩
            by_cases hil : i < l.length
            · have hil' : (i : Int) < l.length := by omega
              have hx : l[i]? = some l[i] := List.getElem?_eq_getElem hil
              have htk : l.take (i + 1) = l.take i ++ [l[i]] := by rw [List.take_add_one, hx]; rfl
              have hm : l[i] ∈ l := List.getElem_mem hil
              have hnn := (isSet_mem hs _ hm).1
              have hb1 := hb _ hm
              have hwi : IntKind.i64.wrap ((i : Int) + 1) = (i : Int) + 1 := by rw [i64w] <;> omega
              generalize l[i] = v at hx htk hm hnn hb1
              obtain ⟨k, rfl⟩ : ∃ k : Nat, v = k := ⟨v.toNat, by omega⟩
              simp [go_sem, hil', hx]
              refine OpW.fn true (Over_c g n k hgr (by omega)) rfl rfl (by simp [go_sem]) (by rintro _ r rfl; simp [go_sem]) ?_
              rintro r rfl
              cases ho : inU g n k with
              | true =>
                have hp : wholeP g l n = true := by unfold wholeP; rw [List.any_eq_true]; exact ⟨(k : Int), hm, by simpa using ho⟩
                rw [hp, if_pos rfl] at hsu
                simp [go_sem]
                exact ⟨by omega, n + 1, by omega, by omega, Ent.rename2 54 5 (by simp [go_sem]) (Ent.chk (by simp [go_sem, hw, hsu]))⟩
              | false =>
                have hp : wholeP g (l.take (i + 1)) n = false := by
                  unfold wholeP at hf ⊢
                  rw [htk, List.any_append, hf]; simp [ho]
                simp [go_sem]
                exact ⟨i + 1, ⟨by omega, hp⟩, by omega, Ent.chk (by simp [go_sem, hwi])⟩
            · have hie : i = l.length := by omega
              subst hie
              rw [List.take_length] at hf
              rw [hf, if_neg (by simp)] at hsu
              simp [go_sem]
              exact ⟨n + 1, by omega, by omega, Ent.chk (by simp [go_sem, hw, hsu])⟩
          · have hne : n = g.length := by omega
            subst hne
            simp [go_sem]
end Go.Proofs.YtjpmldfmgogheaaDoor.Ab
