/- ref09: Suits, Many, Find, Could; what is always so at first. -/
import Derived.Test.YtfcojlagmmgagaaDoorMaI
namespace Go.Proofs.YtfcojlagmmgagaaDoor.Ab
open Go.RowKit
set_option linter.unusedVariables false
set_option linter.unusedSimpArgs false

theorem rSuits_c (g : List Thing) (free : List Int) (s : Spec) (n : Int) (hg : g.length ≤ 140737488355328) (ht : Things g) (hf : free.length ≤ 140737488355328) (hs : s.tag.size ≤ 140737488351232) : ACalls Tryd.prog 19 [things g, ints free, specSV s, iv n] (· = .one (.sv (bv (suitsL g free s n)))) := by
  refine ACalls.of_bodyS (fun _ _ => Tryd.call19 _ _) Tryd.func19 rfl Tryd.ntmps19 (by simp) ?_
  refine Tr.ex ?_
  unfold suitsL
  simp [go_sem]
  refine OpW.fn true (rmay_c g free s hg ht hf hs) rfl rfl (by simp [go_sem]) (by rintro _ r rfl; simp [go_sem]) ?_
  rintro r rfl
  cases hm : mayB g free s with
  | false => simp [go_sem]
  | true =>
    unfold mayB at hm
    simp only [Bool.and_eq_true] at hm
    by_cases h0 : 0 ≤ n
    case neg =>
      have h0' : n < 0 := by omega
      simp [go_sem, h0, h0']
    have h0' : ¬ n < 0 := by omega
    by_cases h1 : n < g.length
    case neg =>
      have h1' : (g.length : Int) ≤ n := by omega
      simp [go_sem, h0, h0', h1, h1']
    have h1' : ¬ (g.length : Int) ≤ n := by omega
    obtain ⟨u, rfl⟩ : ∃ u : Nat, n = u := ⟨n.toNat, by omega⟩
    simp [go_sem, h0, h0', h1, h1']
    refine OpW.fn false (Gets_c g free s u hm.1.1 ht hm.1.2 hm.2 (by omega)) rfl rfl (by simp [go_sem]) (fun h => by cases h) ?_
    rintro r rfl
    simp [go_sem]
def rmanyTo (g : List Thing) (free : List Int) (s : Spec) (i : Nat) : Nat := if mayB g free s = true then manyTo g free s i else 0
theorem rmanyTo_succ (g : List Thing) (free : List Int) (s : Spec) (i : Nat) (hi : i < g.length) : rmanyTo g free s (i + 1) = if suitsL g free s i = true then rmanyTo g free s i + 1 else rmanyTo g free s i := by
  unfold rmanyTo suitsL
  have h1 : (0 : Int) ≤ i := by omega
  have h2 : (i : Int) < g.length := by omega
  cases mayB g free s with
  | false => simp
  | true => rw [if_pos rfl, if_pos rfl, manyTo_succ]; simp [h1, h2]
theorem rmanyTo_le (g : List Thing) (free : List Int) (s : Spec) (i : Nat) : rmanyTo g free s i ≤ i := by
  unfold rmanyTo; split
  · exact manyTo_le g free s i
  · omega
set_option maxHeartbeats 4000000 in
set_option maxRecDepth 100000 in
theorem rMany_c (g : List Thing) (free : List Int) (s : Spec) (hg : g.length ≤ 140737488355328) (ht : Things g) (hf : free.length ≤ 140737488355328) (hs : s.tag.size ≤ 140737488351232) : ACalls Tryd.prog 21 [things g, ints free, specSV s] (· = .one (.sv (iv (manyL g free s)))) := by
  refine ACalls.of_bodyS (fun _ _ => Tryd.call21 _ _) Tryd.func21 rfl Tryd.ntmps21 (by simp) ?_
  refine Tr.ex ?_
  have hend : manyL g free s = rmanyTo g free s (min g.length 256) := by
    unfold manyL rmanyTo
    cases hm : mayB g free s with
    | false => rfl
    | true =>
      have := isGraph_len (mayB_iff.1 hm).1
      rw [Nat.min_eq_left this.2]
  rw [hend]
  simp [go_sem]
  refine LoopW.of (fun i : Nat => ⟨27, [(0, .sv (things g)), (1, .sv (ints free)), (5, .box 5 0), (6, .sv (iv 0)), (7, .sv (iv (rmanyTo g free s i))), (8, .sv (iv i))], [(5, .box ((specCells s).map .sv))]⟩)
    (fun i => i ≤ min g.length 256) (fun i => min g.length 256 - i) 0 (by omega) (Ent.chk (by simp [go_sem, rmanyTo, manyTo])) ?_
  intro i hi
  by_cases hlt : i < min g.length 256
  · have hlt' : (i : Int) < g.length := by omega
    have hlt2 : (i : Int) < 256 := by omega
    have hw : IntKind.i64.wrap ((i : Int) + 1) = (i : Int) + 1 := by rw [i64w] <;> omega
    have hle := rmanyTo_le g free s i
    have hw2 : IntKind.i64.wrap ((rmanyTo g free s i : Int) + 1) = (rmanyTo g free s i : Int) + 1 := by rw [i64w] <;> omega
    have hsu := rmanyTo_succ g free s i (by omega)
    simp [go_sem, hlt', hlt2]
    refine OpW.fn true (rSuits_c g free s i hg ht hf hs) rfl rfl (by simp [go_sem]) (by rintro _ r rfl; simp [go_sem]) ?_
    rintro r rfl
    cases hh : suitsL g free s i with
    | true =>
      rw [hh, if_pos rfl] at hsu
      simp [go_sem]
      exact ⟨i + 1, by omega, by omega, Ent.chk (by simp [go_sem, hw, hw2, hsu])⟩
    | false =>
      rw [hh, if_neg (by simp)] at hsu
      simp [go_sem]
      exact ⟨i + 1, by omega, by omega, Ent.chk (by simp [go_sem, hw, hsu])⟩
  · have hil : i = min g.length 256 := by omega
    subst hil
    by_cases h1 : ((min g.length 256 : Nat) : Int) < g.length
    · have h2 : ¬ ((min g.length 256 : Nat) : Int) < 256 := by omega
      generalize min g.length 256 = m at *
      simp [go_sem, h1, h2]
    · generalize min g.length 256 = m at *
      simp [go_sem, h1]
def nTo (g : List Thing) (free : List Int) (s : Spec) (i : Nat) : Nat := (selTo g free s i).length
theorem nTo_left {g : List Thing} {free : List Int} {s : Spec} (i : Nat) : (nTo g free s i : Int) = s.nodes - leftTo g free s i := by unfold nTo leftTo; omega
set_option maxHeartbeats 4000000 in
set_option maxRecDepth 100000 in
theorem rFind_c (g : List Thing) (free : List Int) (s : Spec) (hg : g.length ≤ 140737488355328) (ht : Things g) (hf : free.length ≤ 140737488355328) (hs : s.tag.size ≤ 140737488351232) : ACalls Tryd.prog 16 [things g, ints free, specSV s] (· = .many [.sv (ints (findL g free s).1), .sv (bv (findL g free s).2)]) := by
  refine ACalls.of_bodyS (fun _ _ => Tryd.call16 _ _) Tryd.func16 rfl Tryd.ntmps16 (by simp) ?_
  refine Tr.ex ?_
  rw [findL_eq]
  simp [go_sem]
  refine OpW.fn true (rmay_c g free s hg ht hf hs) rfl rfl (by simp [go_sem]) (by rintro _ r rfl; simp [go_sem]) ?_
  rintro r rfl
  cases hm : mayB g free s with
  | false => simp [go_sem]
  | true =>
    have hm' := hm
    unfold mayB at hm
    simp only [Bool.and_eq_true] at hm
    have hgl := isGraph_len hm.1.1
    simp [go_sem]
    refine LoopW.of (fun i : Nat => ⟨49, [(0, .sv (things g)), (1, .sv (ints free)), (5, .box 5 0), (6, .nil), (7, .sv (bv false)), (8, .sv (ints (outTo g free s i))), (9, .sv (iv (nTo g free s i))), (10, .sv (iv i))], [(5, .box ((specCells s).map .sv))]⟩)
      (fun i => i ≤ g.length) (fun i => g.length - i) 0 (by omega) ?_ ?_
    · have e : outTo g free s 0 = [] := outTo_zero g free s
      have e2 : nTo g free s 0 = 0 := by unfold nTo selTo; simp
      rw [e, e2]
      refine Ent.trans (Ent.nilS (d := 8) (by simp [go_sem])) (Ent.chk (by simp [go_sem]))
    rintro i hi
    have hlr := leftTo_rng (g := g) (free := free) hm.2 i
    have hls := leftTo_succ (g := g) (free := free) hm.2 i
    have hos := outTo_left (g := g) (free := free) hm.2 i
    have hol := set_len (outTo_set g free s i)
    have hst := left_stay (g := g) (free := free) hm.2 hi
    have hni := nTo_left (g := g) (free := free) (s := s) i
    have hni1 := nTo_left (g := g) (free := free) (s := s) (i + 1)
    by_cases hlt : i < g.length
    · have hlt' : (i : Int) < g.length := by omega
      have hw : IntKind.i64.wrap ((i : Int) + 1) = (i : Int) + 1 := by rw [i64w] <;> omega
      by_cases hl0 : 0 < leftTo g free s i
      · have hl0' : (nTo g free s i : Int) < s.nodes := by omega
        have hsn := spec_nn hm.2
        have hw2 : IntKind.i64.wrap ((nTo g free s i : Int) + 1) = (nTo g free s i : Int) + 1 := by rw [i64w] <;> omega
        simp [go_sem, hlt', hl0']
        refine OpW.fn false (Gets_c g free s i hm.1.1 ht hm.1.2 hm.2 hlt) rfl rfl (by simp [go_sem]) (fun h => by cases h) ?_
        rintro r rfl
        cases hh : (hereL g free s i).2 with
        | true =>
          have hhl := here_len g free s i hgl.2
          rw [hh, if_pos ⟨rfl, hl0⟩] at hls hos
          have hn1 : nTo g free s (i + 1) = nTo g free s i + 1 := by omega
          simp [go_sem]
          refine OpW.fn false (Which0_c (outTo g free s i) (hereL g free s i).1 (by omega) (by omega)) rfl rfl (by simp [go_sem]) (fun h => by cases h) ?_
          rintro r rfl
          simp [go_sem]
          exact ⟨i + 1, by omega, by omega, Ent.chk (by simp [go_sem, hw, hw2, hn1, hos])⟩
        | false =>
          rw [hh, if_neg (by simp)] at hls hos
          have hn1 : nTo g free s (i + 1) = nTo g free s i := by omega
          simp [go_sem]
          exact ⟨i + 1, by omega, by omega, Ent.chk (by simp [go_sem, hw, hn1, hos])⟩
      · have hl0' : ¬ (nTo g free s i : Int) < s.nodes := by omega
        have hst2 := hst (by omega)
        rw [hst2.1, hst2.2, if_neg hl0]
        simp [go_sem, hlt', hl0']
    · have hil : i = g.length := by omega
      subst hil
      by_cases hl0 : 0 < leftTo g free s g.length
      · have hl0' : (nTo g free s g.length : Int) < s.nodes := by omega
        rw [if_pos hl0]
        simp [go_sem, hl0']
      · have hl0' : ¬ (nTo g free s g.length : Int) < s.nodes := by omega
        rw [if_neg hl0]
        simp [go_sem, hl0']
def allP (i : Nat) : Bool := true
theorem could_all {g : List Thing} {s : Spec} : (findL g (rangeF allP (min g.length 256)) s).2 = couldB g s := by
  unfold couldB
  cases hg : isGraph g with
  | true =>
    have hl := isGraph_len hg
    have e : rangeF allP (min g.length 256) = underL g 0 := by
      rw [underL_eq (thereB_iff.2 ⟨by omega, by omega, hg⟩), Nat.min_eq_left hl.2]
      exact rangeF_congr fun i hi => by rw [show (0 : Int).toNat = 0 from rfl, inU_root hg hi]; rfl
    rw [e]
  | false =>
    have h : ∀ l, mayB g l s = false := fun l => by unfold mayB; rw [hg]; rfl
    unfold findL; rw [h, h]; rfl
set_option maxHeartbeats 4000000 in
set_option maxRecDepth 100000 in
theorem rCould_c (g : List Thing) (s : Spec) (hg : g.length ≤ 140737488355328) (ht : Things g) (hs : s.tag.size ≤ 140737488351232) : ACalls Tryd.prog 23 [things g, specSV s] (· = .one (.sv (bv (couldB g s)))) := by
  refine ACalls.of_bodyS (fun _ _ => Tryd.call23 _ _) Tryd.func23 rfl Tryd.ntmps23 (by simp) ?_
  refine Tr.ex ?_
  rw [← could_all]
  have hrl := rangeF_len allP (min g.length 256)
  simp [go_sem]
  refine LoopW.of (fun i : Nat => ⟨31, [(0, .sv (things g)), (3, .box 3 0), (4, .sv (bv false)), (5, .own 5), (6, .sv (iv i))], [(3, .box ((specCells s).map .sv)), (5, .row 1 ((rangeF allP i).map iv))]⟩)
    (fun i => i ≤ min g.length 256) (fun i => min g.length 256 - i) 0 (by omega) (Ent.thaw 5 5 1 (by simp [go_sem]) (by simp [go_sem]) (by decide) (Ent.chk (by simp [go_sem, rangeF_zero]))) ?_
  intro i hi
  by_cases hlt : i < min g.length 256
  · have hlt' : (i : Int) < g.length := by omega
    have hlt2 : (i : Int) < 256 := by omega
    have hw : IntKind.i64.wrap ((i : Int) + 1) = (i : Int) + 1 := by rw [i64w] <;> omega
    have hsu := rangeF_succ allP i
    have hil := rangeF_len allP i
    rw [show allP i = true from rfl, if_pos rfl] at hsu
    simp [go_sem, hlt', hlt2]
    exact ⟨by omega, i + 1, by omega, by omega, Ent.rename2 22 5 (by simp [go_sem]) (Ent.chk (by simp [go_sem, hw, hsu]))⟩
  · have hil : i = min g.length 256 := by omega
    subst hil
    have hfz := rFind_c g (rangeF allP (min g.length 256)) s hg ht (by omega) hs
    by_cases h1 : ((min g.length 256 : Nat) : Int) < g.length
    case' pos =>
      have h2 : ¬ ((min g.length 256 : Nat) : Int) < 256 := by omega
      generalize min g.length 256 = m at *
      simp [go_sem, h1, h2]
    case' neg =>
      generalize min g.length 256 = m at *
      simp [go_sem, h1]
    all_goals
      refine OpW.frz 5 ?_
      simp [go_sem]
      refine OpW.fn false hfz rfl rfl (by simp [go_sem]) (fun h => by cases h) ?_
      rintro r rfl
      simp [go_sem]
def aw9 : List Thing := [⟨0, -1, ⟨#[]⟩⟩, ⟨2, 0, ⟨#[]⟩⟩, ⟨3, 1, ⟨#[]⟩⟩, ⟨3, 1, ⟨#[]⟩⟩, ⟨2, 0, ⟨#[]⟩⟩, ⟨3, 4, ⟨#[]⟩⟩]
theorem aw9_t : Things aw9 := by
  intro t ht
  simp only [aw9, List.mem_cons, List.not_mem_nil, or_false] at ht
  rcases ht with rfl | rfl | rfl | rfl | rfl | rfl <;> decide
def aw9s : Spec := ⟨2, 1, 0, ⟨#[]⟩, false, 1, 0⟩
def aw9u : Spec := ⟨1, 2, 0, ⟨#[]⟩, false, 1, 0⟩
theorem aw9_1 : underL aw9 0 = [0, 1, 2, 3, 4, 5] := by kernel_rfl
theorem aw9_2 : findL aw9 [0, 1, 2, 3, 4, 5] aw9s = ([2, 5], true) := by kernel_rfl
theorem aw9_3 : couldB aw9 aw9u = true := by kernel_rfl
theorem aw9_4 : manyL aw9 [0, 1, 2, 3, 4, 5] aw9u = 1 := by kernel_rfl
theorem things_len {y : List Thing} (h : y.length * 32 ≤ 140737488351232 ∧ y.length ≤ maxLen ∧ ∀ x ∈ y, ThingOk x) : y.length ≤ 140737488355328 := by have := h.1; omega
theorem things_ok {y : List Thing} (h : ∀ x ∈ y, ThingOk x) : Things y := fun t ht => by have := (h t ht).2.2; omega
end Go.Proofs.YtfcojlagmmgagaaDoor.Ab
