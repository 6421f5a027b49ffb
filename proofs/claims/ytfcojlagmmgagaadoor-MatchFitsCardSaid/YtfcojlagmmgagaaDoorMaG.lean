/- match: Find, Could. -/
import Derived.Test.YtfcojlagmmgagaaDoorMaF
namespace Go.Proofs.YtfcojlagmmgagaaDoor.Ab
open Go.RowKit
set_option linter.unusedVariables false
set_option linter.unusedSimpArgs false

def leftTo (g : List Thing) (free : List Int) (s : Spec) (i : Nat) : Int := s.nodes - (selTo g free s i).length
theorem leftTo_rng {g : List Thing} {free : List Int} {s : Spec} (hs : isSpec s = true) (i : Nat) : 0 ≤ leftTo g free s i ∧ leftTo g free s i ≤ 64 := by
  have h1 := spec_nn hs
  have h2 := selTo_le g free s i
  unfold leftTo; omega
theorem leftTo_succ {g : List Thing} {free : List Int} {s : Spec} (hs : isSpec s = true) (i : Nat) : leftTo g free s (i + 1) = if (hereL g free s i).2 = true ∧ 0 < leftTo g free s i then leftTo g free s i - 1 else leftTo g free s i := by
  have h1 := spec_nn hs
  unfold leftTo
  rw [selTo_succ]
  by_cases h : (hereL g free s i).2 = true ∧ (selTo g free s i).length < s.nodes.toNat
  · rw [if_pos h, if_pos ⟨h.1, by omega⟩]; simp; omega
  · rw [if_neg h, if_neg (fun h2 => h ⟨h2.1, by omega⟩)]
theorem outTo_left {g : List Thing} {free : List Int} {s : Spec} (hs : isSpec s = true) (i : Nat) : outTo g free s (i + 1) = if (hereL g free s i).2 = true ∧ 0 < leftTo g free s i then joinL (outTo g free s i) (hereL g free s i).1 else outTo g free s i := by
  have h1 := spec_nn hs
  rw [outTo_succ]
  unfold leftTo
  by_cases h : (hereL g free s i).2 = true ∧ (selTo g free s i).length < s.nodes.toNat
  · rw [if_pos h, if_pos ⟨h.1, by omega⟩]
  · rw [if_neg h, if_neg (fun h2 => h ⟨h2.1, by omega⟩)]
theorem left_stay {g : List Thing} {free : List Int} {s : Spec} (hs : isSpec s = true) {i n : Nat} (hi : i ≤ n) (h : leftTo g free s i ≤ 0) : leftTo g free s n = leftTo g free s i ∧ outTo g free s n = outTo g free s i := by
  have h1 := spec_nn hs
  have h2 := selTo_le g free s i
  obtain ⟨k, rfl⟩ := Nat.exists_eq_add_of_le hi
  unfold leftTo at h ⊢
  unfold outTo
  rw [selTo_stay (by omega) k]
  exact ⟨rfl, rfl⟩
theorem findL_eq {g : List Thing} {free : List Int} {s : Spec} : findL g free s = if mayB g free s = true then (if 0 < leftTo g free s g.length then ([], false) else (outTo g free s g.length, true)) else ([], false) := by
  unfold findL leftTo
  by_cases h : ((selTo g free s g.length).length : Int) < s.nodes
  · rw [if_pos h, if_pos (by omega : 0 < s.nodes - ((selTo g free s g.length).length : Int))]
  · rw [if_neg h, if_neg (by omega : ¬ 0 < s.nodes - ((selTo g free s g.length).length : Int))]
theorem here_len (g : List Thing) (free : List Int) (s : Spec) (u : Nat) (hg : g.length ≤ 256) : (hereL g free s u).1.length ≤ 257 := by
  cases h : (hereL g free s u).2 with
  | false => rw [here_no h]; simp
  | true =>
    cases hw : s.whole with
    | true => rw [here_whole h hw]; have := kidsL_len g u; simp; omega
    | false => rw [here_part h hw]; have := set_len (joinL_set (coresL g free s u) (gpusL g free s u)); omega
set_option maxHeartbeats 4000000 in
set_option maxRecDepth 100000 in
theorem Find_c (g : List Thing) (free : List Int) (s : Spec) (hg : g.length ≤ 140737488355328) (ht : Things g) (hf : free.length ≤ 140737488355328) (hs : s.tag.size ≤ 140737488351232) : ACalls Tryd.prog 15 [things g, ints free, specSV s] (· = .many [.sv (ints (findL g free s).1), .sv (bv (findL g free s).2)]) := by
  refine ACalls.of_bodyS (fun _ _ => Tryd.call15 _ _) Tryd.func15 rfl Tryd.ntmps15 (by simp) ?_
  refine Tr.ex ?_
  rw [findL_eq]
  simp [go_sem]
  refine OpW.fn true (may_c g free s hg ht hf hs) rfl rfl (by simp [go_sem]) (by rintro _ r rfl; simp [go_sem]) ?_
  rintro r rfl
  cases hm : mayB g free s with
  | false => simp [go_sem]
  | true =>
    have hm' := hm
    unfold mayB at hm
    simp only [Bool.and_eq_true] at hm
    have hgl := isGraph_len hm.1.1
    simp [go_sem]
    refine OpW.fn false (seek_c g free s hm.1.1 ht hm.1.2 hf) rfl rfl (by simp [go_sem]) (fun h => by cases h) ?_
    rintro r rfl
    simp [go_sem]
    refine LoopW.of (fun i : Nat => ⟨50, [(0, .sv (things g)), (6, .nil), (7, .sv (bv false)), (8, .sv (seekSV g free s)), (9, .sv (ints (outTo g free s i))), (10, .sv (iv (leftTo g free s i))), (11, .sv (iv i))], []⟩)
      (fun i => i ≤ g.length) (fun i => g.length - i) 0 (by omega) ?_ ?_
    · have e : outTo g free s 0 = [] := outTo_zero g free s
      have e2 : leftTo g free s 0 = s.nodes := by unfold leftTo selTo; simp
      rw [e, e2]
      refine Ent.trans (Ent.nilS (d := 9) (by simp [go_sem])) (Ent.chk (by simp [go_sem]))
    rintro i hi
    have hlr := leftTo_rng (g := g) (free := free) hm.2 i
    have hls := leftTo_succ (g := g) (free := free) hm.2 i
    have hos := outTo_left (g := g) (free := free) hm.2 i
    have hol := set_len (outTo_set g free s i)
    have hst := left_stay (g := g) (free := free) hm.2 hi
    by_cases hlt : i < g.length
    · have hlt' : (i : Int) < g.length := by omega
      have hw : IntKind.i64.wrap ((i : Int) + 1) = (i : Int) + 1 := by rw [i64w] <;> omega
      by_cases hl0 : 0 < leftTo g free s i
      · have hw2 : IntKind.i64.wrap (leftTo g free s i - 1) = leftTo g free s i - 1 := by rw [i64w] <;> omega
        simp [go_sem, hlt', hl0]
        refine OpW.fn false (here_c g free s i hm.1.1 hlt hm.2) rfl rfl (by simp [go_sem]) (fun h => by cases h) ?_
        rintro r rfl
        cases hh : (hereL g free s i).2 with
        | true =>
          have hhl := here_len g free s i hgl.2
          rw [hh, if_pos ⟨rfl, hl0⟩] at hls hos
          simp [go_sem]
          refine OpW.fn false (Join_c (outTo g free s i) (hereL g free s i).1 (by omega) (by omega)) rfl rfl (by simp [go_sem]) (fun h => by cases h) ?_
          rintro r rfl
          simp [go_sem]
          exact ⟨i + 1, by omega, by omega, Ent.chk (by simp [go_sem, hw, hw2, hls, hos])⟩
        | false =>
          rw [hh, if_neg (by simp)] at hls hos
          simp [go_sem]
          exact ⟨i + 1, by omega, by omega, Ent.chk (by simp [go_sem, hw, hls, hos])⟩
      · have hst2 := hst (by omega)
        rw [hst2.1, hst2.2, if_neg hl0]
        simp [go_sem, hlt', hl0]
    · have hil : i = g.length := by omega
      subst hil
      by_cases hl0 : 0 < leftTo g free s g.length
      · rw [if_pos hl0]
        simp [go_sem, hl0]
      · rw [if_neg hl0]
        simp [go_sem, hl0]
def couldB (g : List Thing) (s : Spec) : Bool := (findL g (underL g 0) s).2
theorem Could_c (g : List Thing) (s : Spec) (hg : g.length ≤ 140737488355328) (ht : Things g) (hs : s.tag.size ≤ 140737488351232) : ACalls Tryd.prog 22 [things g, specSV s] (· = .one (.sv (bv (couldB g s)))) := by
  refine ACalls.of_bodyS (fun _ _ => Tryd.call22 _ _) Tryd.func22 rfl Tryd.ntmps22 (by simp) ?_
  refine Tr.ex ?_
  have hu := set_len (underL_set g 0)
  unfold couldB
  simp [go_sem]
  refine DrawW.rd rfl ?_
  simp [go_sem]
  refine OpD.call false (Under_c g 0 hg ht) rfl rfl (by simp [go_sem]) (fun h => by cases h) (by simp [go_sem]) (by simp [go_sem]) ?_
  simp [go_sem]
  refine OpD.call false (Find_c g (underL g 0) s hg ht (by omega) hs) rfl rfl (by simp [go_sem]) (fun h => by cases h) (by simp [go_sem]) (by simp [go_sem]) ?_
  simp [go_sem]
  show _ = true
  kernel_rfl
end Go.Proofs.YtfcojlagmmgagaaDoor.Ab
