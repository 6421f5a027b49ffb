/- health: worst, Worst, below, Usable, Works. -/
import Derived.Test.YtjpmldfmgogheaaDoorGrX
namespace Go.Proofs.YtjpmldfmgogheaaDoor.Ab
open Go.RowKit
set_option linter.unusedVariables false
set_option linter.unusedSimpArgs false

/-- How bad a thing is: the worst of all that are above it. -/
def worstAt (g : List Thing) (h : List Int) (i : Nat) : Int :=
  if hh : 0 ≤ (th g i).up ∧ (th g i).up < i then (if h.getD i 0 < worstAt g h (th g i).up.toNat then worstAt g h (th g i).up.toNat else h.getD i 0) else h.getD i 0
  termination_by i
  decreasing_by all_goals omega
def worstTo (g : List Thing) (h : List Int) (i : Nat) : List Int := (List.range h.length).map fun j => if j < i then worstAt g h j else h.getD j 0
theorem worstTo_zero (g : List Thing) (h : List Int) : worstTo g h 0 = h := by
  refine List.ext_getElem (by simp [worstTo]) fun j h1 h2 => ?_
  simp [worstTo, h2]
theorem worstTo_len (g : List Thing) (h : List Int) (i : Nat) : (worstTo g h i).length = h.length := by simp [worstTo]
theorem worstTo_get (g : List Thing) (h : List Int) (i j : Nat) (hj : j < h.length) : (worstTo g h i)[j]? = some (if j < i then worstAt g h j else h.getD j 0) := by
  unfold worstTo; simp [hj]
theorem worstTo_set (g : List Thing) (h : List Int) (i : Nat) (hi : i < h.length) (v : Int) (hv : v = worstAt g h i) : (worstTo g h i).set i v = worstTo g h (i + 1) := by
  subst hv
  refine List.ext_getElem (by simp [worstTo]) fun j h1 h2 => ?_
  simp only [List.getElem_set, worstTo, List.getElem_map, List.getElem_range]
  by_cases hj : i = j
  · subst hj; simp
  · have : (j < i + 1) ↔ j < i := by omega
    simp [hj, this]
theorem worstTo_same (g : List Thing) (h : List Int) (i : Nat) (hi : i < h.length) (hv : worstAt g h i = h.getD i 0) : worstTo g h i = worstTo g h (i + 1) := by
  rw [← worstTo_set g h i hi _ rfl, hv]
  refine List.ext_getElem (by simp [worstTo]) fun j h1 h2 => ?_
  simp only [List.getElem_set, worstTo, List.getElem_map, List.getElem_range]
  by_cases hj : i = j
  · subst hj; simp
  · simp [hj]
def worstL (g : List Thing) (h : List Int) : List Int := (List.range g.length).map (worstAt g h)
theorem isHealth_spec {g : List Thing} {h : List Int} (hh : isHealth g h = true) : isGraph g = true ∧ h.length = g.length ∧ ∀ n ∈ h, 0 ≤ n ∧ n ≤ 2 := by
  unfold isHealth at hh
  simp only [Bool.and_eq_true, decide_eq_true_eq, List.all_eq_true] at hh
  exact ⟨hh.1.1, hh.1.2, hh.2⟩
theorem worst_c (g : List Thing) (h : List Int) (hh : isHealth g h = true) : ACalls Tryd.prog 60 [things g, ints h] (· = .one (.sv (ints (worstL g h)))) := by
  obtain ⟨hgr, hlen, hr⟩ := isHealth_spec hh
  have hgl := isGraph_len hgr
  refine ACalls.of_bodyS (fun _ _ => Tryd.call60 _ _) Tryd.func60 rfl Tryd.ntmps60 (by simp) ?_
  refine Tr.ex ?_
  simp [go_sem]
  refine OpW.fn false (Clone_c h (by omega)) rfl rfl (by simp [go_sem]) (fun h => by cases h) ?_
  rintro r hr'
  have hr' : r = .one (.own 1 (h.map iv)) := by
    rcases hr' with ⟨rfl, _⟩ | hr'
    · simp at hlen; omega
    · exact hr'
  subst hr'
  simp [go_sem]
  have hfit : ∀ a : Thing, a ∈ g → SV.fits 3 (thingSV a) = true := fun a _ => rfl
  refine LoopW.of (fun i : Nat => ⟨35, [(4, .nil), (5, .own 5), (10, .sv (things g)), (11, .sv (iv g.length)), (12, .sv (iv i))], [(5, .row 1 ((worstTo g h i).map iv))]⟩)
    (fun i => i ≤ g.length) (fun i => g.length - i) 0 (by omega) (Ent.rename2 9 5 (by simp [go_sem]) (Ent.chk (by simp [go_sem, worstTo_zero]))) ?_
  rintro i hi
  by_cases hlt : i < g.length
  · have hlt' : (i : Int) < g.length := by omega
    have hih : i < h.length := by omega
    have hgi : g[i]? = some g[i] := List.getElem?_eq_getElem hlt
    have hthi : th g i = g[i] := by unfold th; simp [hlt]
    have hw : IntKind.i64.wrap ((i : Int) + 1) = (i : Int) + 1 := by rw [i64w] <;> omega
    have hle := isGraph_le hgr hlt
    have hwa := worstAt.eq_1 g h i
    have hgd : h.getD i 0 = h[i] := by simp [hih]
    rw [hthi] at hle hwa
    rw [hgd] at hwa
    have g1 := worstTo_get g h i i hih
    rw [if_neg (by omega), hgd] at g1
    simp [go_sem, hlt, hlt', hgi]
    by_cases hu : 0 ≤ g[i].up
    · rw [dif_pos ⟨hu, hle⟩] at hwa
      have hun : g[i].up.toNat < h.length := by omega
      have hul : g[i].up < h.length := by omega
      have g2 := worstTo_get g h i g[i].up.toNat hun
      rw [if_pos (by omega)] at g2
      have hs := congrArg (List.map iv) (worstTo_set g h i hih _ hwa.symm)
      simp only [List.map_set, iv] at hs
      simp [go_sem, hu]
      refine DrawW.rd rfl ?_
      simp [go_sem, g1, g2, worstTo_len, hih, hun, hul, hu, gE g1, gE g2, hs]
      exact ⟨by kernel_rfl, i + 1, by omega, by omega, Ent.chk (by simp [go_sem, hw])⟩
    · rw [dif_neg (fun h => hu h.1)] at hwa
      have hs := worstTo_same g h i hih (hwa.trans hgd.symm)
      simp [go_sem, hu]
      exact ⟨i + 1, by omega, by omega, Ent.chk (by simp [go_sem, hw, hs])⟩
  · have hil : i = g.length := by omega
    subst hil
    have : worstTo g h g.length = worstL g h := by
      unfold worstTo worstL
      rw [hlen]
      refine List.map_congr_left fun j hj => ?_
      rw [if_pos (List.mem_range.1 hj)]
    simp [go_sem, this]
def WorstV (g : List Thing) (h : List Int) (n : Int) : Int := if isHealth g h = true ∧ 0 ≤ n ∧ n < h.length then worstAt g h n.toNat else 2
theorem Worst_c (g : List Thing) (h : List Int) (n : Int) (hg : g.length ≤ 140737488355328) (ht : Things g) (hl : h.length ≤ 140737488355328) : ACalls Tryd.prog 50 [things g, ints h, iv n] (· = .one (.sv (iv (WorstV g h n)))) := by
  refine ACalls.of_bodyS (fun _ _ => Tryd.call50 _ _) Tryd.func50 rfl Tryd.ntmps50 (by simp) ?_
  refine Tr.ex ?_
  simp [go_sem]
  refine OpW.fn true (hRight_c g h hg ht hl) rfl rfl (by simp [go_sem]) (by rintro _ r rfl; simp [go_sem]) ?_
  rintro r rfl
  unfold WorstV
  cases hh : isHealth g h with
  | false => simp [go_sem]
  | true =>
    obtain ⟨hgr, hlen, hr⟩ := isHealth_spec hh
    by_cases h0 : n < 0
    · have : ¬ 0 ≤ n := by omega
      simp [go_sem, h0, this]
    · have h0' : 0 ≤ n := by omega
      by_cases h1 : n < h.length
      · have h1' : ¬ (h.length : Int) ≤ n := by omega
        simp [go_sem, h0, h0', h1, h1']
        refine OpW.fn false (worst_c g h hh) rfl rfl (by simp [go_sem]) (fun h => by cases h) ?_
        rintro r rfl
        have hn : n.toNat < g.length := by omega
        have hn' : n < g.length := by omega
        simp [go_sem, h0', worstL, hn, hn']
      · have h1' : (h.length : Int) ≤ n := by omega
        simp [go_sem, h0, h0', h1, h1']
def belowTo (g : List Thing) (h : List Int) (most : Int) (i : Nat) : List Int := ((List.range i).filter fun j => decide (worstAt g h j ≤ most)).map Int.ofNat
theorem belowTo_succ (g : List Thing) (h : List Int) (most : Int) (i : Nat) : belowTo g h most (i + 1) = if worstAt g h i ≤ most then belowTo g h most i ++ [(i : Int)] else belowTo g h most i := by
  unfold belowTo
  rw [List.range_succ, List.filter_append, List.map_append]
  split
  · rename_i h; simp [h]
  · rename_i h; simp [h]
theorem belowTo_len (g : List Thing) (h : List Int) (most : Int) (i : Nat) : (belowTo g h most i).length ≤ i := by
  unfold belowTo
  rw [List.length_map]; exact Nat.le_trans (List.length_filter_le _ _) (by simp)
def belowL (g : List Thing) (h : List Int) (most : Int) : List Int := if isHealth g h = true then belowTo g h most g.length else []
theorem below_c (g : List Thing) (h : List Int) (most : Int) (hg : g.length ≤ 140737488355328) (ht : Things g) (hl : h.length ≤ 140737488355328) : ACalls Tryd.prog 54 [things g, ints h, iv most] (· = .one (.sv (ints (belowL g h most)))) := by
  refine ACalls.of_bodyS (fun _ _ => Tryd.call54 _ _) Tryd.func54 rfl Tryd.ntmps54 (by simp) ?_
  refine Tr.ex ?_
  simp [go_sem]
  refine OpW.fn true (hRight_c g h hg ht hl) rfl rfl (by simp [go_sem]) (by rintro _ r rfl; simp [go_sem]) ?_
  rintro r rfl
  unfold belowL
  cases hh : isHealth g h with
  | false => simp [go_sem]
  | true =>
    obtain ⟨hgr, hlen, hr⟩ := isHealth_spec hh
    have hgl := isGraph_len hgr
    simp [go_sem]
    refine OpW.fn false (worst_c g h hh) rfl rfl (by simp [go_sem]) (fun h => by cases h) ?_
    rintro r rfl
    simp [go_sem]
    have hwl : (worstL g h).length = g.length := by simp [worstL]
    refine LoopW.of (fun i : Nat => ⟨32, [(2, .sv (iv most)), (6, .nil), (7, .own 7), (16, .sv (ints (worstL g h))), (17, .sv (iv g.length)), (18, .sv (iv i))], [(7, .row 1 ((belowTo g h most i).map iv))]⟩)
      (fun i => i ≤ g.length) (fun i => g.length - i) 0 (by omega) (Ent.thaw 7 7 1 (by simp [go_sem]) (by simp [go_sem]) (by decide) (Ent.chk (by simp [go_sem, belowTo, hwl]))) ?_
    rintro i hi
    by_cases hlt : i < g.length
    · have hlt' : (i : Int) < g.length := by omega
      have hx : (worstL g h)[i]? = some (worstAt g h i) := by simp [worstL, hlt]
      have hw : IntKind.i64.wrap ((i : Int) + 1) = (i : Int) + 1 := by rw [i64w] <;> omega
      have hs := belowTo_succ g h most i
      have hbl := belowTo_len g h most i
      simp [go_sem, hlt', hx, hwl, hlt, gE hx]
      by_cases hm : worstAt g h i ≤ most
      · rw [if_pos hm] at hs
        simp [go_sem, hm]
        exact ⟨by omega, i + 1, by omega, by omega, Ent.rename2 29 7 (by simp [go_sem]) (Ent.chk (by simp [go_sem, hw, hs]))⟩
      · rw [if_neg hm] at hs
        simp [go_sem, hm]
        exact ⟨i + 1, by omega, by omega, Ent.chk (by simp [go_sem, hw, hs])⟩
    · have hil : i = g.length := by omega
      subst hil
      simp [go_sem]
theorem Usable_c (g : List Thing) (h : List Int) (hg : g.length ≤ 140737488355328) (ht : Things g) (hl : h.length ≤ 140737488355328) : ACalls Tryd.prog 31 [things g, ints h] (· = .one (.sv (ints (belowL g h 0)))) := by
  refine ACalls.of_bodyS (fun _ _ => Tryd.call31 _ _) Tryd.func31 rfl Tryd.ntmps31 (by simp) ?_
  refine Tr.ex ?_
  simp [go_sem]
  refine OpW.fn false (below_c g h 0 hg ht hl) rfl rfl (by simp [go_sem]) (fun h => by cases h) ?_
  rintro r rfl
  simp [go_sem]
theorem Works_c (g : List Thing) (h : List Int) (hg : g.length ≤ 140737488355328) (ht : Things g) (hl : h.length ≤ 140737488355328) : ACalls Tryd.prog 33 [things g, ints h] (· = .one (.sv (ints (belowL g h 1)))) := by
  refine ACalls.of_bodyS (fun _ _ => Tryd.call33 _ _) Tryd.func33 rfl Tryd.ntmps33 (by simp) ?_
  refine Tr.ex ?_
  simp [go_sem]
  refine OpW.fn false (below_c g h 1 hg ht hl) rfl rfl (by simp [go_sem]) (fun h => by cases h) ?_
  rintro r rfl
  simp [go_sem]
end Go.Proofs.YtjpmldfmgogheaaDoor.Ab
