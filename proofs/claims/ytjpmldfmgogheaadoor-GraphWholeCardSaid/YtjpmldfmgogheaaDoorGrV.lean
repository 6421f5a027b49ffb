/- slices.Reverse; graph.Above, Node. -/
import Derived.Test.YtjpmldfmgogheaaDoorGrH
namespace Go.Proofs.YtjpmldfmgogheaaDoor.Ab
open Go.RowKit
set_option linter.unusedVariables false
set_option linter.unusedSimpArgs false

/-- A list of which the first and the last i are swapped. -/
def revd (xs : List Int) (i : Nat) : List Int := (List.range xs.length).map fun j => if j < i ∨ xs.length ≤ j + i then xs.getD (xs.length - 1 - j) 0 else xs.getD j 0
theorem revd_zero (xs : List Int) : revd xs 0 = xs := by
  refine List.ext_getElem (by simp [revd]) fun j h1 h2 => ?_
  have hj : j < xs.length := h2
  simp only [revd, List.getElem_map, List.getElem_range]
  rw [if_neg (by omega)]
  simp [hj]
theorem revd_all (xs : List Int) (i : Nat) (h : xs.length ≤ 2 * i + 1) : revd xs i = xs.reverse := by
  refine List.ext_getElem (by simp [revd]) fun j h1 h2 => ?_
  have hj : j < xs.length := by simpa using h2
  simp only [revd, List.getElem_map, List.getElem_range, List.getElem_reverse]
  have hk : xs.length - 1 - j < xs.length := by omega
  split
  · simp [hk]
  · have : xs.length - 1 - j = j := by omega
    simp only [this]
    simp [hj]
theorem revd_len (xs : List Int) (i : Nat) : (revd xs i).length = xs.length := by simp [revd]
theorem revd_get (xs : List Int) (i j : Nat) (h : j < xs.length) (h1 : i ≤ j) (h2 : j + i < xs.length) : (revd xs i)[j]? = some xs[j] := by
  simp [revd, h]; omega
theorem revd_step (xs : List Int) (i : Nat) (h : i < xs.length - 1 - i) (h1 : i < xs.length) (h2 : xs.length - 1 - i < xs.length) : ((revd xs i).set i xs[xs.length - 1 - i]).set (xs.length - 1 - i) xs[i] = revd xs (i + 1) := by
  refine List.ext_getElem (by simp [revd]) fun j h3 h4 => ?_
  have hj : j < xs.length := by simpa [revd] using h4
  have hk : xs.length - 1 - j < xs.length := by omega
  simp only [List.getElem_set, revd, List.getElem_map, List.getElem_range]
  by_cases c1 : xs.length - 1 - i = j
  · rw [if_pos c1, if_pos (by omega)]
    subst c1
    have : xs.length - 1 - (xs.length - 1 - i) = i := by omega
    simp [this, h1]
  · rw [if_neg c1]
    by_cases c2 : i = j
    · subst c2; simp [h2]
    · rw [if_neg c2]
      by_cases c3 : j < i ∨ xs.length ≤ j + i
      · rw [if_pos c3, if_pos (by omega)]
      · rw [if_neg c3, if_neg (by omega)]
theorem Reverse_c (xs : List Int) (hl : xs.length ≤ 140737488355328) : ACallsI Tryd.prog 37 [.own] (.row 1 (xs.map iv)) (fun r o => r = .many [] ∧ o = .row 1 (xs.reverse.map iv)) := by
  refine ACallsI.of_body (fun _ _ => Tryd.call37 _ _) Tryd.func37 rfl Tryd.ntmps37 (by simp) rfl ?_
  refine Tr.ex ?_
  simp [go_sem]
  have hw0 : IntKind.i64.wrap ((xs.length : Int) - 1) = (xs.length : Int) - 1 := by rw [i64w] <;> omega
  refine LoopW.of (fun i : Nat => ⟨28, [(0, .own 1000000), (2, .sv (iv i)), (3, .sv (iv ((xs.length : Int) - 1 - i)))], [(1000000, .row 1 ((revd xs i).map iv))]⟩) (fun i => i ≤ xs.length) (fun i => xs.length - i) 0 (by omega) (Ent.chk (by simp [go_sem, hw0, revd_zero])) ?_
  rintro i hi
  by_cases hlt : (i : Int) < (xs.length : Int) - 1 - i
  · have hw1 : IntKind.i64.wrap ((i : Int) + 1) = (i : Int) + 1 := by rw [i64w] <;> omega
    have hw2 : IntKind.i64.wrap ((xs.length : Int) - 1 - i - 1) = (xs.length : Int) - 1 - (i + 1) := by rw [i64w] <;> omega
    have hj : ((xs.length : Int) - 1 - i).toNat = xs.length - 1 - i := by omega
    have g1 := revd_get xs i i (by omega) (by omega) (by omega)
    have g2 := revd_get xs i (xs.length - 1 - i) (by omega) (by omega) (by omega)
    have g3 : (((revd xs i).map iv).set i (iv xs[xs.length - 1 - i]))[xs.length - 1 - i]? = some (iv xs[xs.length - 1 - i]) := by
      rw [List.getElem?_set_ne (by omega), List.getElem?_map, g2]; rfl
    simp only [iv] at g3
    have hs := congrArg (List.map iv) (revd_step xs i (by omega) (by omega) (by omega))
    have b1 : i < xs.length := by omega
    have b2 : (xs.length : Int) - 1 - i < xs.length := by omega
    have b3 : (0 : Int) ≤ (xs.length : Int) - 1 - i := by omega
    simp [go_sem, hlt]
    refine DrawW.rd rfl ?_
    simp [go_sem, hj, g1, g2, revd_len, b1, b2, b3, gE g1, gE g2, g3]
    simp only [List.map_set, iv] at hs
    rw [hs]
    exact ⟨by omega, by kernel_rfl, i + 1, by omega, by omega, Ent.chk (by simp [go_sem, hw1, hw2])⟩
  · simp [go_sem, hlt, revd_all xs i (by omega)]

/-- The way up from a thing. -/
def chainL (g : List Thing) (i : Nat) : List Int := (i : Int) :: (if h : 0 ≤ (th g i).up ∧ (th g i).up < i then chainL g (th g i).up.toNat else [])
  termination_by i
  decreasing_by omega
def aboveL (g : List Thing) (n : Int) : List Int := if thereB g n = true then (chainL g n.toNat).reverse else []
theorem chainL_len (g : List Thing) (i : Nat) : (chainL g i).length ≤ i + 1 := by
  induction i using Nat.strongRecOn with
  | _ i ih =>
    rw [chainL.eq_1]
    split
    · rename_i h; have := ih (th g i).up.toNat (by omega); simp only [List.length_cons]; omega
    · simp
theorem Above_c (g : List Thing) (n : Int) (hg : g.length ≤ 140737488355328) (ht : Things g) : ACalls Tryd.prog 13 [things g, iv n] (· = .one (.sv (ints (aboveL g n)))) := by
  refine ACalls.of_bodyS (fun _ _ => Tryd.call13 _ _) Tryd.func13 rfl Tryd.ntmps13 (by simp) ?_
  refine Tr.ex ?_
  simp [go_sem]
  refine OpW.fn true (there_c g n hg ht) rfl rfl (by simp [go_sem]) (by rintro _ r rfl; simp [go_sem]) ?_
  rintro r rfl
  unfold aboveL
  cases hth : thereB g n with
  | false => simp [go_sem]
  | true =>
    unfold thereB at hth
    simp only [Bool.and_eq_true, decide_eq_true_eq] at hth
    obtain ⟨⟨h0, h1⟩, hgr⟩ := hth
    have hlen := isGraph_len hgr
    simp [go_sem]
    let cur : Option Nat → Int := fun c => match c with | some i => (i : Int) | none => -1
    let rest : Option Nat → List Int := fun c => match c with | some i => chainL g i | none => []
    refine LoopW.of (fun s : List Int × Option Nat => ⟨24, [(0, .sv (things g)), (1, .sv (iv (cur s.2))), (4, .nil), (5, .own 5)], [(5, .row 1 (s.1.map iv))]⟩)
      (fun s => s.1 ++ rest s.2 = chainL g n.toNat ∧ ∀ i, s.2 = some i → i < g.length) (fun s => match s.2 with | some i => i + 1 | none => 0) ([], some n.toNat) ⟨rfl, fun i hi => by cases hi; omega⟩ (Ent.thaw 5 5 1 (by simp [go_sem]) (by simp [go_sem]) (by decide) (Ent.chk (by simp [go_sem, cur]; omega))) ?_
    rintro ⟨acc, c⟩ ⟨hacc, hi⟩
    cases c with
    | none =>
      simp only [rest, List.append_nil] at hacc
      subst hacc
      simp [go_sem, cur]
      have hcl := chainL_len g n.toNat
      refine OpW.callI 5 (Reverse_c (chainL g n.toNat) (by omega)) rfl (by simp [go_sem]) (by simp [go_sem]) (by simp [go_sem]) (by simp [go_sem]) ?_
      rintro r o ⟨rfl, rfl⟩
      simp [go_sem]
    | some i =>
      have hil := hi i rfl
      have hgi : g[i]? = some g[i] := List.getElem?_eq_getElem hil
      have hthi : th g i = g[i] := by unfold th; simp [hil]
      have hle := isGraph_le hgr hil
      have hge : ∀ j, j < g.length → -1 ≤ (th g j).up := fun j hj => by
        by_cases hj0 : 0 < j
        · have := (isGraph_up hgr hj0 hj).1; omega
        · have : j = 0 := by omega
          subst this; rw [(isGraph_root hgr).2]; omega
      have hgei := hge i hil
      have hcl := chainL_len g n.toNat
      have hlacc : acc.length ≤ n.toNat + 1 := by rw [← hacc] at hcl; simp at hcl; omega
      rw [hthi] at hle hgei
      simp [go_sem, cur, hgi, hil]
      refine ⟨by omega, ?_⟩
      simp only [rest] at hacc
      rw [chainL.eq_1, hthi] at hacc
      by_cases hu : 0 ≤ g[i].up
      · rw [dif_pos ⟨hu, hle⟩] at hacc
        refine ⟨acc ++ [(i : Int)], some g[i].up.toNat, ⟨by simpa [rest] using hacc, fun j hj => ?_⟩, ?_, Ent.rename2 20 5 (by simp [go_sem]) (Ent.chk ?_)⟩
        · cases hj; omega
        · simp; omega
        · simp [go_sem, cur]; omega
      · rw [dif_neg (fun h => hu h.1)] at hacc
        refine ⟨acc ++ [(i : Int)], none, ⟨by simpa [rest] using hacc, fun j hj => by cases hj⟩, ?_, Ent.rename2 20 5 (by simp [go_sem]) (Ent.chk ?_)⟩
        · simp
        · simp [go_sem, cur]; omega

/-- The node of a thing: of those above it the first one that is a node. -/
def nodeOf (g : List Thing) (n : Int) : Int := ((aboveL g n).find? fun k => (th g k.toNat).kind == 2).getD (-1)
theorem chainL_mem {g : List Thing} : ∀ {i : Nat} {k : Int}, k ∈ chainL g i → 0 ≤ k ∧ k ≤ i := by
  intro i
  induction i using Nat.strongRecOn with
  | _ i ih =>
    intro k hk
    rw [chainL.eq_1] at hk
    rcases List.mem_cons.1 hk with rfl | hk
    · omega
    · split at hk
      · rename_i h; have := ih (th g i).up.toNat (by omega) hk; omega
      · cases hk
theorem aboveL_mem {g : List Thing} {n k : Int} (h : k ∈ aboveL g n) : 0 ≤ k ∧ k ≤ n ∧ n < g.length := by
  unfold aboveL at h
  split at h
  · rename_i ht
    unfold thereB at ht
    simp only [Bool.and_eq_true, decide_eq_true_eq] at ht
    have := chainL_mem (List.mem_reverse.1 h)
    omega
  · cases h
theorem aboveL_len (g : List Thing) (n : Int) (hg : g.length ≤ 140737488355328) : (aboveL g n).length ≤ 140737488355329 := by
  unfold aboveL
  split
  · rename_i ht
    unfold thereB at ht
    simp only [Bool.and_eq_true, decide_eq_true_eq] at ht
    have := chainL_len g n.toNat
    simp; omega
  · simp
theorem Node_c (g : List Thing) (n : Int) (hg : g.length ≤ 140737488355328) (ht : Things g) : ACalls Tryd.prog 15 [things g, iv n] (· = .one (.sv (iv (nodeOf g n)))) := by
  refine ACalls.of_bodyS (fun _ _ => Tryd.call15 _ _) Tryd.func15 rfl Tryd.ntmps15 (by simp) ?_
  refine Tr.ex ?_
  simp [go_sem]
  refine OpW.fn false (Above_c g n hg ht) rfl rfl (by simp [go_sem]) (fun h => by cases h) ?_
  rintro r rfl
  have hal := aboveL_len g n hg
  have ham := fun k => aboveL_mem (g := g) (n := n) (k := k)
  unfold nodeOf
  generalize aboveL g n = l at hal ham
  simp [go_sem]
  refine LoopW.of (fun i : Nat => ⟨23, [(0, .sv (things g)), (4, .sv (iv 0)), (9, .sv (ints l)), (10, .sv (iv l.length)), (11, .sv (iv i))], []⟩)
    (fun i => i ≤ l.length ∧ (l.find? fun k => (th g k.toNat).kind == 2) = (l.drop i).find? fun k => (th g k.toNat).kind == 2) (fun i => l.length - i) 0 ⟨by omega, rfl⟩ (Ent.chk (by simp [go_sem])) ?_
  rintro i ⟨hi, hf⟩
  by_cases hlt : i < l.length
  · have hlt' : (i : Int) < l.length := by omega
    have hx : l[i]? = some l[i] := List.getElem?_eq_getElem hlt
    have hm := ham l[i] (List.getElem_mem hlt)
    have hkn : l[i].toNat < g.length := by omega
    have hgk : g[l[i].toNat]? = some g[l[i].toNat] := List.getElem?_eq_getElem hkn
    have hth : th g l[i].toNat = g[l[i].toNat] := by unfold th; simp [hkn]
    have hb : l[i] < g.length := by omega
    have hw : IntKind.i64.wrap ((i : Int) + 1) = (i : Int) + 1 := by rw [i64w] <;> omega
    rw [List.drop_eq_getElem_cons hlt, List.find?_cons, hth] at hf
    simp [go_sem, hlt, hlt', hx, hgk, hm.1, hb]
    cases hk : (g[l[i].toNat].kind == 2) with
    | true =>
      rw [hk] at hf
      simp [go_sem, hf]
    | false =>
      rw [hk] at hf
      simp [go_sem]
      exact ⟨i + 1, ⟨by omega, hf⟩, by omega, Ent.chk (by simp [go_sem, hw])⟩
  · have hil : i = l.length := by omega
    subst hil
    rw [List.drop_length, List.find?_nil] at hf
    rw [hf]
    simp [go_sem]
end Go.Proofs.YtjpmldfmgogheaaDoor.Ab
