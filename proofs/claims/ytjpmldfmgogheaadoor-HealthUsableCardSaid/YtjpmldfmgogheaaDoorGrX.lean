/- slices.Clone, ContainsFunc; health. -/
import Derived.Test.YtjpmldfmgogheaaDoorGrW
import Derived.Test.YtjpmldfmgogheaaDoorGrE
import Derived.Test.YtjpmldfmgogheaaDoorAbT
namespace Go.Proofs.YtjpmldfmgogheaaDoor.Ab
open Go.RowKit
set_option linter.unusedVariables false
set_option linter.unusedSimpArgs false

theorem Clone_c (l : List Int) (hl : l.length ≤ 140737488355) : ACalls Tryd.prog 53 [ints l] (fun r => (l = [] ∧ r = .one .nil) ∨ r = .one (.own 1 (l.map iv))) := by
  refine ACalls.of_body (fun _ _ => Tryd.call53 _ _) Tryd.func53 rfl Tryd.ntmps53 (by simp) ?_
  refine Tr.ex ?_
  simp [go_sem]
  refine OpW.isnil (by decide) rfl rfl (by simp [go_sem]; rfl) (by simp [go_sem]; rfl) (by simp [go_sem]; rfl) (by simp [go_sem]) ?_
  rintro b hnil
  cases b with
  | true =>
    have hnil : l = [] := by simpa using hnil
    simp [go_sem, hnil]
  | false =>
    simp [go_sem]
    omega

def idxOf (p : Int → Bool) (l : List Int) : Int := if l.any p = true then (l.findIdx p : Nat) else -1
theorem idxOf_ge (p : Int → Bool) (l : List Int) : decide (0 ≤ idxOf p l) = l.any p := by
  unfold idxOf
  cases l.any p <;> simp
theorem IndexFunc_i (l : List Int) (f : FuncId) (caps : List SV) (p : Int → Bool) (hl : l.length ≤ 140737488355328) (hp : ∀ n ∈ l, ACalls Tryd.prog f ([iv n] ++ caps) (· = .one (.sv (bv (p n))))) : ACalls Tryd.prog 61 [ints l, .fn f caps] (· = .one (.sv (iv (idxOf p l)))) := by
  refine ACalls.of_bodyS (fun _ _ => Tryd.call61 _ _) Tryd.func61 rfl Tryd.ntmps61 (by simp) ?_
  refine Tr.ex ?_
  simp [go_sem]
  refine LoopW.of (fun i : Nat => ⟨19, [(0, .sv (ints l)), (1, .sv (.fn f caps)), (4, .sv (iv 0)), (7, .sv (iv l.length)), (8, .sv (iv i))], []⟩)
    (fun i => i ≤ l.length ∧ ∀ j (h : j < l.length), j < i → p l[j] = false) (fun i => l.length - i) 0 ⟨by omega, fun j h hj => by omega⟩ (Ent.chk (by simp [go_sem])) ?_
  rintro i ⟨hi, hf⟩
  by_cases hlt : i < l.length
  · have hlt' : (i : Int) < l.length := by omega
    have hx : l[i]? = some l[i] := List.getElem?_eq_getElem hlt
    have hw : IntKind.i64.wrap ((i : Int) + 1) = (i : Int) + 1 := by rw [i64w] <;> omega
    have hc := hp l[i] (List.getElem_mem hlt)
    simp [go_sem, hlt, hlt', hx]
    refine OpW.call (g := f) (caps := caps) (ys := [iv l[i]]) true hc rfl rfl (by simp [go_sem]) (by simp [go_sem]) (by rintro _ r rfl; simp [go_sem]) ?_
    rintro r rfl
    cases hpi : p l[i] with
    | true =>
      have h1 : l.any p = true := List.any_eq_true.2 ⟨_, List.getElem_mem hlt, hpi⟩
      have h2 : l.findIdx p = i := (List.findIdx_eq hlt).2 ⟨hpi, fun j hj => by simpa using hf j (by omega) hj⟩
      have h3 : idxOf p l = i := by unfold idxOf; rw [if_pos h1, h2]
      simp [go_sem, h3]
    | false =>
      simp [go_sem]
      exact ⟨i + 1, ⟨by omega, fun j h hj => by
        by_cases hji : j = i
        · subst hji; exact hpi
        · exact hf j h (by omega)⟩, by omega, Ent.chk (by simp [go_sem, hw])⟩
  · have hil : i = l.length := by omega
    subst hil
    have h1 : l.any p = false := by
      rw [List.any_eq_false]
      intro x hx
      obtain ⟨j, hj, rfl⟩ := List.getElem_of_mem hx
      simp [hf j hj hj]
    have h3 : idxOf p l = -1 := by unfold idxOf; rw [h1]; rfl
    simp [go_sem, h3]
theorem ContainsFunc_i (l : List Int) (f : FuncId) (p : Int → Bool) (hl : l.length ≤ 140737488355328) (hp : ∀ n ∈ l, ACalls Tryd.prog f [iv n] (· = .one (.sv (bv (p n))))) : ACalls Tryd.prog 51 [ints l, .fn f []] (· = .one (.sv (bv (l.any p)))) := by
  refine ACalls.of_bodyS (fun _ _ => Tryd.call51 _ _) Tryd.func51 rfl Tryd.ntmps51 (by simp) ?_
  refine Tr.ex ?_
  simp [go_sem]
  refine OpW.fn true (IndexFunc_i l f [] p hl (by simpa using hp)) rfl rfl (by simp [go_sem]) (by rintro _ r rfl; simp [go_sem]) ?_
  rintro r rfl
  simp [go_sem, idxOf_ge]
theorem right1_c (n : Int) : ACalls Tryd.prog 52 [iv n] (· = .one (.sv (bv (!(decide (0 ≤ n) && decide (n ≤ 2)))))) := by
  refine ACalls.of_bodyS (fun _ _ => Tryd.call52 _ _) Tryd.func52 rfl Tryd.ntmps52 (by simp) ?_
  refine Tr.ex ?_
  by_cases h0 : n < 0
  · have h1 : ¬ 0 ≤ n := by omega
    simp [go_sem, h0, h1]
  · have h1 : 0 ≤ n := by omega
    by_cases h2 : 2 < n
    · have : ¬ n ≤ 2 := by omega
      simp [go_sem, h0, h1, h2, this]
    · have : n ≤ 2 := by omega
      simp [go_sem, h0, h1, h2, this]

/-- Is a list a graph's health? -/
def isHealth (g : List Thing) (h : List Int) : Bool := isGraph g && decide (h.length = g.length) && h.all fun n => decide (0 ≤ n) && decide (n ≤ 2)
theorem hRight_c (g : List Thing) (h : List Int) (hg : g.length ≤ 140737488355328) (ht : Things g) (hl : h.length ≤ 140737488355328) : ACalls Tryd.prog 29 [things g, ints h] (· = .one (.sv (bv (isHealth g h)))) := by
  refine ACalls.of_bodyS (fun _ _ => Tryd.call29 _ _) Tryd.func29 rfl Tryd.ntmps29 (by simp) ?_
  refine Tr.ex ?_
  simp [go_sem]
  refine OpW.fn true (gRight_c g hg ht) rfl rfl (by simp [go_sem]) (by rintro _ r rfl; simp [go_sem]) ?_
  rintro r rfl
  unfold isHealth
  cases hgr : isGraph g with
  | false => simp [go_sem]
  | true =>
    by_cases hlen : h.length = g.length
    · have e : ((h.length : Int) == g.length) = true := by simp [hlen]
      simp [go_sem, hlen, e]
      refine OpW.fn true (ContainsFunc_i h _ (fun n => !(decide (0 ≤ n) && decide (n ≤ 2))) hl (fun n _ => right1_c n)) rfl rfl (by simp [go_sem]) (by rintro _ r rfl; simp [go_sem]) ?_
      rintro r rfl
      have : (!(h.any fun n => !(decide (0 ≤ n) && decide (n ≤ 2)))) = h.all fun n => decide (0 ≤ n) && decide (n ≤ 2) := by rw [List.all_eq_not_any_not]
      simp [go_sem]
      rw [← this, Bool.not_not]
      simp
    · have e : ((h.length : Int) == g.length) = false := by simp; omega
      simp [go_sem, hlen, e]
theorem New_c (g : List Thing) (hg : g.length ≤ 140737488355328) (ht : Things g) : ACalls Tryd.prog 49 [things g] (· = .one (.sv (ints (if isGraph g = true then List.replicate g.length 0 else [])))) := by
  refine ACalls.of_bodyS (fun _ _ => Tryd.call49 _ _) Tryd.func49 rfl Tryd.ntmps49 (by simp) ?_
  refine Tr.ex ?_
  simp [go_sem]
  refine OpW.fn true (gRight_c g hg ht) rfl rfl (by simp [go_sem]) (by rintro _ r rfl; simp [go_sem]) ?_
  rintro r rfl
  cases hgr : isGraph g with
  | false => simp [go_sem]
  | true =>
    have := isGraph_len hgr
    simp [go_sem]
    omega
def setH (g : List Thing) (h : List Int) (n how : Int) : List Int × Int :=
  if isHealth g h = true ∧ 0 ≤ how ∧ how ≤ 2 then (if 0 ≤ n ∧ n < h.length then (h.set n.toNat how, 0) else (h, 6)) else (h, 1)
theorem hSet_c (g : List Thing) (h : List Int) (n how : Int) (hg : g.length ≤ 140737488355328) (ht : Things g) (hl : h.length ≤ 140737488355) : ACalls Tryd.prog 30 [things g, ints h, iv n, iv how] (· = .many [.sv (ints (setH g h n how).1), .sv (iv (setH g h n how).2)]) := by
  refine ACalls.of_bodyS (fun _ _ => Tryd.call30 _ _) Tryd.func30 rfl Tryd.ntmps30 (by simp) ?_
  refine Tr.ex ?_
  simp [go_sem]
  refine OpW.fn false (Clone_c h hl) rfl rfl (by simp [go_sem]) (fun h => by cases h) ?_
  have hcore : ∀ r, (h = [] ∧ r = RV.one .nil) ∨ r = .one (.own 1 (h.map iv)) → isHealth g h = true → r = .one (.own 1 (h.map iv)) := fun r hr hh => by
    rcases hr with ⟨rfl, _⟩ | hr
    · unfold isHealth at hh
      simp only [Bool.and_eq_true, decide_eq_true_eq] at hh
      have := (isGraph_len hh.1.1).1
      have h2 := hh.1.2
      simp at h2; omega
    · exact hr
  intro r hr
  unfold setH
  cases hh : isHealth g h with
  | false =>
    rcases hr with ⟨rfl, rfl⟩ | rfl
    · simp [go_sem]
      refine OpW.fn true (hRight_c g [] hg ht (by simp)) rfl rfl (by simp [go_sem]) (by rintro _ r rfl; simp [go_sem]) ?_
      rintro r rfl
      rw [hh]
      simp [go_sem]
    · simp [go_sem]
      refine OpW.fn true (hRight_c g h hg ht (by omega)) rfl rfl (by simp [go_sem]) (by rintro _ r rfl; simp [go_sem]) ?_
      rintro r rfl
      rw [hh]
      simp [go_sem]
  | true =>
    have hr := hcore r hr hh
    subst hr
    simp [go_sem]
    refine OpW.fn true (hRight_c g h hg ht (by omega)) rfl rfl (by simp [go_sem]) (by rintro _ r rfl; simp [go_sem]) ?_
    rintro r rfl
    rw [hh]
    by_cases c1 : how < 0
    · have : ¬ 0 ≤ how := by omega
      simp [go_sem, c1, this]
    · have c1' : 0 ≤ how := by omega
      by_cases c2 : 2 < how
      · have : ¬ how ≤ 2 := by omega
        simp [go_sem, c1, c1', c2, this]
      · have c2' : how ≤ 2 := by omega
        by_cases c3 : n < 0
        · have : ¬ 0 ≤ n := by omega
          simp [go_sem, c1, c1', c2, c2', c3, this]
        · have c3' : 0 ≤ n := by omega
          by_cases c4 : n < h.length
          · have c5 : n.toNat < h.length := by omega
            have c6 : ¬ (h.length : Int) ≤ n := by omega
            simp [go_sem, c1, c1', c2, c2', c3, c3', c4, c5, c6]
          · have c6 : (h.length : Int) ≤ n := by omega
            simp [go_sem, c1, c1', c2, c2', c3, c3', c4, c6]
end Go.Proofs.YtjpmldfmgogheaaDoor.Ab
