/- Holdings, as values; when; may, clash. held.Right, the reference's; Touch. ref01.Touch; ref10.clash, Right. cmp.Compare, slices.BinarySearchFunc at []Held; held.find. copied, clone; Busy, Over; the reference's; One, Same, Times, Short. Ends; the reference's; Times, Short. ref10.Ends. A row that is taken in a region that draws: slices.Delete. Tables that are turned, in plain words. Add, Drop, Get, Cut; the reference's. ref10: At, Add, Drop, Cut, Lend. ref10: Drop, Cut, Lend; what is always so at first. held: what is always so at first. Tables in plain words: what is a right one; what is added, dropped, cut; what is busy. Tables in plain words: what the laws without the reference ask. -/
import Derived.Test.YtinhfnbmgmociaaGreatDoorHd1
import Derived.Test.YtinhfnbmgmociaaGreatDoorGr2
import Derived.Test.YtinhfnbmgmociaaGreatDoorGr1
import Derived.Test.YtinhfnbmgmociaaGreatDoorMa1
namespace Go.Proofs.YtinhfnbmgmociaaGreatDoor.Ab
open Go.RowKit
set_option linter.unusedVariables false
set_option linter.unusedSimpArgs false

structure Held where
  id : Int
  things : List Int
  fr : Int
  to : Int
  deriving Inhabited
def heldSV (h : Held) : SV := .agg [iv h.id, ints h.things, iv h.fr, iv h.to]
def helds (l : List Held) : SV := .lst (l.map heldSV)
attribute [go_sem] heldSV helds
def HeldOk (h : Held) : Prop := (Lit.int .i64 h.id).wf = true ∧ (h.things.length * 8 ≤ 140737488351232 ∧ h.things.length ≤ maxLen ∧ ∀ x ∈ h.things, (Lit.int .i64 x).wf = true) ∧ (Lit.int .i64 h.fr).wf = true ∧ (Lit.int .i64 h.to).wf = true
theorem HeldOk_mk {p : Int × List Int × Int × Int × Unit} (h : (Lit.int .i64 p.1).wf = true ∧ (p.2.1.length * 8 ≤ 140737488351232 ∧ p.2.1.length ≤ maxLen ∧ ∀ x ∈ p.2.1, (Lit.int .i64 x).wf = true) ∧ (Lit.int .i64 p.2.2.1).wf = true ∧ (Lit.int .i64 p.2.2.2.1).wf = true ∧ True) : HeldOk ⟨p.1, p.2.1, p.2.2.1, p.2.2.2.1⟩ := ⟨h.1, h.2.1, h.2.2.1, h.2.2.2.1⟩
def Helds (l : List Held) : Prop := ∀ h ∈ l, h.things.length ≤ 140737488355
def isWhen (t : Int) : Bool := decide (0 ≤ t) && decide (t ≤ 4611686018427387904)
theorem wRight_c (t : Int) : ACalls Tryz.prog 52 [iv t] (· = .one (.sv (bv (isWhen t)))) := by
  refine ACalls.of_bodyS (fun _ _ => Tryz.call52 _ _) Tryz.func52 rfl Tryz.ntmps52 (by simp) ?_
  refine Tr.ex ?_
  unfold isWhen
  by_cases h : 0 ≤ t <;> simp [go_sem, h]
def meetsB (a b c d : Int) : Bool := decide (max a c < min b d)
theorem Meets_c (a b c d : Int) : ACalls Tryz.prog 58 [iv a, iv b, iv c, iv d] (· = .one (.sv (bv (meetsB a b c d)))) := by
  refine ACalls.of_bodyS (fun _ _ => Tryz.call58 _ _) Tryz.func58 rfl Tryz.ntmps58 (by simp) ?_
  refine Tr.ex ?_
  unfold meetsB
  simp [go_sem]
  split <;> split <;> omega
theorem rMeets_c (a b c d : Int) : ACalls Tryz.prog 70 [iv a, iv b, iv c, iv d] (· = .one (.sv (bv (meetsB a b c d)))) := by
  refine ACalls.of_bodyS (fun _ _ => Tryz.call70 _ _) Tryz.func70 rfl Tryz.ntmps70 (by simp) ?_
  refine Tr.ex ?_
  unfold meetsB
  by_cases h : a < c
  · have e : decide (max a c < min b d) = (decide (c < b) && decide (c < d)) := by rw [Bool.eq_iff_iff]; simp; omega
    have h1 : a ≤ c := by omega
    rw [e]
    by_cases h2 : c < b <;> simp [go_sem, h, h1, h2]
  · have e : decide (max a c < min b d) = (decide (a < b) && decide (a < d)) := by rw [Bool.eq_iff_iff]; simp; omega
    have h1 : c ≤ a := by omega
    rw [e]
    by_cases h2 : a < b <;> simp [go_sem, h, h1, h2]
def mayH (h : Held) : Bool := decide (0 < h.things.length) && isSet h.things && isWhen h.fr && isWhen h.to && decide (h.fr < h.to)
theorem hmay_c (h : Held) (hl : h.things.length ≤ 140737488355328) : ACalls Tryz.prog 31 [heldSV h] (· = .one (.sv (bv (mayH h)))) := by
  refine ACalls.of_bodyS (fun _ _ => Tryz.call31 _ _) Tryz.func31 rfl Tryz.ntmps31 (by simp) ?_
  refine Tr.ex ?_
  unfold mayH
  by_cases h0 : 0 < h.things.length
  case neg => simp [go_sem, h0]
  simp [go_sem, h0]
  refine OpW.fn true (setRight_c h.things hl) rfl rfl (by simp [go_sem]) (by rintro _ r rfl; simp [go_sem]) ?_
  rintro r rfl
  cases h1 : isSet h.things with
  | false => simp [go_sem]
  | true =>
    simp [go_sem]
    refine OpW.fn true (wRight_c h.fr) rfl rfl (by simp [go_sem]) (by rintro _ r rfl; simp [go_sem]) ?_
    rintro r rfl
    cases h2 : isWhen h.fr with
    | false => simp [go_sem]
    | true =>
      simp [go_sem]
      refine OpW.fn true (wRight_c h.to) rfl rfl (by simp [go_sem]) (by rintro _ r rfl; simp [go_sem]) ?_
      rintro r rfl
      cases h3 : isWhen h.to <;> simp [go_sem]
theorem rMay_c (h : Held) (hl : h.things.length ≤ 140737488355328) : ACalls Tryz.prog 43 [heldSV h] (· = .one (.sv (bv (mayH h)))) := by
  refine ACalls.of_bodyS (fun _ _ => Tryz.call43 _ _) Tryz.func43 rfl Tryz.ntmps43 (by simp) ?_
  refine Tr.ex ?_
  unfold mayH isWhen
  by_cases h0 : 0 < h.things.length
  case neg => simp [go_sem, h0]
  simp [go_sem, h0]
  refine OpW.fn true (r1Right_c h.things hl) rfl rfl (by simp [go_sem]) (by rintro _ r rfl; simp [go_sem]) ?_
  rintro r rfl
  cases h1 : isSet h.things with
  | false => simp [go_sem]
  | true =>
    by_cases h2 : 0 ≤ h.fr
    case neg => simp [go_sem, h2]
    by_cases h3 : h.fr < h.to
    case neg => simp [go_sem, h2, h3]
    by_cases h4 : h.to ≤ 4611686018427387904
    · have h5 : h.fr ≤ 4611686018427387904 := by omega
      have h6 : 0 ≤ h.to := by omega
      simp [go_sem, h2, h3, h4, h5, h6]
    · simp [go_sem, h2, h3, h4]
def clashB (a b : Held) : Bool := meetsB a.fr a.to b.fr b.to && !apartB a.things b.things
theorem clash_c (a b : Held) (ha : a.things.length ≤ 140737488355328) (hb : b.things.length ≤ 140737488355328) : ACalls Tryz.prog 34 [heldSV a, heldSV b] (· = .one (.sv (bv (clashB a b)))) := by
  refine ACalls.of_bodyS (fun _ _ => Tryz.call34 _ _) Tryz.func34 rfl Tryz.ntmps34 (by simp) ?_
  refine Tr.ex ?_
  unfold clashB
  simp [go_sem]
  refine OpW.fn true (Meets_c a.fr a.to b.fr b.to) rfl rfl (by simp [go_sem]) (by rintro _ r rfl; simp [go_sem]) ?_
  rintro r rfl
  cases h : meetsB a.fr a.to b.fr b.to with
  | false => simp [go_sem]
  | true =>
    simp [go_sem]
    refine OpW.fn true (Apart_c a.things b.things ha hb) rfl rfl (by simp [go_sem]) (by rintro _ r rfl; simp [go_sem]) ?_
    rintro r rfl
    simp [go_sem]
theorem hRight1_c (a b : Held) (ha : a.things.length ≤ 140737488355328) (hb : b.things.length ≤ 140737488355328) : ACalls Tryz.prog 33 [heldSV a, .ref (heldSV b) 0] (· = .one (.sv (bv (clashB a b)))) := by
  refine ACalls.of_bodyS (fun _ _ => Tryz.call33 _ _) Tryz.func33 rfl Tryz.ntmps33 (by simp) ?_
  refine Tr.ex ?_
  simp [go_sem]
  refine OpW.fn false (clash_c a b ha hb) rfl rfl (by simp [go_sem]) (fun h => by cases h) ?_
  rintro r rfl
  simp [go_sem]
theorem hAdd1_c (a b : Held) (ha : a.things.length ≤ 140737488355328) (hb : b.things.length ≤ 140737488355328) : ACalls Tryz.prog 38 [heldSV a, .ref (heldSV b) 0] (· = .one (.sv (bv (clashB a b)))) := by
  refine ACalls.of_bodyS (fun _ _ => Tryz.call38 _ _) Tryz.func38 rfl Tryz.ntmps38 (by simp) ?_
  refine Tr.ex ?_
  simp [go_sem]
  refine OpW.fn false (clash_c a b ha hb) rfl rfl (by simp [go_sem]) (fun h => by cases h) ?_
  rintro r rfl
  simp [go_sem]
def hidx (p : Held → Bool) (l : List Held) : Int := if l.any p = true then (l.findIdx p : Nat) else -1
theorem hidx_ge (p : Held → Bool) (l : List Held) : decide (0 ≤ hidx p l) = l.any p := by
  unfold hidx
  cases l.any p <;> simp
theorem hIndexFunc_c (l : List Held) (f : FuncId) (caps : List SV) (p : Held → Bool) (hl : l.length ≤ 140737488355328) (hp : ∀ n ∈ l, ACalls Tryz.prog f ([heldSV n] ++ caps) (· = .one (.sv (bv (p n))))) : ACalls Tryz.prog 57 [helds l, .fn f caps] (· = .one (.sv (iv (hidx p l)))) := by
  refine ACalls.of_bodyS (fun _ _ => Tryz.call57 _ _) Tryz.func57 rfl Tryz.ntmps57 (by simp) ?_
  refine Tr.ex ?_
  simp [go_sem]
  refine LoopW.of (fun i : Nat => ⟨19, [(0, .sv (helds l)), (1, .sv (.fn f caps)), (4, .sv (iv 0)), (7, .sv (iv l.length)), (8, .sv (iv i))], []⟩)
    (fun i => i ≤ l.length ∧ ∀ j (h : j < l.length), j < i → p l[j] = false) (fun i => l.length - i) 0 ⟨by omega, fun j h hj => by omega⟩ (Ent.chk (by simp [go_sem])) ?_
  rintro i ⟨hi, hf⟩
  by_cases hlt : i < l.length
  · have hlt' : (i : Int) < l.length := by omega
    have hx : l[i]? = some l[i] := List.getElem?_eq_getElem hlt
    have hw : IntKind.i64.wrap ((i : Int) + 1) = (i : Int) + 1 := by rw [i64w] <;> omega
    have hc := hp l[i] (List.getElem_mem hlt)
    simp [go_sem, hlt, hlt', hx]
    refine OpW.call (g := f) (caps := caps) (ys := [heldSV l[i]]) true hc rfl rfl (by simp [go_sem]) (by simp [go_sem]) (by rintro _ r rfl; simp [go_sem]) ?_
    rintro r rfl
    cases hpi : p l[i] with
    | true =>
      have h1 : l.any p = true := List.any_eq_true.2 ⟨_, List.getElem_mem hlt, hpi⟩
      have h2 : l.findIdx p = i := (List.findIdx_eq hlt).2 ⟨hpi, fun j hj => by simpa using hf j (by omega) hj⟩
      have h3 : hidx p l = i := by unfold hidx; rw [if_pos h1, h2]
      simp [go_sem, h3]
    | false =>
      simp [go_sem]
      exact ⟨i + 1, ⟨by omega, fun j h hj => by
        by_cases hji : j = i
        · subst hji; exact hpi
        · exact hf j h (by omega)⟩, by omega, Ent.chk (by simp [go_sem, hw])⟩
  · have hil : i = l.length := by omega
    subst hil
    have h1 : l.any p = false := by
      rw [List.any_eq_false]
      intro x hx
      obtain ⟨j, hj, rfl⟩ := List.getElem_of_mem hx
      simp [hf j hj hj]
    have h3 : hidx p l = -1 := by unfold hidx; rw [h1]; rfl
    simp [go_sem, h3]
theorem hContainsFunc_c (l : List Held) (f : FuncId) (caps : List SV) (p : Held → Bool) (hl : l.length ≤ 140737488355328) (hp : ∀ n ∈ l, ACalls Tryz.prog f ([heldSV n] ++ caps) (· = .one (.sv (bv (p n))))) : ACalls Tryz.prog 32 [helds l, .fn f caps] (· = .one (.sv (bv (l.any p)))) := by
  refine ACalls.of_bodyS (fun _ _ => Tryz.call32 _ _) Tryz.func32 rfl Tryz.ntmps32 (by simp) ?_
  refine Tr.ex ?_
  simp [go_sem]
  refine OpW.fn true (hIndexFunc_c l f caps p hl hp) rfl rfl (by simp [go_sem]) (by rintro _ r rfl; simp [go_sem]) ?_
  rintro r rfl
  simp [go_sem, hidx_ge]
end Go.Proofs.YtinhfnbmgmociaaGreatDoor.Ab

namespace Go.Proofs.YtinhfnbmgmociaaGreatDoor.Ab
open Go.RowKit
set_option linter.unusedVariables false
set_option linter.unusedSimpArgs false

def hd (l : List Held) (i : Nat) : Held := l.getD i default
theorem hd_get {l : List Held} {i : Nat} {h : Held} (hh : l[i]? = some h) : hd l i = h := by unfold hd; rw [List.getD_eq_getElem?_getD, hh]; rfl
def rowOk (l : List Held) (i : Nat) : Bool := mayH (hd l i) && (i == 0 || decide ((hd l (i - 1)).id < (hd l i).id)) && !(l.take i).any (fun x => clashB x (hd l i))
def tabTo (l : List Held) (i : Nat) : Bool := (List.range i).all (rowOk l)
/-- Is it a right table? -/
def isTab (l : List Held) : Bool := decide (l.length ≤ 256) && tabTo l l.length
theorem tabTo_succ (l : List Held) (i : Nat) : tabTo l (i + 1) = (tabTo l i && rowOk l i) := by unfold tabTo; rw [List.range_succ, List.all_append]; simp
theorem tabTo_bad {l : List Held} {i : Nat} (hi : i < l.length) (h : rowOk l i = false) : tabTo l l.length = false := by
  unfold tabTo
  rw [List.all_eq_false]
  exact ⟨i, List.mem_range.2 hi, by simp [h]⟩
set_option maxHeartbeats 4000000 in
set_option maxRecDepth 100000 in
theorem heldRight_c (l : List Held) (hl : l.length ≤ 140737488355328) (hh : Helds l) : ACalls Tryz.prog 19 [helds l] (· = .one (.sv (bv (isTab l)))) := by
  refine ACalls.of_bodyS (fun _ _ => Tryz.call19 _ _) Tryz.func19 rfl Tryz.ntmps19 (by simp) ?_
  refine Tr.ex ?_
  unfold isTab
  by_cases hlen : l.length ≤ 256
  case neg =>
    have h1 : (256 : Int) < l.length := by omega
    simp [go_sem, hlen, h1]
  have h1 : ¬ (256 : Int) < l.length := by omega
  simp [go_sem, hlen, h1]
  refine LoopW.of (fun i : Nat => ⟨41, [(0, .sv (helds l)), (2, .sv (bv false)), (8, .sv (helds l)), (9, .sv (iv l.length)), (10, .sv (iv i))], []⟩)
    (fun i => i ≤ l.length ∧ tabTo l i = true) (fun i => l.length - i) 0 ⟨by omega, rfl⟩ (Ent.chk (by simp [go_sem])) ?_
  rintro i ⟨hi, ht⟩
  by_cases hlt : i < l.length
  · have hlt' : (i : Int) < l.length := by omega
    have hw : IntKind.i64.wrap ((i : Int) + 1) = (i : Int) + 1 := by rw [i64w] <;> omega
    obtain ⟨h, hx⟩ : ∃ h, l[i]? = some h := ⟨_, List.getElem?_eq_getElem hlt⟩
    have hmem := List.mem_of_getElem? hx
    have hhl := hh h hmem
    have hd1 := hd_get hx
    have hs := tabTo_succ l i
    have hbad := tabTo_bad hlt
    have hro : rowOk l i = (mayH h && (i == 0 || decide ((hd l (i - 1)).id < h.id)) && !(l.take i).any (fun x => clashB x h)) := by unfold rowOk; rw [hd1]
    have hcl := fun x (hx : x ∈ l.take i) => hRight1_c x h (by have := hh x (List.mem_of_mem_take hx); omega) (by omega)
    have htl : (l.take i).length ≤ 140737488355328 := by rw [List.length_take]; omega
    simp [go_sem, hlt, hlt', hx, gE hx]
    refine DrawW.rd rfl ?_
    simp [go_sem]
    refine OpD.call true (hmay_c h (by omega)) rfl rfl (by simp [go_sem]) (by intro _; simp [go_sem]) (by simp [go_sem]) (by simp [go_sem]) ?_
    cases hm : mayH h with
    | false =>
      rw [hbad (by rw [hro, hm]; rfl)]
      simp [go_sem]
      show _ = true
      kernel_rfl
    | true =>
      by_cases hi0 : i = 0
      · subst hi0
        have hro2 : rowOk l 0 = true := by rw [hro, hm]; simp
        simp [go_sem, hlt, hlt', hx, gE hx]
        refine OpD.call true (hContainsFunc_c [] 33 [.ref (heldSV h) 0] (fun x => clashB x h) (by simp) (fun n hn => by cases hn)) rfl rfl (by simp [go_sem]) (by intro _; simp [go_sem]) (by simp [go_sem]) (by simp [go_sem]) ?_
        simp [go_sem]
        refine ⟨by kernel_rfl, ?_⟩
        exact ⟨0 + 1, ⟨by omega, by rw [hs, ht, hro2]; rfl⟩, by omega, Ent.chk (by simp [go_sem])⟩
      · have hi1 : 0 < i := by omega
        have hi1' : (0 : Int) < i := by omega
        have hw1 : IntKind.i64.wrap ((i : Int) - 1) = ((i - 1 : Nat) : Int) := by rw [i64w] <;> omega
        have hlt2 : i - 1 < l.length := by omega
        have hlt3 : ((i - 1 : Nat) : Int) < l.length := by omega
        obtain ⟨p, hp⟩ : ∃ h, l[i - 1]? = some h := ⟨_, List.getElem?_eq_getElem hlt2⟩
        have hd2 := hd_get hp
        rw [hd2] at hro
        have hi2 : (i == 0) = false := by simpa using hi0
        simp [go_sem, hlt, hlt', hx, gE hx, hi1, hi1', hw1, hlt2, hlt3, hp, gE hp]
        by_cases hid : p.id < h.id
        · have hid' : ¬ h.id ≤ p.id := by omega
          have hle : (i : Int) ≤ l.length := by omega
          simp [go_sem, hid', hi, hle]
          refine OpD.call true (hContainsFunc_c (l.take i) 33 [.ref (heldSV h) 0] (fun x => clashB x h) htl hcl) rfl rfl (by simp [go_sem]) (by intro _; simp [go_sem]) (by simp [go_sem]) (by simp [go_sem]) ?_
          cases hc : (l.take i).any (fun x => clashB x h) with
          | true =>
            rw [hbad (by rw [hro, hc]; simp)]
            simp [go_sem]
            show _ = true
            kernel_rfl
          | false =>
            have hro2 : rowOk l i = true := by rw [hro, hm, hc, hi2]; simp [hid]
            simp [go_sem]
            refine ⟨by kernel_rfl, ?_⟩
            exact ⟨i + 1, ⟨by omega, by rw [hs, ht, hro2]; rfl⟩, by omega, Ent.chk (by simp [go_sem, hw])⟩
        · have hid' : h.id ≤ p.id := by omega
          rw [hbad (by rw [hro, hi2]; simp [hid])]
          simp [go_sem, hid']
          show _ = true
          kernel_rfl
  · have hil : i = l.length := by omega
    subst hil
    simp [go_sem, ht]
end Go.Proofs.YtinhfnbmgmociaaGreatDoor.Ab

namespace Go.Proofs.YtinhfnbmgmociaaGreatDoor.Ab
open Go.RowKit
set_option linter.unusedVariables false
set_option linter.unusedSimpArgs false

def touchB (a b : List Int) : Bool := a.any fun n => decide (n ∈ b)
theorem touch_apart {a b : List Int} (ha : isSet a = true) (hb : isSet b = true) : touchB a b = !apartB a b := by
  have h := apartB_iff ha hb
  rw [Bool.eq_iff_iff, Bool.not_eq_true', ← Bool.not_eq_true, h]
  unfold touchB
  rw [List.any_eq_true]
  constructor
  · rintro ⟨n, h1, h2⟩ h3; exact h3 n h1 (by simpa using h2)
  · intro h1
    refine Classical.byContradiction fun h2 => h1 fun n hn hb => h2 ⟨n, hn, by simpa using hb⟩
theorem sorted_lt {l : List Int} (h : isSet l = true) {i j : Nat} {x y : Int} (hx : l[i]? = some x) (hy : l[j]? = some y) (hij : i < j) : x < y := by
  have hp := (isSet_iff.1 h).1
  obtain ⟨h1, rfl⟩ := List.getElem?_eq_some_iff.1 hx
  obtain ⟨h2, rfl⟩ := List.getElem?_eq_some_iff.1 hy
  exact List.pairwise_iff_getElem.1 hp i j h1 h2 hij
theorem touch_step {a b : List Int} (hb : isSet b = true) {i k : Nat} {x y : Int} (hx : a[i]? = some x) (hy : b[k]? = some y) (hxy : x < y) (h1 : ∀ n ∈ a.take i, n ∉ b) (h2 : ∀ m ∈ b.take k, m ∉ a) : ∀ n ∈ a.take (i + 1), n ∉ b := by
  have hlt := (List.getElem?_eq_some_iff.1 hx).1
  intro n hn hnb
  rw [List.take_succ_eq_append_getElem hlt, gE hx] at hn
  rcases List.mem_append.1 hn with hn | hn
  · exact h1 n hn hnb
  · have e := List.mem_singleton.1 hn
    subst e
    obtain ⟨j, hj⟩ := List.getElem?_of_mem hnb
    by_cases hjk : j < k
    · refine h2 n ?_ (List.mem_of_getElem? hx)
      have : (b.take k)[j]? = some n := by rw [List.getElem?_take, if_pos hjk]; exact hj
      exact List.mem_of_getElem? this
    · by_cases e : j = k
      · subst e; rw [hj] at hy; simp only [Option.some.injEq] at hy; omega
      · have := sorted_lt hb hy hj (by omega); omega
set_option maxHeartbeats 4000000 in
set_option maxRecDepth 100000 in
theorem Touch_c (a b : List Int) (ha : isSet a = true) (hb : isSet b = true) : ACalls Tryz.prog 71 [ints a, ints b] (· = .one (.sv (bv (touchB a b)))) := by
  refine ACalls.of_bodyS (fun _ _ => Tryz.call71 _ _) Tryz.func71 rfl Tryz.ntmps71 (by simp) ?_
  refine Tr.ex ?_
  have la := set_len ha
  have lb := set_len hb
  simp [go_sem]
  refine LoopW.of (fun z : Nat × Nat => ⟨39, [(0, .sv (ints a)), (1, .sv (ints b)), (4, .sv (bv false)), (5, .sv (iv z.1)), (6, .sv (iv z.2))], []⟩)
    (fun z => z.1 ≤ a.length ∧ z.2 ≤ b.length ∧ (∀ n ∈ a.take z.1, n ∉ b) ∧ ∀ m ∈ b.take z.2, m ∉ a) (fun z => a.length + b.length - z.1 - z.2) (0, 0) ⟨by simp, by simp, by simp, by simp⟩ (Ent.chk (by simp [go_sem])) ?_
  rintro ⟨i, k⟩ ⟨hi, hk, h1, h2⟩
  simp only at hi hk h1 h2 ⊢
  by_cases hlt : i < a.length
  · have hlt' : (i : Int) < a.length := by omega
    by_cases hlk : k < b.length
    · have hlk' : (k : Int) < b.length := by omega
      obtain ⟨x, hx⟩ : ∃ x, a[i]? = some x := ⟨_, List.getElem?_eq_getElem hlt⟩
      obtain ⟨y, hy⟩ : ∃ y, b[k]? = some y := ⟨_, List.getElem?_eq_getElem hlk⟩
      have hw : IntKind.i64.wrap ((i : Int) + 1) = (i : Int) + 1 := by rw [i64w] <;> omega
      have hw2 : IntKind.i64.wrap ((k : Int) + 1) = (k : Int) + 1 := by rw [i64w] <;> omega
      by_cases e : x = y
      · subst e
        have ht : touchB a b = true := by unfold touchB; rw [List.any_eq_true]; exact ⟨x, List.mem_of_getElem? hx, by simpa using List.mem_of_getElem? hy⟩
        simp [go_sem, hlt, hlt', hlk, hlk']
        refine DrawW.rd rfl ?_
        simp [go_sem, hlt, hlt', hlk, hlk', hx, gE hx, hy, gE hy, ht]
        show _ = true
        kernel_rfl
      · have e' : (x == y) = false := by simpa using e
        simp [go_sem, hlt, hlt', hlk, hlk']
        refine DrawW.rd rfl ?_
        simp [go_sem, hlt, hlt', hlk, hlk', hx, gE hx, hy, gE hy, e']
        refine ⟨by kernel_rfl, ?_⟩
        refine DrawW.rd rfl ?_
        by_cases hxy : x < y
        · simp [go_sem, hlt, hlt', hlk, hlk', hx, gE hx, hy, gE hy, hxy]
          refine ⟨by kernel_rfl, ?_⟩
          exact ⟨i + 1, k, ⟨by omega, by omega, touch_step hb hx hy hxy h1 h2, h2⟩, by omega, Ent.chk (by simp [go_sem, hw])⟩
        · simp [go_sem, hlt, hlt', hlk, hlk', hx, gE hx, hy, gE hy, hxy]
          refine ⟨by kernel_rfl, ?_⟩
          exact ⟨i, k + 1, ⟨by omega, by omega, h1, touch_step ha hy hx (by omega) h2 h1⟩, by omega, Ent.chk (by simp [go_sem, hw2])⟩
    · have hlk' : ¬ (k : Int) < b.length := by omega
      have hkl : k = b.length := by omega
      subst hkl
      rw [List.take_length] at h2
      have ht : touchB a b = false := by unfold touchB; rw [List.any_eq_false]; intro n hn; simp; exact fun h => h2 n h hn
      simp [go_sem, hlt, hlt', ht]
  · have hlt' : ¬ (i : Int) < a.length := by omega
    have hil : i = a.length := by omega
    subst hil
    rw [List.take_length] at h1
    have ht : touchB a b = false := by unfold touchB; rw [List.any_eq_false]; intro n hn; simp; exact h1 n hn
    simp [go_sem, ht]
theorem rclash_c (a b : Held) (ha : isSet a.things = true) (hb : isSet b.things = true) : ACalls Tryz.prog 44 [heldSV a, heldSV b] (· = .one (.sv (bv (clashB a b)))) := by
  refine ACalls.of_bodyS (fun _ _ => Tryz.call44 _ _) Tryz.func44 rfl Tryz.ntmps44 (by simp) ?_
  refine Tr.ex ?_
  unfold clashB
  rw [← touch_apart ha hb]
  simp [go_sem]
  refine OpW.fn true (rMeets_c a.fr a.to b.fr b.to) rfl rfl (by simp [go_sem]) (by rintro _ r rfl; simp [go_sem]) ?_
  rintro r rfl
  cases h : meetsB a.fr a.to b.fr b.to with
  | false => simp [go_sem]
  | true =>
    simp [go_sem]
    refine OpW.fn true (Touch_c a.things b.things ha hb) rfl rfl (by simp [go_sem]) (by rintro _ r rfl; simp [go_sem]) ?_
    rintro r rfl
    simp [go_sem]
theorem mayH_set {h : Held} (hm : mayH h = true) : isSet h.things = true := by unfold mayH at hm; simp only [Bool.and_eq_true] at hm; exact hm.1.1.1.2
theorem tabTo_may {l : List Held} {i j : Nat} (h : tabTo l i = true) (hj : j < i) : mayH (hd l j) = true := by
  unfold tabTo at h
  have := List.all_eq_true.1 h j (List.mem_range.2 hj)
  unfold rowOk at this
  simp only [Bool.and_eq_true] at this
  exact this.1.1
set_option maxHeartbeats 8000000 in
set_option maxRecDepth 100000 in
theorem r10Right_c (l : List Held) (hl : l.length ≤ 140737488355328) (hh : Helds l) : ACalls Tryz.prog 23 [helds l] (· = .one (.sv (bv (isTab l)))) := by
  refine ACalls.of_bodyS (fun _ _ => Tryz.call23 _ _) Tryz.func23 rfl Tryz.ntmps23 (by simp) ?_
  refine Tr.ex ?_
  unfold isTab
  by_cases hlen : l.length ≤ 256
  case neg =>
    have h1 : (256 : Int) < l.length := by omega
    simp [go_sem, hlen, h1]
  have h1 : ¬ (256 : Int) < l.length := by omega
  simp [go_sem, hlen, h1]
  refine LoopW.of (fun i : Nat => ⟨52, [(0, .sv (helds l)), (2, .sv (bv false)), (3, .sv (iv i))], []⟩)
    (fun i => i ≤ l.length ∧ tabTo l i = true) (fun i => l.length - i) 0 ⟨by omega, rfl⟩ (Ent.chk (by simp [go_sem])) ?_
  rintro i ⟨hi, ht⟩
  by_cases hlt : i < l.length
  · have hlt' : (i : Int) < l.length := by omega
    have hw : IntKind.i64.wrap ((i : Int) + 1) = (i : Int) + 1 := by rw [i64w] <;> omega
    obtain ⟨h, hx⟩ : ∃ h, l[i]? = some h := ⟨_, List.getElem?_eq_getElem hlt⟩
    have hmem := List.mem_of_getElem? hx
    have hhl := hh h hmem
    have hd1 := hd_get hx
    have hs := tabTo_succ l i
    have hbad := tabTo_bad hlt
    have hro : rowOk l i = (mayH h && (i == 0 || decide ((hd l (i - 1)).id < h.id)) && !(l.take i).any (fun x => clashB x h)) := by unfold rowOk; rw [hd1]
    simp [go_sem, hlt, hlt', hx, gE hx]
    refine DrawW.rd rfl ?_
    simp [go_sem, hlt, hlt', hx, gE hx]
    refine OpD.call true (rMay_c h (by omega)) rfl rfl (by simp [go_sem]) (by intro _; simp [go_sem]) (by simp [go_sem]) (by simp [go_sem]) ?_
    cases hm : mayH h with
    | false =>
      rw [hbad (by rw [hro, hm]; rfl)]
      simp [go_sem]
      show _ = true
      kernel_rfl
    | true =>
      have inner : ∀ (hids : (i == 0 || decide ((hd l (i - 1)).id < h.id)) = true), True := fun _ => trivial
      by_cases hids : (i == 0 || decide ((hd l (i - 1)).id < h.id)) = true
      case neg =>
        have hids' : (i == 0 || decide ((hd l (i - 1)).id < h.id)) = false := by simpa using hids
        have hi1 : 0 < i := by
          rcases Nat.eq_zero_or_pos i with h | h
          · subst h; simp at hids'
          · exact h
        have hi1' : (0 : Int) < i := by omega
        have hw1 : IntKind.i64.wrap ((i : Int) - 1) = ((i - 1 : Nat) : Int) := by rw [i64w] <;> omega
        have hlt2 : i - 1 < l.length := by omega
        have hlt3 : ((i - 1 : Nat) : Int) < l.length := by omega
        obtain ⟨p, hp⟩ : ∃ h, l[i - 1]? = some h := ⟨_, List.getElem?_eq_getElem hlt2⟩
        have hd2 := hd_get hp
        rw [hd2] at hids'
        have hid' : h.id ≤ p.id := by simp at hids'; omega
        rw [hbad (by rw [hro, hd2, hids']; simp)]
        simp [go_sem, hlt, hlt', hx, gE hx, hi1, hi1', hw1, hlt2, hlt3, hp, gE hp, hid']
        show _ = true
        kernel_rfl
      by_cases hi0 : i = 0
      case' pos =>
        have hz : ¬ 0 < i := by omega
        have hz' : ¬ (0 : Int) < i := by omega
        simp [go_sem, hlt, hlt', hx, gE hx, hz, hz']
      case' neg =>
        have hi1 : 0 < i := by omega
        have hi1' : (0 : Int) < i := by omega
        have hw1 : IntKind.i64.wrap ((i : Int) - 1) = ((i - 1 : Nat) : Int) := by rw [i64w] <;> omega
        have hlt2 : i - 1 < l.length := by omega
        have hlt3 : ((i - 1 : Nat) : Int) < l.length := by omega
        obtain ⟨p, hp⟩ : ∃ h, l[i - 1]? = some h := ⟨_, List.getElem?_eq_getElem hlt2⟩
        have hd2 := hd_get hp
        have hid : ¬ h.id ≤ p.id := by rw [hd2] at hids; simp [hi0] at hids; omega
        simp [go_sem, hlt, hlt', hx, gE hx, hi1, hi1', hw1, hlt2, hlt3, hp, gE hp, hid]
      all_goals
        refine ⟨by kernel_rfl, ?_⟩
        rw [hm, hids] at hro
        refine LoopW.of (fun k : Nat => ⟨52, [(0, .sv (helds l)), (2, .sv (bv false)), (3, .sv (iv i)), (4, .sv (iv k))], []⟩)
          (fun k => k ≤ i ∧ (l.take k).any (fun x => clashB x h) = false) (fun k => i - k) 0 ⟨by omega, rfl⟩ (Ent.chk (by simp [go_sem])) ?_
        rintro k ⟨hk, hka⟩
        by_cases hlk : k < i
        · have hlk' : (k : Int) < i := by omega
          have hlkl : k < l.length := by omega
          have hlkl' : (k : Int) < l.length := by omega
          have hwk : IntKind.i64.wrap ((k : Int) + 1) = (k : Int) + 1 := by rw [i64w] <;> omega
          obtain ⟨q, hq⟩ : ∃ h, l[k]? = some h := ⟨_, List.getElem?_eq_getElem hlkl⟩
          have hqm := tabTo_may ht hlk
          rw [hd_get hq] at hqm
          have htk : l.take (k + 1) = l.take k ++ [q] := by rw [List.take_succ_eq_append_getElem hlkl, gE hq]
          simp [go_sem, hlk, hlk']
          refine DrawW.rd rfl ?_
          simp [go_sem, hlt, hlt', hlkl, hlkl', hx, gE hx, hq, gE hq]
          refine OpD.call false (rclash_c q h (mayH_set hqm) (mayH_set hm)) rfl rfl (by simp [go_sem]) (fun h => by cases h) (by simp [go_sem]) (by simp [go_sem]) ?_
          cases hc : clashB q h with
          | true =>
            have hany : (l.take i).any (fun x => clashB x h) = true := by
              rw [List.any_eq_true]
              have : (l.take i)[k]? = some q := by rw [List.getElem?_take, if_pos hlk]; exact hq
              exact ⟨q, List.mem_of_getElem? this, hc⟩
            rw [hbad (by rw [hro, hany]; rfl)]
            simp [go_sem]
            show _ = true
            kernel_rfl
          | false =>
            have hka2 : (l.take (k + 1)).any (fun x => clashB x h) = false := by rw [htk, List.any_append, hka]; simp [hc]
            simp [go_sem]
            refine ⟨by kernel_rfl, ?_⟩
            exact ⟨k + 1, ⟨by omega, by simpa using hka2⟩, by omega, Ent.chk (by simp [go_sem, hwk])⟩
        · have hki : k = i := by omega
          subst hki
          rw [hka] at hro
          simp [go_sem]
          exact ⟨k + 1, ⟨by omega, by rw [hs, ht, hro]; rfl⟩, by omega, Ent.chk (by simp [go_sem, hw])⟩
  · have hil : i = l.length := by omega
    subst hil
    simp [go_sem, ht]
end Go.Proofs.YtinhfnbmgmociaaGreatDoor.Ab

namespace Go.Proofs.YtinhfnbmgmociaaGreatDoor.Ab
open Go.RowKit
set_option linter.unusedVariables false
set_option linter.unusedSimpArgs false

theorem isNaN_c (n : Int) : ACalls Tryz.prog 86 [iv n] (· = .one (.sv (bv false))) := by
  refine ACalls.of_bodyS (fun _ _ => Tryz.call86 _ _) Tryz.func86 rfl Tryz.ntmps86 (by simp) ?_
  refine Tr.ex ?_
  simp [go_sem, bne]
def cmpI (a b : Int) : Int := if a < b then -1 else if b < a then 1 else 0
theorem Compare_c (a b : Int) : ACalls Tryz.prog 62 [iv a, iv b] (· = .one (.sv (iv (cmpI a b)))) := by
  refine ACalls.of_bodyS (fun _ _ => Tryz.call62 _ _) Tryz.func62 rfl Tryz.ntmps62 (by simp) ?_
  refine Tr.ex ?_
  unfold cmpI
  simp [go_sem]
  refine OpW.fn true (isNaN_c a) rfl rfl (by simp [go_sem]) (by rintro _ r rfl; simp [go_sem]) ?_
  rintro r rfl
  simp [go_sem]
  refine OpW.fn true (isNaN_c b) rfl rfl (by simp [go_sem]) (by rintro _ r rfl; simp [go_sem]) ?_
  rintro r rfl
  by_cases h : a < b
  · simp [go_sem, h]
  · by_cases h2 : b < a
    · simp [go_sem, h, h2]
    · simp [go_sem, h, h2]
theorem find1_c (h : Held) (id : Int) : ACalls Tryz.prog 61 [heldSV h, iv id] (· = .one (.sv (iv (cmpI h.id id)))) := by
  refine ACalls.of_bodyS (fun _ _ => Tryz.call61 _ _) Tryz.func61 rfl Tryz.ntmps61 (by simp) ?_
  refine Tr.ex ?_
  simp [go_sem]
  refine OpW.fn true (Compare_c h.id id) rfl rfl (by simp [go_sem]) (by rintro _ r rfl; simp [go_sem]) ?_
  rintro r rfl
  simp [go_sem]
/-- The first place whose number is no less. -/
def lowAt (l : List Held) (id : Int) : Nat := (l.filter fun h => decide (h.id < id)).length
def sortedId (l : List Held) : Prop := l.Pairwise fun a b => a.id < b.id
theorem lowAt_le (l : List Held) (id : Int) : lowAt l id ≤ l.length := List.length_filter_le _ _
theorem lowAt_iff {id : Int} : ∀ {l : List Held}, sortedId l → ∀ {i : Nat} {h : Held}, l[i]? = some h → (h.id < id ↔ i < lowAt l id)
  | [], _, i, h, hh => by simp at hh
  | x :: l, hs, 0, h, hh => by
    simp at hh; subst hh
    unfold lowAt
    rw [List.filter_cons]
    by_cases hx : x.id < id
    · simp [hx]
    · have : l.filter (fun h => decide (h.id < id)) = [] := by
        rw [List.filter_eq_nil_iff]
        intro y hy
        have := (List.pairwise_cons.1 hs).1 y hy
        simp; omega
      simp [hx, this]
  | x :: l, hs, i + 1, h, hh => by
    simp at hh
    have ih := lowAt_iff (id := id) (List.pairwise_cons.1 hs).2 hh
    have hxh := (List.pairwise_cons.1 hs).1 h (List.mem_of_getElem? hh)
    unfold lowAt at ih ⊢
    rw [List.filter_cons]
    by_cases hx : x.id < id
    · simp only [hx, decide_true, if_true, List.length_cons]; rw [ih]; omega
    · have : l.filter (fun h => decide (h.id < id)) = [] := by
        rw [List.filter_eq_nil_iff]
        intro y hy
        have := (List.pairwise_cons.1 hs).1 y hy
        simp; omega
      simp [hx, this]; omega
def isAt (l : List Held) (id : Int) : Bool := l.any fun h => h.id == id
theorem isAt_low {l : List Held} (hs : sortedId l) {id : Int} : isAt l id = true ↔ ∃ h, l[lowAt l id]? = some h ∧ h.id = id := by
  unfold isAt
  rw [List.any_eq_true]
  constructor
  · rintro ⟨h, hm, he⟩
    simp at he
    obtain ⟨i, hi⟩ := List.getElem?_of_mem hm
    have h1 := lowAt_iff hs (id := id) hi
    have h2 : ¬ i < lowAt l id := by rw [← h1]; omega
    have hlt := (List.getElem?_eq_some_iff.1 hi).1
    by_cases e : i = lowAt l id
    · subst e; exact ⟨h, hi, he⟩
    · exfalso
      have hlt2 : lowAt l id < l.length := by omega
      have h3 := lowAt_iff hs (id := id) (List.getElem?_eq_getElem hlt2)
      have h4 : ¬ l[lowAt l id].id < id := by rw [h3]; omega
      have h5 := List.pairwise_iff_getElem.1 hs (lowAt l id) i hlt2 hlt (by omega)
      have h6 : l[i] = h := gE hi hlt
      rw [h6] at h5
      omega
  · rintro ⟨h, hi, he⟩
    exact ⟨h, List.mem_of_getElem? hi, by simpa using he⟩
theorem tab_sorted {l : List Held} (h : isTab l = true) : sortedId l := by
  unfold isTab at h
  simp only [Bool.and_eq_true] at h
  have key : ∀ i, i ≤ l.length → (l.take i).Pairwise fun a b => a.id < b.id := by
    intro i
    induction i with
    | zero => intro _; simp
    | succ i ih =>
      intro hi
      have hlt : i < l.length := by omega
      obtain ⟨x, hx⟩ : ∃ x, l[i]? = some x := ⟨_, List.getElem?_eq_getElem hlt⟩
      have hr : rowOk l i = true := List.all_eq_true.1 h.2 i (List.mem_range.2 hlt)
      unfold rowOk at hr
      simp only [Bool.and_eq_true] at hr
      rw [List.take_succ_eq_append_getElem hlt, gE hx, List.pairwise_append]
      refine ⟨ih (by omega), by simp, fun a ha b hb => ?_⟩
      rw [List.mem_singleton.1 hb]
      obtain ⟨j, hj⟩ := List.getElem?_of_mem ha
      rw [List.getElem?_take] at hj
      split at hj
      case isFalse => cases hj
      rename_i hji
      have h2 := hr.1.2
      rw [hd_get hx] at h2
      have hi0 : i ≠ 0 := by omega
      simp [hi0] at h2
      by_cases e : j = i - 1
      · subst e; rw [hd_get hj] at h2; exact h2
      · have hp := ih (by omega)
        have hlp : i - 1 < l.length := by omega
        have h3 : (l.take i)[j]? = some a := by rw [List.getElem?_take, if_pos hji]; exact hj
        have h4 : (l.take i)[i - 1]? = some (hd l (i - 1)) := by rw [List.getElem?_take, if_pos (by omega)]; rw [List.getElem?_eq_getElem hlp, hd_get (List.getElem?_eq_getElem hlp)]
        obtain ⟨q1, rfl⟩ := List.getElem?_eq_some_iff.1 h3
        obtain ⟨q2, q3⟩ := List.getElem?_eq_some_iff.1 h4
        have := List.pairwise_iff_getElem.1 hp j (i - 1) q1 q2 (by omega)
        rw [q3] at this; omega
  have := key l.length (Nat.le_refl _)
  rwa [List.take_length] at this
theorem tab_len {l : List Held} (h : isTab l = true) : l.length ≤ 256 := by unfold isTab at h; simp only [Bool.and_eq_true, decide_eq_true_eq] at h; exact h.1
set_option maxHeartbeats 4000000 in
set_option maxRecDepth 100000 in
theorem BinSearch_c (l : List Held) (id : Int) (hs : sortedId l) (hl : l.length ≤ 256) : ACalls Tryz.prog 60 [helds l, iv id, .fn 61 []] (· = .many [.sv (iv (lowAt l id)), .sv (bv (isAt l id))]) := by
  refine ACalls.of_bodyS (fun _ _ => Tryz.call60 _ _) Tryz.func60 rfl Tryz.ntmps60 (by simp) ?_
  refine Tr.ex ?_
  have hle := lowAt_le l id
  have hiff := fun {i : Nat} {h : Held} (hh : l[i]? = some h) => lowAt_iff hs (id := id) hh
  have hat := isAt_low hs (id := id)
  simp [go_sem]
  refine LoopW.of (fun z : Nat × Nat => ⟨49, [(0, .sv (helds l)), (1, .sv (iv id)), (2, .sv (.fn 61 [])), (6, .sv (iv 0)), (7, .sv (bv false)), (8, .sv (iv l.length)), (9, .sv (iv z.1)), (10, .sv (iv z.2))], []⟩)
    (fun z => z.1 ≤ z.2 ∧ z.2 ≤ l.length ∧ z.1 ≤ lowAt l id ∧ lowAt l id ≤ z.2) (fun z => z.2 - z.1) (0, l.length) ⟨by simp, by simp, by simp, by simpa using hle⟩ (Ent.chk (by simp [go_sem])) ?_
  rintro ⟨i, j⟩ ⟨h1, h2, h3, h4⟩
  simp only at h1 h2 h3 h4 ⊢
  by_cases hij : i < j
  · have hij' : (i : Int) < j := by omega
    have hw1 : IntKind.i64.wrap ((i : Int) + j) = (i : Int) + j := by rw [i64w] <;> omega
    have hmid : IntKind.i64.wrap ((IntKind.u64.wrap ((i : Int) + j)).fdiv 2) = (((i + j) / 2 : Nat) : Int) := by
      rw [u64w _ (by omega) (by omega), Int.fdiv_eq_ediv_of_nonneg _ (by decide), i64w] <;> omega
    have hm1 : i ≤ (i + j) / 2 := by omega
    have hm2 : (i + j) / 2 < j := by omega
    generalize (i + j) / 2 = m at *
    have hml : m < l.length := by omega
    have hml' : (m : Int) < l.length := by omega
    obtain ⟨h, hx⟩ : ∃ h, l[m]? = some h := ⟨_, List.getElem?_eq_getElem hml⟩
    have hwm : IntKind.i64.wrap ((m : Int) + 1) = (m : Int) + 1 := by rw [i64w] <;> omega
    have hi2 := hiff hx
    simp [go_sem, hij, hij', hw1, hmid, hml, hml', hx, gE hx]
    refine OpW.call (g := 61) (caps := []) (ys := [heldSV h, iv id]) true (find1_c h id) rfl rfl (by simp [go_sem]) (by simp [go_sem]) (by rintro _ r rfl; simp [go_sem]) ?_
    rintro r rfl
    by_cases c1 : h.id < id
    · have hc : cmpI h.id id < 0 := by unfold cmpI; rw [if_pos c1]; decide
      have := hi2.1 c1
      simp [go_sem, hc]
      exact ⟨m + 1, j, ⟨by omega, by omega, by omega, by omega⟩, by omega, Ent.chk (by simp [go_sem, hwm])⟩
    · have hc : ¬ cmpI h.id id < 0 := by unfold cmpI; rw [if_neg c1]; split <;> decide
      have : ¬ m < lowAt l id := fun h => c1 (hi2.2 h)
      simp [go_sem, hc]
      exact ⟨i, m, ⟨by omega, by omega, by omega, by omega⟩, by omega, Ent.chk (by simp [go_sem])⟩
  · have hil : i = lowAt l id := by omega
    subst hil
    by_cases hlt : lowAt l id < l.length
    · have hlt' : (lowAt l id : Int) < l.length := by omega
      obtain ⟨h, hx⟩ : ∃ h, l[lowAt l id]? = some h := ⟨_, List.getElem?_eq_getElem hlt⟩
      have hr : isAt l id = (cmpI h.id id == 0) := by
        rw [Bool.eq_iff_iff, hat, hx]
        unfold cmpI
        by_cases e : h.id = id
        · simp [e]
        · rcases Int.lt_or_gt_of_ne e with q | q
          · simp [e, q]
          · have : ¬ h.id < id := by omega
            simp [e, this]; omega
      rw [hr]
      generalize lowAt l id = m at *
      have hij' : ¬ (m : Int) < j := by omega
      simp [go_sem, hij', hlt, hlt', hx, gE hx]
      refine OpW.call (g := 61) (caps := []) (ys := [heldSV h, iv id]) true (find1_c h id) rfl rfl (by simp [go_sem]) (by simp [go_sem]) (by rintro _ r rfl; simp [go_sem]) ?_
      rintro r rfl
      simp [go_sem]
    · have hlt' : ¬ (lowAt l id : Int) < l.length := by omega
      have hr : isAt l id = false := by
        rw [← Bool.not_eq_true, hat]
        rintro ⟨h, hx, _⟩
        exact hlt (List.getElem?_eq_some_iff.1 hx).1
      rw [hr]
      generalize lowAt l id = m at *
      have hij' : ¬ (m : Int) < j := by omega
      simp [go_sem, hij', hlt']
theorem find_c (l : List Held) (id : Int) (hs : sortedId l) (hl : l.length ≤ 256) : ACalls Tryz.prog 37 [helds l, iv id] (· = .many [.sv (iv (lowAt l id)), .sv (bv (isAt l id))]) := by
  refine ACalls.of_bodyS (fun _ _ => Tryz.call37 _ _) Tryz.func37 rfl Tryz.ntmps37 (by simp) ?_
  refine Tr.ex ?_
  simp [go_sem]
  refine OpW.fn true (BinSearch_c l id hs hl) rfl rfl (by simp [go_sem]) (by rintro _ r rfl; simp [go_sem]) ?_
  rintro r rfl
  simp [go_sem]
end Go.Proofs.YtinhfnbmgmociaaGreatDoor.Ab

namespace Go.Proofs.YtinhfnbmgmociaaGreatDoor.Ab
open Go.RowKit
set_option linter.unusedVariables false
set_option linter.unusedSimpArgs false

theorem OpW.go {P : Program} {Q : Exit → St → Prop} {ops : Array Oper} {l : List Oper} {k : List Fr} {o : Oper} {st : St} (h : Ab.rn P Q ops (o :: l) k st) : OpW P Q ops o l k st := RnK.rn h
theorem copied_c (h : Held) (hl : h.things.length ≤ 140737488355) : ACalls Tryz.prog 40 [heldSV h] (· = .one (.sv (heldSV h))) := by
  refine ACalls.of_bodyS (fun _ _ => Tryz.call40 _ _) Tryz.func40 rfl Tryz.ntmps40 (by simp) ?_
  refine Tr.ex ?_
  simp [go_sem]
  refine OpW.fn false (Clone_c h.things hl) rfl rfl (by simp [go_sem]) (fun h => by cases h) ?_
  rintro r (⟨h0, rfl⟩ | rfl)
  · simp [go_sem, h0]
  · simp [go_sem]
    refine OpW.frz 5 (OpW.go ?_)
    simp [go_sem]
theorem clone_c (l : List Held) (hl : l.length ≤ 1000000000) (hh : Helds l) : ACalls Tryz.prog 36 [helds l] (· = .one (.own 4 (l.map heldSV))) := by
  refine ACalls.of_body (fun _ _ => Tryz.call36 _ _) Tryz.func36 rfl Tryz.ntmps36 (by simp) ?_
  refine Tr.ex ?_
  simp [go_sem]
  refine LoopW.of (fun i : Nat => ⟨19, [(2, .nil), (3, .own 3), (6, .sv (helds l)), (7, .sv (iv l.length)), (8, .sv (iv i))], [(3, .row 4 ((l.take i).map heldSV))]⟩)
    (fun i => i ≤ l.length) (fun i => l.length - i) 0 (by omega) (Ent.thaw 3 3 4 (by simp [go_sem]) (by simp [go_sem]) (by decide) (Ent.chk (by simp [go_sem]))) ?_
  intro i hi
  by_cases hlt : i < l.length
  · have hlt' : (i : Int) < l.length := by omega
    have hw : IntKind.i64.wrap ((i : Int) + 1) = (i : Int) + 1 := by rw [i64w] <;> omega
    obtain ⟨h, hx⟩ : ∃ h, l[i]? = some h := ⟨_, List.getElem?_eq_getElem hlt⟩
    have hhl := hh h (List.mem_of_getElem? hx)
    have htk : l.take (i + 1) = l.take i ++ [h] := by rw [List.take_succ_eq_append_getElem hlt, gE hx]
    have hmin : min i l.length = i := by omega
    simp [go_sem, hlt, hlt', hx, gE hx]
    refine OpW.fn false (copied_c h hhl) rfl rfl (by simp [go_sem]) (fun h => by cases h) ?_
    rintro r rfl
    simp [go_sem, hmin]
    have htk2 : (l.map heldSV).take (i + 1) = (l.map heldSV).take i ++ [heldSV h] := by rw [← List.map_take, ← List.map_take, htk, List.map_append]; rfl
    exact ⟨by omega, i + 1, by omega, by omega, Ent.rename2 16 3 (by simp [go_sem]) (Ent.chk (by simp [go_sem, hw, htk2]))⟩
  · have hil : i = l.length := by omega
    subst hil
    simp [go_sem]
/-- Busy things of a span. -/
def busyOf (a b : Int) (l : List Held) : List Int := l.foldl (fun out h => if meetsB h.fr h.to a b = true then joinL out h.things else out) []
def busyL (l : List Held) (a b : Int) : List Int := if isTab l = true then busyOf a b l else []
theorem busyOf_snoc (a b : Int) (l : List Held) (h : Held) : busyOf a b (l ++ [h]) = if meetsB h.fr h.to a b = true then joinL (busyOf a b l) h.things else busyOf a b l := by unfold busyOf; rw [List.foldl_append]; rfl
theorem busyOf_set (a b : Int) (l : List Held) : isSet (busyOf a b l) = true := by
  unfold busyOf
  have key : ∀ (l : List Held) (s : List Int), isSet s = true → isSet (l.foldl (fun out h => if meetsB h.fr h.to a b = true then joinL out h.things else out) s) = true := by
    intro l
    induction l with
    | nil => intro s hs; exact hs
    | cons x l ih =>
      intro s hs
      rw [List.foldl_cons]
      refine ih _ ?_
      split
      · exact joinL_set _ _
      · exact hs
  exact key l [] rfl
theorem busyL_set (l : List Held) (a b : Int) : isSet (busyL l a b) = true := by unfold busyL; split; exact busyOf_set _ _ _; rfl
def restL (l : List Held) (now : Int) : List Held := if isTab l = true then l.filter (fun h => decide (now < h.to)) else l
def goneL (l : List Held) (now : Int) : List Held := if isTab l = true then l.filter (fun h => decide (h.to ≤ now)) else []
theorem filt_snoc {p : Held → Bool} (l : List Held) (h : Held) : (l ++ [h]).filter p = if p h = true then l.filter p ++ [h] else l.filter p := by
  rw [List.filter_append]
  by_cases q : p h = true
  · rw [if_pos q]; simp [q]
  · rw [if_neg q]; simp [q]
def pLive (now : Int) (h : Held) : Bool := decide (now < h.to)
def pGone (now : Int) (h : Held) : Bool := decide (h.to ≤ now)
theorem One_c (a b : Held) (ha : a.things.length ≤ 140737488355328) (hb : b.things.length ≤ 140737488355328) : ACalls Tryz.prog 27 [heldSV a, heldSV b] (· = .one (.sv (bv (decide (a.id = b.id) && decide (a.fr = b.fr) && decide (a.to = b.to) && decide (a.things = b.things))))) := by
  refine ACalls.of_bodyS (fun _ _ => Tryz.call27 _ _) Tryz.func27 rfl Tryz.ntmps27 (by simp) ?_
  refine Tr.ex ?_
  by_cases h1 : a.id = b.id
  case neg =>
    have e1 : (a.id == b.id) = false := by simpa using h1
    simp [go_sem, h1, e1]
  by_cases h2 : a.fr = b.fr
  case neg =>
    have e1 : (a.fr == b.fr) = false := by simpa using h2
    simp [go_sem, h1, h2, e1]
  by_cases h3 : a.to = b.to
  case neg =>
    have e1 : (a.to == b.to) = false := by simpa using h3
    simp [go_sem, h1, h2, h3, e1]
  simp [go_sem, h1, h2, h3]
  refine OpW.fn true (Same_c a.things b.things ha hb) rfl rfl (by simp [go_sem]) (by rintro _ r rfl; simp [go_sem]) ?_
  rintro r rfl
  simp [go_sem]
theorem held_eq {a b : Held} : (decide (a.id = b.id) && decide (a.fr = b.fr) && decide (a.to = b.to) && decide (a.things = b.things)) = true ↔ a = b := by
  cases a; cases b
  simp only [Bool.and_eq_true, decide_eq_true_eq, Held.mk.injEq]
  constructor
  · rintro ⟨⟨⟨h1, h2⟩, h3⟩, h4⟩; exact ⟨h1, h4, h2, h3⟩
  · rintro ⟨h1, h4, h2, h3⟩; exact ⟨⟨⟨h1, h2⟩, h3⟩, h4⟩
def oneB (a b : Held) : Bool := decide (a.id = b.id) && decide (a.fr = b.fr) && decide (a.to = b.to) && decide (a.things = b.things)
theorem oneB_iff {a b : Held} : oneB a b = true ↔ a = b := held_eq
instance : DecidableEq Held := fun a b => decidable_of_iff (oneB a b = true) oneB_iff
set_option maxHeartbeats 4000000 in
theorem sameH_c (a b : List Held) (ha : a.length ≤ 140737488355328) (hb : b.length ≤ 140737488355328) (ta : Helds a) (tb : Helds b) : ACalls Tryz.prog 10 [helds a, helds b] (· = .one (.sv (bv (decide (a = b))))) := by
  refine ACalls.of_bodyS (fun _ _ => Tryz.call10 _ _) Tryz.func10 rfl Tryz.ntmps10 (by simp) ?_
  refine Tr.ex ?_
  by_cases hlen : a.length = b.length
  case neg =>
    have h1 : ¬ a = b := fun h => hlen (by rw [h])
    have e1 : ((a.length : Int) == b.length) = false := by simp; omega
    simp [go_sem, bne, e1, h1, hlen]
  have e1 : ((a.length : Int) == b.length) = true := by simp [hlen]
  simp [go_sem, bne, e1, hlen]
  refine LoopW.of (fun i : Nat => ⟨27, [(0, .sv (helds a)), (1, .sv (helds b)), (4, .sv (bv false)), (5, .sv (iv i))], []⟩)
    (fun i => i ≤ a.length ∧ a.take i = b.take i) (fun i => a.length - i) 0 ⟨by omega, by simp⟩ (Ent.chk (by simp [go_sem])) ?_
  rintro i ⟨hi, ht⟩
  by_cases hlt : i < a.length
  · have hlt' : (i : Int) < a.length := by omega
    have hltb : i < b.length := by omega
    have hltb' : (i : Int) < b.length := by omega
    have hw : IntKind.i64.wrap ((i : Int) + 1) = (i : Int) + 1 := by rw [i64w] <;> omega
    obtain ⟨x, hx⟩ : ∃ h, a[i]? = some h := ⟨_, List.getElem?_eq_getElem hlt⟩
    obtain ⟨y, hy⟩ : ∃ h, b[i]? = some h := ⟨_, List.getElem?_eq_getElem hltb⟩
    have hxl := ta x (List.mem_of_getElem? hx)
    have hyl := tb y (List.mem_of_getElem? hy)
    have h1 := One_c x y (by omega) (by omega)
    have h2 : (decide (x.id = y.id) && decide (x.fr = y.fr) && decide (x.to = y.to) && decide (x.things = y.things)) = decide (x = y) := by rw [Bool.eq_iff_iff, held_eq]; simp
    rw [h2] at h1
    simp [go_sem, hlt', hlen.symm]
    refine DrawW.rd rfl ?_
    simp [go_sem, hlt, hlt', hltb, hltb', hx, gE hx, hy, gE hy]
    refine OpD.call false h1 rfl rfl (by simp [go_sem]) (fun h => by cases h) (by simp [go_sem]) (by simp [go_sem]) ?_
    by_cases e : x = y
    · simp [go_sem, e]
      refine ⟨by kernel_rfl, ?_⟩
      exact ⟨i + 1, ⟨by omega, by rw [List.take_succ_eq_append_getElem hlt, List.take_succ_eq_append_getElem hltb, gE hx, gE hy, ht, e]⟩, by omega, Ent.chk (by simp [go_sem, hw])⟩
    · have hne : ¬ a = b := fun h => e (by rw [h] at hx; rw [hx] at hy; simpa using hy)
      simp [go_sem, e, hne]
      show _ = true
      kernel_rfl
  · have hil : i = a.length := by omega
    subst hil
    rw [List.take_length, hlen, List.take_length] at ht
    simp [go_sem, ht]
end Go.Proofs.YtinhfnbmgmociaaGreatDoor.Ab

namespace Go.Proofs.YtinhfnbmgmociaaGreatDoor.Ab
open Go.RowKit
set_option linter.unusedVariables false
set_option linter.unusedSimpArgs false

theorem sortL_mem {zs : List Int} {n : Int} : n ∈ sortL zs ↔ n ∈ zs := by unfold sortL; exact List.mem_mergeSort
theorem sortL_sorted (zs : List Int) : (sortL zs).Pairwise (· ≤ ·) := by
  have h := List.pairwise_mergeSort (le := fun x y : Int => decide (x ≤ y)) (fun a b c => by simp; omega) (fun a b => by simp; omega) zs
  unfold sortL
  exact h.imp fun h => by simpa using h
theorem cmpTo_spec {d : Array Int} (hs : ∀ i j, i ≤ j → j < d.size → d[i]! ≤ d[j]!) : ∀ m, m ≤ d.size → (Lib.compactUpTo d m).Pairwise (· < ·) ∧ (∀ n, n ∈ Lib.compactUpTo d m ↔ ∃ j, j < m ∧ d[j]! = n) := by
  intro m
  induction m with
  | zero => intro _; exact ⟨by simp [Lib.compactUpTo], by simp [Lib.compactUpTo]⟩
  | succ m ih =>
    intro hm
    obtain ⟨h1, h2⟩ := ih (by omega)
    rw [Lib.compactUpTo_succ]
    cases hk : Lib.keeps d m with
    | false =>
      simp only [Bool.false_eq_true, if_false, List.append_nil]
      refine ⟨h1, fun n => ?_⟩
      rw [h2]
      unfold Lib.keeps at hk
      simp only [decide_eq_false_iff_not, not_or, Classical.not_not] at hk
      constructor
      · rintro ⟨j, hj, e⟩; exact ⟨j, by omega, e⟩
      · rintro ⟨j, hj, e⟩
        by_cases hjm : j = m
        · exact ⟨m - 1, by omega, by rw [← hk.2, ← hjm]; exact e⟩
        · exact ⟨j, by omega, e⟩
    | true =>
      simp only [if_true]
      unfold Lib.keeps at hk
      simp only [decide_eq_true_eq] at hk
      refine ⟨?_, fun n => ?_⟩
      · rw [List.pairwise_append]
        refine ⟨h1, by simp, fun a ha b hb => ?_⟩
        rw [List.mem_singleton.1 hb]
        obtain ⟨j, hj, rfl⟩ := (h2 a).1 ha
        rcases hk with rfl | hk
        · omega
        · have q1 := hs j (m - 1) (by omega) (by omega)
          have q2 := hs (m - 1) m (by omega) (by omega)
          omega
      · rw [List.mem_append, h2, List.mem_singleton]
        constructor
        · rintro (⟨j, hj, e⟩ | rfl)
          · exact ⟨j, by omega, e⟩
          · exact ⟨m, by omega, rfl⟩
        · rintro ⟨j, hj, e⟩
          by_cases hjm : j = m
          · right; rw [← e, hjm]
          · left; exact ⟨j, by omega, e⟩
theorem cmp_sort (zs : List Int) : (cmpL (sortL zs)).Pairwise (· < ·) ∧ ∀ n, n ∈ cmpL (sortL zs) ↔ n ∈ zs := by
  have hs : ∀ i j, i ≤ j → j < (sortL zs).toArray.size → (sortL zs).toArray[i]! ≤ (sortL zs).toArray[j]! := fun i j hij hj => by
    simp only [List.size_toArray] at hj
    have hi : i < (sortL zs).length := by omega
    have e1 : (sortL zs).toArray[i]! = (sortL zs)[i] := by simp [hi]
    have e2 : (sortL zs).toArray[j]! = (sortL zs)[j] := by simp [hj]
    rw [e1, e2]
    by_cases e : i = j
    · subst e; exact Int.le_refl _
    · exact List.pairwise_iff_getElem.1 (sortL_sorted zs) i j hi hj (by omega)
  obtain ⟨h1, h2⟩ := cmpTo_spec hs (sortL zs).toArray.size (Nat.le_refl _)
  refine ⟨h1, fun n => ?_⟩
  unfold cmpL
  rw [h2, ← sortL_mem]
  simp only [List.size_toArray]
  constructor
  · rintro ⟨j, hj, rfl⟩
    have e2 : (sortL zs).toArray[j]! = (sortL zs)[j] := by simp [hj]
    rw [e2]; exact List.getElem_mem hj
  · intro hn
    obtain ⟨j, hj, rfl⟩ := List.getElem_of_mem hn
    exact ⟨j, hj, by simp [hj]⟩
def tosOf (l : List Held) (from_ : Int) : List Int := (l.filter (pLive from_)).map Held.to
def endsL (l : List Held) (from_ : Int) : List Int := if isTab l = true then cmpL (sortL (tosOf l from_)) else []
theorem tosOf_mem {l : List Held} {f n : Int} : n ∈ tosOf l f ↔ ∃ h ∈ l, h.to = n ∧ f < n := by
  unfold tosOf
  rw [List.mem_map]
  constructor
  · rintro ⟨h, hm, rfl⟩
    have := List.mem_filter.1 hm
    exact ⟨h, this.1, rfl, by simpa [pLive] using this.2⟩
  · rintro ⟨h, hm, rfl, hf⟩
    exact ⟨h, List.mem_filter.2 ⟨hm, by simpa [pLive] using hf⟩, rfl⟩
theorem tosOf_len (l : List Held) (f : Int) : (tosOf l f).length ≤ l.length := by
  unfold tosOf; rw [List.length_map]; exact List.length_filter_le _ _
theorem endsL_len {l : List Held} {f : Int} : (endsL l f).length ≤ 256 := by
  unfold endsL; split
  · rename_i h
    have h1 := cmpL_le (sortL (tosOf l f))
    rw [sortL_len] at h1
    have := tosOf_len l f
    have := tab_len h
    omega
  · simp
set_option maxHeartbeats 4000000 in
set_option maxRecDepth 100000 in
theorem Ends_c (l : List Held) (f : Int) (hl : l.length ≤ 140737488355328) (hh : Helds l) : ACalls Tryz.prog 29 [helds l, iv f] (· = .one (.sv (ints (endsL l f)))) := by
  refine ACalls.of_bodyS (fun _ _ => Tryz.call29 _ _) Tryz.func29 rfl Tryz.ntmps29 (by simp) ?_
  refine Tr.ex ?_
  unfold endsL
  simp [go_sem]
  refine OpW.fn true (heldRight_c l hl hh) rfl rfl (by simp [go_sem]) (by rintro _ r rfl; simp [go_sem]) ?_
  rintro r rfl
  cases ht : isTab l with
  | false => simp [go_sem]
  | true =>
    have htl := tab_len ht
    simp [go_sem]
    refine LoopW.of (fun i : Nat => ⟨31, [(1, .sv (iv f)), (4, .nil), (5, .own 5), (11, .sv (helds l)), (12, .sv (iv l.length)), (13, .sv (iv i))], [(5, .row 1 ((tosOf (l.take i) f).map iv))]⟩)
      (fun i => i ≤ l.length) (fun i => l.length - i) 0 (by omega) (Ent.thaw 5 5 1 (by simp [go_sem]) (by simp [go_sem]) (by decide) (Ent.chk (by simp [go_sem, tosOf]))) ?_
    intro i hi
    by_cases hlt : i < l.length
    · have hlt' : (i : Int) < l.length := by omega
      have hw : IntKind.i64.wrap ((i : Int) + 1) = (i : Int) + 1 := by rw [i64w] <;> omega
      obtain ⟨h, hx⟩ : ∃ h, l[i]? = some h := ⟨_, List.getElem?_eq_getElem hlt⟩
      have htk : l.take (i + 1) = l.take i ++ [h] := by rw [List.take_succ_eq_append_getElem hlt, gE hx]
      have f1 : tosOf (l.take (i + 1)) f = if pLive f h = true then tosOf (l.take i) f ++ [h.to] else tosOf (l.take i) f := by
        unfold tosOf
        rw [htk, filt_snoc]
        split
        · rw [List.map_append]; rfl
        · rfl
      have g1 := tosOf_len (l.take i) f
      have g3 : (l.take i).length ≤ 256 := by rw [List.length_take]; omega
      generalize tosOf (l.take i) f = out at *
      by_cases hc : f < h.to
      · rw [if_pos (by unfold pLive; simpa using hc)] at f1
        simp [go_sem, hlt, hlt', hx, gE hx, hc]
        exact ⟨by omega, i + 1, by omega, by omega, Ent.rename2 25 5 (by simp [go_sem]) (Ent.chk (by simp [go_sem, hw, f1]))⟩
      · rw [if_neg (by unfold pLive; simpa using hc)] at f1
        simp [go_sem, hlt, hlt', hx, gE hx, hc]
        exact ⟨i + 1, by omega, by omega, Ent.chk (by simp [go_sem, hw, f1])⟩
    · have hil : i = l.length := by omega
      subst hil
      have g1 := tosOf_len l f
      rw [List.take_length]
      simp [go_sem]
      refine OpW.callI 5 (sort_c (tosOf l f) (by omega)) rfl (by simp [go_sem]) (by simp [go_sem]) (by simp [go_sem]) (by simp [go_sem]) ?_
      rintro r o ⟨rfl, rfl⟩
      have hsl := sortL_len (tosOf l f)
      simp [go_sem, hsl]
      refine OpW.compact 5 30 (sortL (tosOf l f)) rfl rfl rfl rfl rfl (by simp [go_sem]) (by simp) (by simp [go_sem]) (by simp [go_sem]) ?_
      simp [go_sem]
def shortB (l : List Held) : Bool := decide (l.length ≤ 30) && l.all fun h => decide (h.things.length ≤ 60)
theorem Short_c (l : List Held) (hl : l.length ≤ 140737488355328) : ACalls Tryz.prog 13 [helds l] (· = .one (.sv (bv (shortB l)))) := by
  refine ACalls.of_bodyS (fun _ _ => Tryz.call13 _ _) Tryz.func13 rfl Tryz.ntmps13 (by simp) ?_
  refine Tr.ex ?_
  unfold shortB
  by_cases hlen : l.length ≤ 30
  case neg =>
    have h1 : (30 : Int) < l.length := by omega
    simp [go_sem, hlen, h1]
  have h1 : ¬ (30 : Int) < l.length := by omega
  simp [go_sem, hlen, h1]
  refine LoopW.of (fun i : Nat => ⟨20, [(0, .sv (helds l)), (2, .sv (bv false)), (3, .sv (iv i))], []⟩)
    (fun i => i ≤ l.length ∧ ∀ h ∈ l.take i, h.things.length ≤ 60) (fun i => l.length - i) 0 ⟨by omega, by simp⟩ (Ent.chk (by simp [go_sem])) ?_
  rintro i ⟨hi, ht⟩
  by_cases hlt : i < l.length
  · have hlt' : (i : Int) < l.length := by omega
    have hw : IntKind.i64.wrap ((i : Int) + 1) = (i : Int) + 1 := by rw [i64w] <;> omega
    obtain ⟨h, hx⟩ : ∃ h, l[i]? = some h := ⟨_, List.getElem?_eq_getElem hlt⟩
    have htk : l.take (i + 1) = l.take i ++ [h] := by rw [List.take_succ_eq_append_getElem hlt, gE hx]
    by_cases hc : h.things.length ≤ 60
    · have hc' : ¬ (60 : Int) < h.things.length := by omega
      simp [go_sem, hlt, hlt', hx, gE hx, hc']
      refine ⟨i + 1, ⟨by omega, fun x hm => ?_⟩, by omega, Ent.chk (by simp [go_sem, hw])⟩
      rw [htk] at hm
      rcases List.mem_append.1 hm with hm | hm
      · exact ht x hm
      · rw [List.mem_singleton.1 hm]; exact hc
    · have hc' : (60 : Int) < h.things.length := by omega
      have hno : ¬ ∀ x ∈ l, x.things.length ≤ 60 := fun hh => hc (hh h (List.mem_of_getElem? hx))
      simp [go_sem, hlt, hlt', hx, gE hx, hc', hno]
      exact ⟨h, List.mem_of_getElem? hx, by omega⟩
  · have hil : i = l.length := by omega
    subst hil
    rw [List.take_length] at ht
    have hall : ∀ x ∈ l, x.things.length ≤ 60 := ht
    simp [go_sem]
    exact hall
end Go.Proofs.YtinhfnbmgmociaaGreatDoor.Ab

namespace Go.Proofs.YtinhfnbmgmociaaGreatDoor.Ab
open Go.RowKit
set_option linter.unusedVariables false
set_option linter.unusedSimpArgs false

theorem tab_may {l : List Held} (ht : isTab l = true) {h : Held} (hm : h ∈ l) : mayH h = true := by
  obtain ⟨i, hi⟩ := List.getElem?_of_mem hm
  have hlt := (List.getElem?_eq_some_iff.1 hi).1
  unfold isTab at ht
  simp only [Bool.and_eq_true] at ht
  have := tabTo_may ht.2 hlt
  rwa [hd_get hi] at this
theorem may_to {h : Held} (hm : mayH h = true) : 0 ≤ h.fr ∧ h.fr < h.to ∧ h.to ≤ 4611686018427387904 := by
  unfold mayH isWhen at hm
  simp only [Bool.and_eq_true, decide_eq_true_eq] at hm
  omega
/-- The least that is later, of some. -/
def bestSpec (cur : Int) (l : List Held) (b : Int) : Prop := (b = -1 ∧ ∀ h ∈ l, ¬ cur < h.to) ∨ (0 ≤ b ∧ cur < b ∧ (∃ h ∈ l, h.to = b) ∧ ∀ h ∈ l, cur < h.to → b ≤ h.to)
theorem best_snoc {cur : Int} {l : List Held} {b : Int} {h : Held} (hb : bestSpec cur l b) (h0 : 0 ≤ h.to) : bestSpec cur (l ++ [h]) (if cur < h.to ∧ (b < 0 ∨ h.to < b) then h.to else b) := by
  have hmem : ∀ x, x ∈ l ++ [h] ↔ x ∈ l ∨ x = h := fun x => by simp
  split
  · rename_i hc
    refine .inr ⟨h0, hc.1, ⟨h, by simp, rfl⟩, fun x hx hcx => ?_⟩
    rcases (hmem x).1 hx with hx | rfl
    · rcases hb with ⟨rfl, hno⟩ | ⟨q1, q2, q3, q4⟩
      · exact (hno x hx hcx).elim
      · have := q4 x hx hcx; omega
    · exact Int.le_refl _
  · rename_i hc
    rcases hb with ⟨rfl, hno⟩ | ⟨q1, q2, ⟨y, q3, q3'⟩, q4⟩
    · refine .inl ⟨rfl, fun x hx hcx => ?_⟩
      rcases (hmem x).1 hx with hx | rfl
      · exact hno x hx hcx
      · exact hc ⟨hcx, .inl (by decide)⟩
    · refine .inr ⟨q1, q2, ⟨y, (hmem y).2 (.inl q3), q3'⟩, fun x hx hcx => ?_⟩
      rcases (hmem x).1 hx with hx | rfl
      · exact q4 x hx hcx
      · have : ¬ (b < 0 ∨ x.to < b) := fun h => hc ⟨hcx, h⟩
        omega
/-- How far the reference has come. -/
def endsInv (l : List Held) (f cur : Int) (out : List Int) : Prop := ∃ rest, cmpL (sortL (tosOf l f)) = out ++ rest ∧ f ≤ cur ∧ (∀ x ∈ out, x ≤ cur) ∧ ∀ x ∈ rest, cur < x
theorem ends_start (l : List Held) (f : Int) : endsInv l f f [] := ⟨cmpL (sortL (tosOf l f)), rfl, Int.le_refl _, fun x h => (by cases h), fun x hx => by
  rw [(cmp_sort _).2, tosOf_mem] at hx
  obtain ⟨_, _, _, h⟩ := hx; exact h⟩
theorem ends_done {l : List Held} {f cur : Int} {out : List Int} (hi : endsInv l f cur out) {b : Int} (hb : bestSpec cur l b) (h0 : b < 0) : cmpL (sortL (tosOf l f)) = out := by
  obtain ⟨rest, e, h1, h2, h3⟩ := hi
  rcases hb with ⟨_, hno⟩ | ⟨q, _⟩
  · have hr : rest = [] := by
      rcases hrest : rest with _ | ⟨x, r⟩
      · rfl
      · exfalso
        have hx : x ∈ cmpL (sortL (tosOf l f)) := by rw [e, hrest]; simp
        rw [(cmp_sort _).2, tosOf_mem] at hx
        obtain ⟨h, hm, he, _⟩ := hx
        have := h3 x (by rw [hrest]; simp)
        exact hno h hm (by rw [he]; exact this)
    rw [e, hr, List.append_nil]
  · omega
theorem ends_next {l : List Held} {f cur : Int} {out : List Int} (hi : endsInv l f cur out) {b : Int} (hb : bestSpec cur l b) (h0 : ¬ b < 0) : endsInv l f b (out ++ [b]) ∧ out.length < (cmpL (sortL (tosOf l f))).length := by
  obtain ⟨rest, e, h1, h2, h3⟩ := hi
  rcases hb with ⟨rfl, _⟩ | ⟨q1, q2, ⟨y, q3, rfl⟩, q4⟩
  · exact (h0 (by decide)).elim
  have hs := (cmp_sort (tosOf l f)).1
  have hy : y.to ∈ out ++ rest := by rw [← e, (cmp_sort _).2, tosOf_mem]; exact ⟨y, q3, rfl, by omega⟩
  have hyr : y.to ∈ rest := by
    rcases List.mem_append.1 hy with h | h
    · have := h2 _ h; omega
    · exact h
  rcases hrest : rest with _ | ⟨x, r⟩
  · rw [hrest] at hyr; cases hyr
  have hx : x ∈ cmpL (sortL (tosOf l f)) := by rw [e, hrest]; simp
  have hcx := h3 x (by rw [hrest]; simp)
  rw [(cmp_sort _).2, tosOf_mem] at hx
  obtain ⟨h, hm, rfl, _⟩ := hx
  have hle := q4 h hm hcx
  rw [e, hrest, List.pairwise_append] at hs
  have hp := List.pairwise_cons.1 hs.2.1
  have heq : y.to = h.to := by
    rw [hrest] at hyr
    rcases List.mem_cons.1 hyr with h9 | h9
    · exact h9
    · have := hp.1 _ h9; omega
  refine ⟨⟨r, ?_, by omega, fun z hz => ?_, fun z hz => ?_⟩, ?_⟩
  · rw [e, hrest, heq, List.append_assoc]; rfl
  · rcases List.mem_append.1 hz with hz | hz
    · have := h2 z hz; omega
    · rw [List.mem_singleton.1 hz]; exact Int.le_refl _
  · rw [heq]; exact hp.1 z hz
  · rw [e, hrest, List.length_append]; simp
end Go.Proofs.YtinhfnbmgmociaaGreatDoor.Ab

namespace Go.Proofs.YtinhfnbmgmociaaGreatDoor.Ab
open Go.RowKit
set_option linter.unusedVariables false
set_option linter.unusedSimpArgs false

section
variable {P : Program} {Q : Exit → St → Prop} {D : List Nat} {ops : Array Oper} {o : Oper} {l : List Oper} {fs : List Ft} {k : List Fr} {st : St}
theorem takes_wp {f : FuncId} {xs : Array Operand} {ts : Array TypeId} {t d sz : Nat} {old new : List SV} (X : AV) (ho : o.op = .call { callee := .value (.func f), args := xs, argTypes := ts })
    (hm : lk st.m t = some (.row sz old)) (hd : o.dst = some d) (hf : st.fresh d = true) (hn : d < st.n) (hcall : ∀ (cargs : Array Value) (w : World), (callFunc f cargs).run P w = .ok (.enter f cargs) w)
    {keep : Nat → Prop} {w : World} {E : Env} {a : Act} (hI : Inv keep w E st a)
    (hc : Calls P f (xs.map a.eval) w (fun ex w' => ∃ (x : Option (Nat × Nat × Nat)) (v : Value), Took w E t sz new ex w' x v ∧ RepV w' (E.set d x) (lk (up (rm st.m t) d (.row sz new))) X v))
    {N : Act → World → Prop} {Q : Exit → Act → World → Prop} (hN : ∀ a' w' E', Inv keep w' E' { st with t := up st.t d X, m := up (rm st.m t) d (.row sz new) } a' → Evo keep w E w' E' → N a' w') : o.wp P a w N Q := by
  have hrun : (execOp a.eval o).run P w = .ok (.enter f (xs.map a.eval)) w := by
    unfold execOp
    rw [ho]
    simp [resolve, Deferred.ofValue, Act.eval, invoke, hcall]
  unfold Oper.wp
  rw [hrun, Oper.upon_enter]
  refine hc.mono ?_
  rintro e w' ⟨x, v, ⟨rfl, h1, h2, h3, h4, h5⟩, h6⟩
  have hold : ∀ i, i < w.heap.size → (∀ o c s, lk st.m t = some o → E.at_ t = some (i, c, s) → False) → w'.heap[i]? = w.heap[i]? := fun i hi hh => h3 i hi fun c s hx => hh _ c s hm hx
  have hA : Inv keep w' (E.set d x) { st with m := up (rm st.m t) d (.row sz new) } a :=
    hI.re hf h2 hold (fun g c s hx => (h4 g c s hx).imp (fun h => h) (fun ⟨c', s', h⟩ => ⟨_, c', s', hm, h⟩)) (by
      unfold OMem at h5
      have : (E.set d x).at_ d = x := by simp [Env.set]
      simp only [MemRep] at h5 ⊢
      rw [this]
      exact h5)
  have hB := hA.put (dst := some d) (x := X) (v := v) (by simpa [St.fitsDst] using hn) h6
  have hev : Evo keep w E w' (E.set d x) := Evo.re hI (t := t) h1 h2 hold rfl (Env.set_pin (St.fresh_pin hf))
  have hB' : Inv keep w' (E.set d x) { st with t := up st.t d X, m := up (rm st.m t) d (.row sz new) } (a.put o.dst v) := by
    rw [hd]
    exact hB
  exact hN _ _ _ hB' hev
def ftT (ops : Array Oper) (o : Oper) (d t : Nat) (X : AV) (ob : Obj') : Ft := ⟨usesT ops o, [t], [], some (d, X), [(d, some ob), (t, none)], some d, true, []⟩
theorem OpD.takes {f : FuncId} {xs : Array Operand} {ts : Array TypeId} {t d sz : Nat} {old new : List SV} (X : AV) (ho : o.op = .call { callee := .value (.func f), args := xs, argTypes := ts }) (hg : grd ops st o = some true)
    (hm : lk st.m t = some (.row sz old)) (hd : o.dst = some d) (hn : d < st.n) (hcall : ∀ (cargs : Array Value) (w : World), (callFunc f cargs).run P w = .ok (.enter f cargs) w)
    (hc : ∀ s : St, s.n = st.n → (∀ x ∈ o.op.operands, aval s x = aval st x) → lk s.m t = some (.row sz old) → ∀ (keep : Nat → Prop) (w : World) (E : Env) (a : Act), Inv keep w E s a →
      Calls P f (xs.map a.eval) w (fun ex w' => ∃ (x : Option (Nat × Nat × Nat)) (v : Value), Took w E t sz new ex w' x v ∧ RepV w' (E.set d x) (lk (up (rm s.m t) d (.row sz new))) X v))
    (h : Ab.rd P Q D ops l (ftT ops o d t X (.row sz new) :: fs) k { st with t := up st.t d X, m := up (rm st.m t) d (.row sz new) }) : OpD P Q D ops o l fs k st := by
  refine OpD.heavy (f := ftT ops o d t X (.row sz new)) ?_ h
  refine ⟨⟨fun hv => (by cases hv), fun t' cs h => (by
    simp only [ftT, lk] at h
    split at h
    · cases h
    · split at h <;> cases h)⟩, fun s hn' hT hM _ hF keep w E a hI N Q hN => ?_⟩
  obtain ⟨s2, e1, e2, e3, e4⟩ := (hF d rfl).list
  have hg' : grd ops s2 o = some true := by rw [grd_agr (st := st) (fun e he => by rw [e2]; exact hT e he)]; exact hg
  have hI2 : Inv keep w E s2 a := hI.le ⟨e1.symm, fun e x hx => by rw [← e2]; exact hx, fun e x hx => by rw [← e3]; exact hx⟩
  rw [if_pos (grd_run hI2 hg')]
  have hm2 : lk s2.m t = some (.row sz old) := by rw [e3, hM t List.mem_cons_self]; exact hm
  obtain ⟨u1, u2⟩ := upd_lk (s := s) (s2 := s2) (ftT ops o d t X (.row sz new)) e2 e3
  refine takes_wp X ho hm2 hd e4 (by rw [e1, hn']; exact hn) hcall hI2 (hc s2 (e1.trans hn') (aval_agr (fun e he => by rw [e2]; exact hT e he)) hm2 keep w E a hI2) fun a' w' E' k1 k2 => hN a' w' E' ?_ k2
  have k3 : Inv keep w' E' (s2.upd (ftT ops o d t X (.row sz new))) a' := k1
  exact k3.le ⟨e1, fun e x hx => by rw [u1]; exact hx, fun e x hx => by rw [u2]; exact hx⟩
end
/-! ### Tables that are turned -/
def noH : Held := ⟨0, [], 0, 0⟩
def insH (l : List Held) (i : Nat) (h : Held) : List Held := l.take i ++ [h] ++ l.drop i
def delH (l : List Held) (i : Nat) : List Held := l.take i ++ l.drop (i + 1)
theorem insH_map (l : List Held) (i : Nat) (h : Held) : insAt (l.map heldSV) i (heldSV h) = (insH l i h).map heldSV := by unfold insAt insH; simp [List.map_take, List.map_drop]
theorem delH_map (l : List Held) (i : Nat) : delAt (l.map heldSV) i = (delH l i).map heldSV := by unfold delAt delH; simp [List.map_take, List.map_drop]
def anyClash (l : List Held) (h : Held) : Bool := l.any fun x => clashB x h
def addL (l : List Held) (h : Held) : List Held × Int :=
  if isTab l = true ∧ mayH h = true then (if isAt l h.id = true then (l, 7) else if l.length = 256 ∨ anyClash l h = true then (l, 5) else (insH l (lowAt l h.id) h, 0)) else (l, 1)
def dropL (l : List Held) (id : Int) : List Held × Held × Int :=
  if isTab l = true then (if isAt l id = true then (delH l (lowAt l id), hd l (lowAt l id), 0) else (l, noH, 6)) else (l, noH, 1)
def getL (l : List Held) (id : Int) : Held × Bool := if isTab l = true ∧ isAt l id = true then (hd l (lowAt l id), true) else (noH, false)
def cutL (l : List Held) (id to : Int) : List Held × Int :=
  if isTab l = true then (if isAt l id = true then (if to ≤ (hd l (lowAt l id)).fr ∨ (hd l (lowAt l id)).to < to then (l, 1) else (l.set (lowAt l id) { hd l (lowAt l id) with to := to }, 0)) else (l, 6)) else (l, 1)
theorem at_low {l : List Held} (hs : sortedId l) {i : Nat} {h : Held} {id : Int} (hx : l[i]? = some h) (he : h.id = id) : i = lowAt l id := by
  have h1 := lowAt_iff hs (id := id) hx
  have h2 : ¬ i < lowAt l id := by rw [← h1]; omega
  have hlt := (List.getElem?_eq_some_iff.1 hx).1
  rcases Nat.lt_or_ge (lowAt l id) i with h3 | h3
  · exfalso
    have hlt2 : lowAt l id < l.length := by omega
    have h4 := lowAt_iff hs (id := id) (List.getElem?_eq_getElem hlt2)
    have h5 : ¬ l[lowAt l id].id < id := by rw [h4]; omega
    have h6 := List.pairwise_iff_getElem.1 hs (lowAt l id) i hlt2 hlt h3
    have h7 : l[i] = h := gE hx hlt
    rw [h7] at h6
    omega
  · omega
end Go.Proofs.YtinhfnbmgmociaaGreatDoor.Ab

namespace Go.Proofs.YtinhfnbmgmociaaGreatDoor.Ab
open Go.RowKit
set_option linter.unusedVariables false
set_option linter.unusedSimpArgs false

set_option maxHeartbeats 8000000 in
set_option maxRecDepth 100000 in
theorem heldAdd_c (l : List Held) (h : Held) (hl : l.length ≤ 1000000000) (hh : Helds l) (hx : h.things.length ≤ 140737488355) : ACalls Tryz.prog 21 [helds l, heldSV h] (· = .many [.sv (helds (addL l h).1), .sv (iv (addL l h).2)]) := by
  refine ACalls.of_bodyS (fun _ _ => Tryz.call21 _ _) Tryz.func21 rfl Tryz.ntmps21 (by simp) ?_
  refine Tr.ex ?_
  unfold addL
  simp [go_sem]
  refine OpW.fn false (clone_c l hl hh) rfl rfl (by simp [go_sem]) (fun h => by cases h) ?_
  rintro r rfl
  simp [go_sem]
  refine OpW.fn true (heldRight_c l (by omega) hh) rfl rfl (by simp [go_sem]) (by rintro _ r rfl; simp [go_sem]) ?_
  rintro r rfl
  cases ht : isTab l with
  | false => simp [go_sem]
  | true =>
    have htl := tab_len ht
    have hso := tab_sorted ht
    simp [go_sem]
    refine OpW.fn true (hmay_c h (by omega)) rfl rfl (by simp [go_sem]) (by rintro _ r rfl; simp [go_sem]) ?_
    rintro r rfl
    cases hm : mayH h with
    | false => simp [go_sem]
    | true =>
      simp [go_sem]
      refine OpW.fn true (find_c l h.id hso htl) rfl rfl (by simp [go_sem]) (by rintro _ r rfl; simp [go_sem]) ?_
      rintro r rfl
      cases hat : isAt l h.id with
      | true => simp [go_sem]
      | false =>
        have hcl := fun x (hx2 : x ∈ l) => hAdd1_c x h (by have := hh x hx2; omega) (by omega)
        have hlow := lowAt_le l h.id
        by_cases hfull : l.length = 256
        case pos =>
          have e1 : ((l.length : Int) == 256) = true := by simp; omega
          simp [go_sem, hfull, e1]
        have e1 : ((l.length : Int) == 256) = false := by simp; omega
        simp [go_sem, hfull, e1]
        have hcf : ACalls Tryz.prog 32 [helds l, .fn 38 [.ref (heldSV h) 0]] (· = .one (.sv (bv (anyClash l h)))) := hContainsFunc_c l 38 [.ref (heldSV h) 0] (fun x => clashB x h) (by omega) hcl
        refine OpW.fn true hcf rfl rfl (by simp [go_sem]) (by rintro _ r rfl; simp [go_sem]) ?_
        rintro r rfl
        cases hc : anyClash l h with
        | true => simp [go_sem]
        | false =>
          simp [go_sem]
          refine OpW.fn false (copied_c h hx) rfl rfl (by simp [go_sem]) (fun h => by cases h) ?_
          rintro r rfl
          simp [go_sem]
          have hmap := insH_map l (lowAt l h.id) h
          refine OpW.insert (old := l.map heldSV) (h := heldSV h) (i := lowAt l h.id) 10 44 45 rfl rfl rfl rfl rfl (by simp [go_sem]) (by simp) (by simp [go_sem]) (by simp [go_sem]) (by simp [go_sem]) (by simp [go_sem]) (by simp [go_sem]) (by decide) (by simpa using hlow) (by simp; omega) ?_
          rw [hmap]
          simp [go_sem]
theorem isAt_get {l : List Held} (hs : sortedId l) {id : Int} (ha : isAt l id = true) : lowAt l id < l.length ∧ l[lowAt l id]? = some (hd l (lowAt l id)) ∧ (hd l (lowAt l id)).id = id := by
  obtain ⟨h, h1, h2⟩ := (isAt_low hs).1 ha
  have := hd_get h1
  rw [this]
  exact ⟨(List.getElem?_eq_some_iff.1 h1).1, h1, h2⟩
end Go.Proofs.YtinhfnbmgmociaaGreatDoor.Ab

namespace Go.Proofs.YtinhfnbmgmociaaGreatDoor.Ab
open Go.RowKit
set_option linter.unusedVariables false
set_option linter.unusedSimpArgs false

theorem OpD.bslice0 {P : Program} {Q : Exit → St → Prop} {D : List Nat} {ops : Array Oper} {o : Oper} {l : List Oper} {fs : List Ft} {k : List Fr} {st : St} {ty e : TypeId} {d : Nat} (ho : o.op = .buildSlice ty 0 #[]) (hd : o.dst = some d) (hg : grd ops st o = some true) (hn : d < st.n) (he : selem P ty = some e) (hp : 0 < tsz P e)
    (h : Ab.rd P Q D ops l (ftN ops o [] d (.own d) (.row (tsz P e) []) [] :: fs) k { st with t := up st.t d (.own d), m := up st.m d (.row (tsz P e) []) }) : OpD P Q D ops o l fs k st :=
  OpD.heavy (locH (d := d) hg rfl rfl rfl ftN_row fun s hs hT _ hf => does_build0 ho hd hf (by omega) he hp) h
theorem r10At_c (l : List Held) (id : Int) (hl : l.length ≤ 256) (hs : sortedId l) : ACalls Tryz.prog 46 [helds l, iv id] (· = .one (.sv (iv (if isAt l id = true then (lowAt l id : Int) else -1)))) := by
  refine ACalls.of_bodyS (fun _ _ => Tryz.call46 _ _) Tryz.func46 rfl Tryz.ntmps46 (by simp) ?_
  refine Tr.ex ?_
  have hno : (∀ h ∈ l, ¬ h.id = id) → isAt l id = false := fun h => by unfold isAt; rw [List.any_eq_false]; intro x hx; simpa using h x hx
  simp [go_sem]
  refine LoopW.of (fun i : Nat => ⟨20, [(0, .sv (helds l)), (1, .sv (iv id)), (4, .sv (iv 0)), (5, .sv (iv i))], []⟩)
    (fun i => i ≤ l.length ∧ ∀ h ∈ l.take i, ¬ h.id = id) (fun i => l.length - i) 0 ⟨by omega, by simp⟩ (Ent.chk (by simp [go_sem])) ?_
  rintro i ⟨hi, ht⟩
  by_cases hlt : i < l.length
  · have hlt' : (i : Int) < l.length := by omega
    have hw : IntKind.i64.wrap ((i : Int) + 1) = (i : Int) + 1 := by rw [i64w] <;> omega
    obtain ⟨h, hx⟩ : ∃ h, l[i]? = some h := ⟨_, List.getElem?_eq_getElem hlt⟩
    have htk : l.take (i + 1) = l.take i ++ [h] := by rw [List.take_succ_eq_append_getElem hlt, gE hx]
    by_cases e : h.id = id
    · have h1 := at_low hs hx e
      have h2 : isAt l id = true := by unfold isAt; rw [List.any_eq_true]; exact ⟨h, List.mem_of_getElem? hx, by simpa using e⟩
      rw [h2, if_pos rfl, ← h1]
      simp [go_sem, hlt, hlt', hx, gE hx, e]
    · have e' : (h.id == id) = false := by simpa using e
      simp [go_sem, hlt, hlt', hx, gE hx, e']
      refine ⟨i + 1, ⟨by omega, fun x hm => ?_⟩, by omega, Ent.chk (by simp [go_sem, hw])⟩
      rw [htk] at hm
      rcases List.mem_append.1 hm with hm | hm
      · exact ht x hm
      · rw [List.mem_singleton.1 hm]; exact e
  · have hil : i = l.length := by omega
    subst hil
    rw [List.take_length] at ht
    rw [hno ht]
    simp [go_sem]
def outA (l : List Held) (h : Held) (m i : Nat) : List Held := if m < i then insH (l.take i) m h else l.take i
theorem outA_len (l : List Held) (h : Held) (m i : Nat) (hi : i ≤ l.length) : (outA l h m i).length ≤ i + 1 := by
  unfold outA insH; split
  · rw [List.length_append, List.length_append, List.length_take, List.length_drop, List.length_take]; simp; omega
  · rw [List.length_take]; omega
theorem outA_put {l : List Held} {h x : Held} {i : Nat} (hx : l[i]? = some x) : outA l h i (i + 1) = outA l h i i ++ [h] ++ [x] := by
  have hlt := (List.getElem?_eq_some_iff.1 hx).1
  unfold outA insH
  rw [if_pos (by omega), if_neg (by omega), List.take_succ_eq_append_getElem hlt, gE hx hlt]
  have hl : (l.take i).length = i := by rw [List.length_take]; omega
  rw [List.take_left' hl, List.drop_left' hl]
theorem outA_after {l : List Held} {h x : Held} {m i : Nat} (hx : l[i]? = some x) (hm : m < i) : outA l h m (i + 1) = outA l h m i ++ [x] := by
  have hlt := (List.getElem?_eq_some_iff.1 hx).1
  unfold outA insH
  rw [if_pos (by omega), if_pos hm, List.take_succ_eq_append_getElem hlt, gE hx hlt]
  have hl : (l.take i).length = i := by rw [List.length_take]; omega
  rw [List.take_append_of_le_length (by omega), List.drop_append_of_le_length (by omega)]
  simp
theorem outA_before {l : List Held} {h x : Held} {m i : Nat} (hx : l[i]? = some x) (hm : i < m) : outA l h m (i + 1) = outA l h m i ++ [x] := by
  have hlt := (List.getElem?_eq_some_iff.1 hx).1
  unfold outA
  rw [if_neg (by omega), if_neg (by omega), List.take_succ_eq_append_getElem hlt, gE hx hlt]
set_option maxHeartbeats 8000000 in
set_option maxRecDepth 100000 in
theorem r10Add_c (l : List Held) (h : Held) (hl : l.length ≤ 1000000000) (hh : Helds l) (hx : h.things.length ≤ 140737488355) : ACalls Tryz.prog 25 [helds l, heldSV h] (· = .many [.sv (helds (addL l h).1), .sv (iv (addL l h).2)]) := by
  refine ACalls.of_bodyS (fun _ _ => Tryz.call25 _ _) Tryz.func25 rfl Tryz.ntmps25 (by simp) ?_
  refine Tr.ex ?_
  unfold addL
  simp [go_sem]
  refine OpW.fn true (r10Right_c l (by omega) hh) rfl rfl (by simp [go_sem]) (by rintro _ r rfl; simp [go_sem]) ?_
  rintro r rfl
  cases ht : isTab l with
  | false => simp [go_sem]
  | true =>
    have htl := tab_len ht
    have hso := tab_sorted ht
    simp [go_sem]
    refine OpW.fn true (rMay_c h (by omega)) rfl rfl (by simp [go_sem]) (by rintro _ r rfl; simp [go_sem]) ?_
    rintro r rfl
    cases hm : mayH h with
    | false => simp [go_sem]
    | true =>
      simp [go_sem]
      refine OpW.fn true (r10At_c l h.id htl hso) rfl rfl (by simp [go_sem]) (by rintro _ r rfl; simp [go_sem]) ?_
      rintro r rfl
      cases hat : isAt l h.id with
      | true =>
        have h0 : (0 : Int) ≤ lowAt l h.id := by omega
        simp [go_sem, h0]
      | false =>
        have hiff := fun {i : Nat} {x : Held} (hx : l[i]? = some x) => lowAt_iff hso (id := h.id) hx
        have hne : ∀ x ∈ l, ¬ x.id = h.id := fun x hx e => by
          have : isAt l h.id = true := by unfold isAt; rw [List.any_eq_true]; exact ⟨x, hx, by simpa using e⟩
          rw [this] at hat; cases hat
        have hlow := lowAt_le l h.id
        by_cases hfull : l.length = 256
        case pos =>
          have e1 : (256 : Int) ≤ l.length := by omega
          simp [go_sem, hfull, e1]
        have e1 : ¬ (256 : Int) ≤ l.length := by omega
        simp [go_sem, hfull, e1]
        generalize lowAt l h.id = m at *
        refine LoopW.of (fun i : Nat => ⟨71, [(0, .sv (helds l)), (3, .box 3 0), (4, .nil), (5, .sv (iv 0)), (6, .own 6), (7, .sv (bv (decide (m < i)))), (8, .sv (iv i))], [(3, .box [.sv (iv h.id), .sv (ints h.things), .sv (iv h.fr), .sv (iv h.to)]), (6, .row 4 ((outA l h m i).map heldSV))]⟩)
          (fun i => i ≤ l.length ∧ ∀ x ∈ l.take i, clashB x h = false) (fun i => l.length - i) 0 ⟨by omega, by simp⟩ (Ent.thaw 6 6 4 (by simp [go_sem]) (by simp [go_sem]) (by decide) (Ent.chk (by simp [go_sem, outA]))) ?_
        rintro i ⟨hi, hcl⟩
        by_cases hlt : i < l.length
        · have hlt' : (i : Int) < l.length := by omega
          have hw : IntKind.i64.wrap ((i : Int) + 1) = (i : Int) + 1 := by rw [i64w] <;> omega
          obtain ⟨x, hx⟩ : ∃ h, l[i]? = some h := ⟨_, List.getElem?_eq_getElem hlt⟩
          have hmem := List.mem_of_getElem? hx
          have htk : l.take (i + 1) = l.take i ++ [x] := by rw [List.take_succ_eq_append_getElem hlt, gE hx]
          have hi2 := hiff hx
          have hnx := hne x hmem
          have hol := outA_len l h m i hi
          simp [go_sem, hlt, hlt', hx, gE hx]
          refine DrawW.rd rfl ?_
          simp [go_sem, hlt, hlt', hx, gE hx]
          refine OpD.call false (rclash_c x h (mayH_set (tab_may ht hmem)) (mayH_set hm)) rfl rfl (by simp [go_sem]) (fun h => by cases h) (by simp [go_sem]) (by simp [go_sem]) ?_
          cases hc : clashB x h with
          | true =>
            have hany : anyClash l h = true := by unfold anyClash; rw [List.any_eq_true]; exact ⟨x, hmem, hc⟩
            rw [hany]
            simp [go_sem]
            show _ = true
            kernel_rfl
          | false =>
            have hcl2 : ∀ y ∈ l.take (i + 1), clashB y h = false := fun y hy => by
              rw [htk] at hy
              rcases List.mem_append.1 hy with hy | hy
              · exact hcl y hy
              · rw [List.mem_singleton.1 hy]; exact hc
            simp [go_sem]
            refine ⟨by kernel_rfl, ?_⟩
            refine DrawW.rd rfl ?_
            by_cases c1 : m < i
            · have hs := outA_after (h := h) hx c1
              have c2 : m < i + 1 := by omega
              generalize outA l h m i = out at *
              simp [go_sem, hlt, hlt', hx, gE hx, c1]
              refine ⟨by kernel_rfl, ?_⟩
              refine ⟨by omega, i + 1, ⟨by omega, hcl2⟩, by omega, Ent.rename2 63 6 (by simp [go_sem]) (Ent.chk (by simp [go_sem, hw, hs, c1, c2]))⟩
            · by_cases c3 : h.id < x.id
              · have hmi : m = i := by
                  have : ¬ i < m := by rw [← hi2]; omega
                  omega
                subst hmi
                have hs := outA_put (h := h) hx
                generalize outA l h m m = out at *
                simp [go_sem, hlt, hlt', hx, gE hx, c3]
                refine ⟨by kernel_rfl, ?_⟩
                refine ⟨by omega, by omega, m + 1, ⟨by omega, hcl2⟩, by omega, Ent.rename2 63 6 (by simp [go_sem]) (Ent.chk (by simp [go_sem, hw, hs]))⟩
              · have him : i < m := by rw [← hi2]; omega
                have hs := outA_before (h := h) hx him
                have c4 : ¬ m < i + 1 := by omega
                generalize outA l h m i = out at *
                simp [go_sem, hlt, hlt', hx, gE hx, c1, c3]
                refine ⟨by kernel_rfl, ?_⟩
                refine ⟨by omega, i + 1, ⟨by omega, hcl2⟩, by omega, Ent.rename2 63 6 (by simp [go_sem]) (Ent.chk (by simp [go_sem, hw, hs, c1, c4]))⟩
        · have hil : i = l.length := by omega
          subst hil
          rw [List.take_length] at hcl
          have hany : anyClash l h = false := by unfold anyClash; rw [List.any_eq_false]; intro x hx2; simp [hcl x hx2]
          rw [hany]
          by_cases c1 : m < l.length
          · have hs : outA l h m l.length = insH l m h := by unfold outA; rw [if_pos c1, List.take_length]
            rw [hs]
            simp [go_sem, c1]
          · have hml : m = l.length := by omega
            subst hml
            have hs : outA l h l.length l.length = l := by unfold outA; rw [if_neg (by omega), List.take_length]
            have hs2 : insH l l.length h = l ++ [h] := by unfold insH; simp
            rw [hs, hs2]
            simp [go_sem]
            omega
end Go.Proofs.YtinhfnbmgmociaaGreatDoor.Ab

namespace Go.Proofs.YtinhfnbmgmociaaGreatDoor.Ab
open Go.RowKit
set_option linter.unusedVariables false
set_option linter.unusedSimpArgs false

theorem Lend_c (l : List Held) (hl : l.length ≤ 1000000000) (hh : Helds l) : ACalls Tryz.prog 7 [helds l] (· = .one (.sv (helds l))) := by
  refine ACalls.of_bodyS (fun _ _ => Tryz.call7 _ _) Tryz.func7 rfl Tryz.ntmps7 (by simp) ?_
  refine Tr.ex ?_
  simp [go_sem]
  refine LoopW.of (fun i : Nat => ⟨26, [(0, .sv (helds l)), (2, .nil), (3, .own 3), (4, .sv (iv i))], [(3, .row 4 ((l.take i).map heldSV))]⟩)
    (fun i => i ≤ l.length) (fun i => l.length - i) 0 (by omega) (Ent.thaw 3 3 4 (by simp [go_sem]) (by simp [go_sem]) (by decide) (Ent.chk (by simp [go_sem]))) ?_
  intro i hi
  by_cases hlt : i < l.length
  · have hlt' : (i : Int) < l.length := by omega
    have hw : IntKind.i64.wrap ((i : Int) + 1) = (i : Int) + 1 := by rw [i64w] <;> omega
    obtain ⟨h, hx⟩ : ∃ h, l[i]? = some h := ⟨_, List.getElem?_eq_getElem hlt⟩
    have hhl := hh h (List.mem_of_getElem? hx)
    have htk : l.take (i + 1) = l.take i ++ [h] := by rw [List.take_succ_eq_append_getElem hlt, gE hx]
    have hmin : min i l.length = i := by omega
    have htk2 : (l.map heldSV).take (i + 1) = (l.map heldSV).take i ++ [heldSV h] := by rw [← List.map_take, ← List.map_take, htk, List.map_append]; rfl
    simp [go_sem, hlt, hlt', hx, gE hx]
    refine ⟨by omega, ?_⟩
    refine OpW.frz 19 (OpW.go ?_)
    simp [go_sem, hmin]
    exact ⟨by omega, i + 1, by omega, by omega, Ent.rename2 24 3 (by simp [go_sem]) (Ent.chk (by simp [go_sem, hw, htk2]))⟩
  · have hil : i = l.length := by omega
    subst hil
    simp [go_sem]
end Go.Proofs.YtinhfnbmgmociaaGreatDoor.Ab

namespace Go.Proofs.YtinhfnbmgmociaaGreatDoor.Ab
open Go.RowKit
set_option linter.unusedVariables false
set_option linter.unusedSimpArgs false

def awA : Held := ⟨1, [2, 3], 0, 5⟩
def awB : Held := ⟨2, [3], 4, 9⟩
def awC : Held := ⟨2, [3], 5, 9⟩
theorem aw10_1 : addL [] awA = ([awA], 0) := by kernel_rfl
theorem aw10_2 : addL [awA] awB = ([awA], 5) := by kernel_rfl
theorem aw10_3 : addL [awA] awC = ([awA, awC], 0) := by kernel_rfl
theorem aw10_4 : (busyL [awA, awC] 0 9).length = 2 := by kernel_rfl
theorem aw10_5 : endsL [awA, awC] 0 = [5, 9] := by
  have h0 : isTab [awA, awC] = true := by kernel_rfl
  have h1 : tosOf [awA, awC] 0 = [5, 9] := by kernel_rfl
  have h := cmp_sort [5, 9]
  unfold endsL
  rw [if_pos h0, h1]
  exact sorted_ext h.1 (by decide) (fun n => h.2 n)
theorem awA_t : Helds [awA] := by intro h hh; simp at hh; subst hh; decide
theorem awC_t : Helds [awA, awC] := by intro h hh; simp at hh; rcases hh with rfl | rfl <;> decide
end Go.Proofs.YtinhfnbmgmociaaGreatDoor.Ab

namespace Go.Proofs.YtinhfnbmgmociaaGreatDoor.Ab
open Go.RowKit
set_option linter.unusedVariables false
set_option linter.unusedSimpArgs false

def tabR (a b : Held) : Prop := a.id < b.id ∧ clashB a b = false
theorem tabTo_iff (l : List Held) : ∀ i, i ≤ l.length → (tabTo l i = true ↔ (∀ h ∈ l.take i, mayH h = true) ∧ (l.take i).Pairwise tabR) := by
  intro i
  induction i with
  | zero => intro _; simp [tabTo]
  | succ i ih =>
    intro hi
    have hlt : i < l.length := by omega
    obtain ⟨x, hx⟩ : ∃ x, l[i]? = some x := ⟨_, List.getElem?_eq_getElem hlt⟩
    have hr : rowOk l i = (mayH x && (i == 0 || decide ((hd l (i - 1)).id < x.id)) && !(l.take i).any (fun y => clashB y x)) := by unfold rowOk; rw [hd_get hx]
    rw [tabTo_succ, Bool.and_eq_true, ih (by omega), hr, List.take_succ_eq_append_getElem hlt, gE hx, List.pairwise_append]
    simp only [Bool.and_eq_true, Bool.or_eq_true, Bool.not_eq_true', beq_iff_eq, decide_eq_true_eq]
    have hmem : ∀ h, h ∈ l.take i ++ [x] ↔ h ∈ l.take i ∨ h = x := fun h => by simp
    constructor
    · rintro ⟨⟨h1, h2⟩, ⟨h3, h4⟩, h5⟩
      refine ⟨fun h hh => ?_, h2, by simp, fun a ha b hb => ?_⟩
      · rcases (hmem h).1 hh with hh | rfl
        · exact h1 h hh
        · exact h3
      · rw [List.mem_singleton.1 hb]
        refine ⟨?_, ?_⟩
        · obtain ⟨j, hj⟩ := List.getElem?_of_mem ha
          rw [List.getElem?_take] at hj
          split at hj
          case isFalse => cases hj
          rename_i hji
          rcases h4 with h4 | h4
          · omega
          · by_cases e : j = i - 1
            · subst e; rw [hd_get hj] at h4; exact h4
            · have hlp : i - 1 < l.length := by omega
              have h6 : (l.take i)[j]? = some a := by rw [List.getElem?_take, if_pos hji]; exact hj
              have h7 : (l.take i)[i - 1]? = some (hd l (i - 1)) := by rw [List.getElem?_take, if_pos (by omega)]; rw [List.getElem?_eq_getElem hlp, hd_get (List.getElem?_eq_getElem hlp)]
              obtain ⟨q1, rfl⟩ := List.getElem?_eq_some_iff.1 h6
              obtain ⟨q2, q3⟩ := List.getElem?_eq_some_iff.1 h7
              have := (List.pairwise_iff_getElem.1 h2 j (i - 1) q1 q2 (by omega)).1
              rw [q3] at this; omega
        · rw [List.any_eq_false] at h5
          simpa using h5 a ha
    · rintro ⟨h1, h2, _, h3⟩
      refine ⟨⟨fun h hh => h1 h ((hmem h).2 (.inl hh)), h2⟩, ⟨h1 x ((hmem x).2 (.inr rfl)), ?_⟩, ?_⟩
      · rcases Nat.eq_zero_or_pos i with h0 | h0
        · exact .inl h0
        · right
          have hlp : i - 1 < l.length := by omega
          have h7 : (l.take i)[i - 1]? = some (hd l (i - 1)) := by rw [List.getElem?_take, if_pos (by omega)]; rw [List.getElem?_eq_getElem hlp, hd_get (List.getElem?_eq_getElem hlp)]
          exact (h3 _ (List.mem_of_getElem? h7) x (by simp)).1
      · rw [List.any_eq_false]
        intro y hy
        simp [(h3 y hy x (by simp)).2]
theorem isTab_iff {l : List Held} : isTab l = true ↔ l.length ≤ 256 ∧ (∀ h ∈ l, mayH h = true) ∧ l.Pairwise tabR := by
  unfold isTab
  rw [Bool.and_eq_true, decide_eq_true_eq, tabTo_iff l l.length (Nat.le_refl _), List.take_length]
theorem tab_sub {l m : List Held} (hs : m.Sublist l) (h : isTab l = true) : isTab m = true := by
  rw [isTab_iff] at h ⊢
  exact ⟨Nat.le_trans hs.length_le h.1, fun x hx => h.2.1 x (hs.subset hx), h.2.2.sublist hs⟩
theorem meets_comm (a b c d : Int) : meetsB a b c d = meetsB c d a b := by
  unfold meetsB; rw [Bool.eq_iff_iff]; simp only [decide_eq_true_eq]; omega
theorem apart_comm (a b : List Int) : apartB a b = apartB b a := by
  rw [Bool.eq_iff_iff]
  unfold apartB
  simp only [Bool.and_eq_true, List.all_eq_true, Bool.not_eq_true', decide_eq_false_iff_not]
  constructor
  · rintro ⟨⟨h1, h2⟩, h3⟩; exact ⟨⟨h2, h1⟩, fun n hn hm => h3 n hm hn⟩
  · rintro ⟨⟨h1, h2⟩, h3⟩; exact ⟨⟨h2, h1⟩, fun n hn hm => h3 n hm hn⟩
theorem clash_comm (a b : Held) : clashB a b = clashB b a := by unfold clashB; rw [meets_comm, apart_comm]
theorem busyOf_mem {a b : Int} : ∀ {l : List Held}, (∀ h ∈ l, isSet h.things = true) → ∀ {n : Int}, n ∈ busyOf a b l ↔ ∃ h ∈ l, meetsB h.fr h.to a b = true ∧ n ∈ h.things := by
  intro l
  have key : ∀ (i : Nat), i ≤ l.length → (∀ h ∈ l, isSet h.things = true) → ∀ n, n ∈ busyOf a b (l.take i) ↔ ∃ h ∈ l.take i, meetsB h.fr h.to a b = true ∧ n ∈ h.things := by
    intro i
    induction i with
    | zero => intro _ _ n; simp [busyOf]
    | succ i ih =>
      intro hi hs n
      have hlt : i < l.length := by omega
      obtain ⟨x, hx⟩ : ∃ x, l[i]? = some x := ⟨_, List.getElem?_eq_getElem hlt⟩
      have hxs := hs x (List.mem_of_getElem? hx)
      rw [List.take_succ_eq_append_getElem hlt, gE hx, busyOf_snoc]
      have hmem : ∀ h, h ∈ l.take i ++ [x] ↔ h ∈ l.take i ∨ h = x := fun h => by simp
      split
      · rename_i hm
        rw [joinL_mem (busyOf_set _ _ _) hxs, ih (by omega) hs]
        constructor
        · rintro (⟨h, h1, h2⟩ | h)
          · exact ⟨h, (hmem h).2 (.inl h1), h2⟩
          · exact ⟨x, (hmem x).2 (.inr rfl), hm, h⟩
        · rintro ⟨h, h1, h2⟩
          rcases (hmem h).1 h1 with h1 | rfl
          · exact .inl ⟨h, h1, h2⟩
          · exact .inr h2.2
      · rename_i hm
        rw [ih (by omega) hs]
        constructor
        · rintro ⟨h, h1, h2⟩; exact ⟨h, (hmem h).2 (.inl h1), h2⟩
        · rintro ⟨h, h1, h2⟩
          rcases (hmem h).1 h1 with h1 | rfl
          · exact ⟨h, h1, h2⟩
          · exact (hm h2.1).elim
  intro hs n
  have := key l.length (Nat.le_refl _) hs n
  rwa [List.take_length] at this
theorem busyL_mem {l : List Held} (ht : isTab l = true) {a b n : Int} : n ∈ busyL l a b ↔ ∃ h ∈ l, meetsB h.fr h.to a b = true ∧ n ∈ h.things := by
  unfold busyL
  rw [if_pos ht]
  exact busyOf_mem fun h hh => mayH_set (tab_may ht hh)
theorem busyL_len (l : List Held) (a b : Int) : (busyL l a b).length ≤ 256 := set_len (busyL_set l a b)
theorem busyL_bad {l : List Held} (h : isTab l = false) (a b : Int) : busyL l a b = [] := by unfold busyL; rw [h]; rfl
theorem busy_part {l : List Held} {a b c : Int} (hbc : b ≤ c) : partB (busyL l a b) (busyL l a c) = true := by
  cases ht : isTab l with
  | false => rw [busyL_bad ht, busyL_bad ht]; rfl
  | true =>
    rw [partB_iff (busyL_set _ _ _) (busyL_set _ _ _)]
    intro n hn
    rw [busyL_mem ht] at hn ⊢
    obtain ⟨h, h1, h2, h3⟩ := hn
    refine ⟨h, h1, ?_, h3⟩
    unfold meetsB at h2 ⊢
    simp only [decide_eq_true_eq] at h2 ⊢
    omega
theorem busy_join {l : List Held} {a b c : Int} (hab : a < b) (hbc : b < c) : joinL (busyL l a b) (busyL l b c) = busyL l a c := by
  cases ht : isTab l with
  | false => rw [busyL_bad ht, busyL_bad ht, busyL_bad ht]; rfl
  | true =>
    refine set_ext (joinL_set _ _) (busyL_set _ _ _) fun n => ?_
    rw [joinL_mem (busyL_set _ _ _) (busyL_set _ _ _), busyL_mem ht, busyL_mem ht, busyL_mem ht]
    constructor
    · rintro (⟨h, h1, h2, h3⟩ | ⟨h, h1, h2, h3⟩) <;> refine ⟨h, h1, ?_, h3⟩ <;> unfold meetsB at h2 ⊢ <;> simp only [decide_eq_true_eq] at h2 ⊢ <;> omega
    · rintro ⟨h, h1, h2, h3⟩
      have hm := may_to (tab_may ht h1)
      unfold meetsB at h2
      simp only [decide_eq_true_eq] at h2
      by_cases hq : max h.fr a < min h.to b
      · exact .inl ⟨h, h1, by unfold meetsB; simpa using hq, h3⟩
      · refine .inr ⟨h, h1, ?_, h3⟩
        unfold meetsB
        simp only [decide_eq_true_eq]
        omega
theorem rest_tab {l : List Held} (ht : isTab l = true) (a : Int) : restL l a = l.filter (pLive a) := by unfold restL; rw [if_pos ht]; rfl
theorem rest_rest {l : List Held} {a b : Int} (hab : a ≤ b) : restL (restL l a) b = restL l b := by
  cases ht : isTab l with
  | false => 
    have e : ∀ x, restL l x = l := fun x => by unfold restL; rw [ht]; rfl
    rw [e a]
  | true =>
    rw [rest_tab ht a, rest_tab ht b, rest_tab (tab_sub List.filter_sublist ht) b, List.filter_filter]
    refine List.filter_congr fun h _ => ?_
    unfold pLive
    rw [Bool.eq_iff_iff]
    simp only [Bool.and_eq_true, decide_eq_true_eq]
    omega
theorem rest_good {n : Nat} {l : List Held} (hl : l.length ≤ n) (hh : Helds l) (a : Int) : (restL l a).length ≤ n ∧ Helds (restL l a) := by
  unfold restL; split
  · exact ⟨Nat.le_trans (List.length_filter_le _ _) hl, fun h hm => hh h (List.mem_filter.1 hm).1⟩
  · exact ⟨hl, hh⟩
theorem gone_good {n : Nat} {l : List Held} (hl : l.length ≤ n) (hh : Helds l) (a : Int) : (goneL l a).length ≤ n ∧ Helds (goneL l a) := by
  unfold goneL; split
  · exact ⟨Nat.le_trans (List.length_filter_le _ _) hl, fun h hm => hh h (List.mem_filter.1 hm).1⟩
  · exact ⟨by simp, fun h hm => by cases hm⟩
theorem insH_mem {l : List Held} {i : Nat} {h x : Held} : x ∈ insH l i h ↔ x ∈ l ∨ x = h := by
  unfold insH
  rw [List.mem_append, List.mem_append, List.mem_singleton]
  conv => rhs; rw [← List.take_append_drop i l, List.mem_append]
  constructor
  · rintro ((h | h) | h)
    · exact .inl (.inl h)
    · exact .inr h
    · exact .inl (.inr h)
  · rintro ((h | h) | h)
    · exact .inl (.inl h)
    · exact .inr h
    · exact .inl (.inr h)
theorem insH_len (l : List Held) (i : Nat) (h : Held) : (insH l i h).length = l.length + 1 := by
  unfold insH; rw [List.length_append, List.length_append, List.length_take, List.length_drop]; simp; omega
theorem delH_sub (l : List Held) (i : Nat) : (delH l i).Sublist l := by
  unfold delH
  conv => rhs; rw [← List.take_append_drop i l]
  exact List.Sublist.append (List.Sublist.refl _) (by rw [← List.drop_drop]; exact List.drop_sublist _ _)
theorem add_good {n : Nat} {l : List Held} {h : Held} (hl : l.length ≤ n) (hh : Helds l) (hx : h.things.length ≤ 140737488355) : (addL l h).1.length ≤ n + 1 ∧ Helds (addL l h).1 := by
  unfold addL
  split
  · split
    · exact ⟨by show l.length ≤ _; omega, hh⟩
    · split
      · exact ⟨by show l.length ≤ _; omega, hh⟩
      · refine ⟨by show (insH _ _ _).length ≤ _; rw [insH_len]; omega, fun x hm => ?_⟩
        rcases insH_mem.1 hm with hm | rfl
        · exact hh x hm
        · exact hx
  · exact ⟨by show l.length ≤ _; omega, hh⟩
theorem drop_good {n : Nat} {l : List Held} {id : Int} (hl : l.length ≤ n) (hh : Helds l) : (dropL l id).1.length ≤ n ∧ Helds (dropL l id).1 ∧ (dropL l id).2.1.things.length ≤ 140737488355 := by
  have h0 : noH.things.length ≤ 140737488355 := by decide
  unfold dropL
  split
  · rename_i ht
    split
    · rename_i ha
      have hs := delH_sub l (lowAt l id)
      have hx := (isAt_get (tab_sorted ht) ha).2.1
      exact ⟨Nat.le_trans hs.length_le hl, fun x hm => hh x (hs.subset hm), hh _ (List.mem_of_getElem? hx)⟩
    · exact ⟨hl, hh, h0⟩
  · exact ⟨hl, hh, h0⟩
theorem get_good {l : List Held} {id : Int} (hh : Helds l) : (getL l id).1.things.length ≤ 140737488355 := by
  unfold getL
  split
  · rename_i ht
    have hx := (isAt_get (tab_sorted ht.1) ht.2).2.1
    exact hh _ (List.mem_of_getElem? hx)
  · decide
theorem cut_good {n : Nat} {l : List Held} {id to : Int} (hl : l.length ≤ n) (hh : Helds l) : (cutL l id to).1.length ≤ n ∧ Helds (cutL l id to).1 := by
  unfold cutL
  split
  · rename_i ht
    split
    · rename_i ha
      split
      · exact ⟨hl, hh⟩
      · have hx := (isAt_get (tab_sorted ht) ha).2.1
        refine ⟨by simpa using hl, fun x hm => ?_⟩
        rcases List.mem_or_eq_of_mem_set hm with hm | rfl
        · exact hh x hm
        · exact (show (hd l (lowAt l id)).things.length ≤ 140737488355 from hh _ (List.mem_of_getElem? hx))
    · exact ⟨hl, hh⟩
  · exact ⟨hl, hh⟩
theorem short_len {l : List Held} (h : shortB l = true) : l.length ≤ 30 ∧ Helds l := by
  unfold shortB at h
  simp only [Bool.and_eq_true, decide_eq_true_eq, List.all_eq_true] at h
  exact ⟨h.1, fun x hx => by have := h.2 x hx; omega⟩
theorem helds_len {y : List Held} (h : y.length * 48 ≤ 140737488351232 ∧ y.length ≤ maxLen ∧ ∀ x ∈ y, HeldOk x) : y.length ≤ 140737488355328 := by have := h.1; omega
end Go.Proofs.YtinhfnbmgmociaaGreatDoor.Ab

namespace Go.Proofs.YtinhfnbmgmociaaGreatDoor.Ab
open Go.RowKit
set_option linter.unusedVariables false
set_option linter.unusedSimpArgs false

theorem isAt_iff {l : List Held} {id : Int} : isAt l id = true ↔ ∃ x ∈ l, x.id = id := by unfold isAt; rw [List.any_eq_true]; simp
theorem anyClash_iff {l : List Held} {h : Held} : anyClash l h = true ↔ ∃ x ∈ l, clashB x h = true := by unfold anyClash; rw [List.any_eq_true]
theorem add_ok {l : List Held} {h : Held} : (addL l h).2 = 0 ↔ isTab l = true ∧ mayH h = true ∧ isAt l h.id = false ∧ l.length ≠ 256 ∧ anyClash l h = false := by
  unfold addL
  cases h1 : isTab l with
  | false => simp
  | true =>
    cases h2 : mayH h with
    | false => simp
    | true =>
      cases h3 : isAt l h.id with
      | true => simp
      | false =>
        cases h4 : anyClash l h with
        | true => simp
        | false => by_cases h5 : l.length = 256 <;> simp [h5]
theorem add_res {l : List Held} {h : Held} (hk : (addL l h).2 = 0) : (addL l h).1 = insH l (lowAt l h.id) h := by
  obtain ⟨h1, h2, h3, h4, h5⟩ := add_ok.1 hk
  unfold addL
  rw [if_pos ⟨h1, h2⟩, h3, if_neg (by simp), if_neg (by simp [h4, h5])]
theorem add_no {l : List Held} {h : Held} (hk : ¬ (addL l h).2 = 0) : (addL l h).1 = l := by
  revert hk
  unfold addL
  split
  · split
    · intro _; rfl
    · split
      · intro _; rfl
      · intro h; exact absurd rfl h
  · intro _; rfl
theorem take_low {l : List Held} (hs : sortedId l) {id : Int} {x : Held} (hx : x ∈ l.take (lowAt l id)) : x.id < id := by
  obtain ⟨j, hj⟩ := List.getElem?_of_mem hx
  rw [List.getElem?_take] at hj
  split at hj
  · rename_i h; exact (lowAt_iff hs hj).2 h
  · cases hj
theorem drop_low {l : List Held} (hs : sortedId l) {id : Int} {x : Held} (hx : x ∈ l.drop (lowAt l id)) : ¬ x.id < id := by
  obtain ⟨j, hj⟩ := List.getElem?_of_mem hx
  rw [List.getElem?_drop] at hj
  intro h
  have := (lowAt_iff hs hj).1 h
  omega
/-- A holding that may be put in leaves a right table. -/
theorem ins_tab {l : List Held} {h : Held} (ht : isTab l = true) (hm : mayH h = true) (hn : isAt l h.id = false) (hl : l.length < 256) (hc : ∀ x ∈ l, clashB x h = false) : isTab (insH l (lowAt l h.id) h) = true := by
  have hs := tab_sorted ht
  rw [isTab_iff] at ht ⊢
  refine ⟨by rw [insH_len]; omega, fun x hx => ?_, ?_⟩
  · rcases insH_mem.1 hx with hx | rfl
    · exact ht.2.1 x hx
    · exact hm
  · unfold insH
    have hp := ht.2.2
    rw [← List.take_append_drop (lowAt l h.id) l, List.pairwise_append] at hp
    rw [List.pairwise_append, List.pairwise_append]
    refine ⟨⟨hp.1, by simp, fun a ha b hb => ?_⟩, hp.2.1, fun a ha b hb => ?_⟩
    · rw [List.mem_singleton.1 hb]
      exact ⟨take_low hs ha, hc a (List.mem_of_mem_take ha)⟩
    · rcases List.mem_append.1 ha with ha | ha
      · exact hp.2.2 a ha b hb
      · rw [List.mem_singleton.1 ha]
        have h1 := drop_low hs hb
        have hbm := List.mem_of_mem_drop hb
        refine ⟨?_, by rw [clash_comm]; exact hc b hbm⟩
        have : ¬ b.id = h.id := fun e => by
          have := isAt_iff.2 ⟨b, hbm, e⟩
          rw [hn] at this; cases this
        omega
theorem add_tab {l : List Held} {h : Held} (hk : (addL l h).2 = 0) : isTab (addL l h).1 = true := by
  obtain ⟨h1, h2, h3, h4, h5⟩ := add_ok.1 hk
  rw [add_res hk]
  refine ins_tab h1 h2 h3 (by have := tab_len h1; omega) fun x hx => ?_
  cases hc : clashB x h with
  | false => rfl
  | true => have := anyClash_iff.2 ⟨x, hx, hc⟩; rw [h5] at this; cases this
theorem add_mem {l : List Held} {h x : Held} (hk : (addL l h).2 = 0) : x ∈ (addL l h).1 ↔ x ∈ l ∨ x = h := by rw [add_res hk, insH_mem]
theorem add_len {l : List Held} {h : Held} (hk : (addL l h).2 = 0) : (addL l h).1.length = l.length + 1 := by rw [add_res hk, insH_len]
theorem get_mem {l : List Held} (ht : isTab l = true) {k : Held} (hk : k ∈ l) : getL l k.id = (k, true) := by
  obtain ⟨i, hi⟩ := List.getElem?_of_mem hk
  have h1 := at_low (tab_sorted ht) hi rfl
  subst h1
  unfold getL
  rw [if_pos ⟨ht, isAt_iff.2 ⟨k, hk, rfl⟩⟩, hd_get hi]
theorem tab_ext : ∀ {a b : List Held}, sortedId a → sortedId b → (∀ x, x ∈ a ↔ x ∈ b) → a = b
  | [], [], _, _, _ => rfl
  | [], y :: b, _, _, h => by have := (h y).2 (by simp); cases this
  | x :: a, [], _, _, h => by have := (h x).1 (by simp); cases this
  | x :: a, y :: b, ha, hb, h => by
    have pa := List.pairwise_cons.1 ha
    have pb := List.pairwise_cons.1 hb
    have e : x = y := by
      rcases List.mem_cons.1 ((h x).1 (by simp)) with e | hx
      · exact e
      · rcases List.mem_cons.1 ((h y).2 (by simp)) with e | hy
        · exact e.symm
        · have := pb.1 x hx; have := pa.1 y hy; omega
    subst e
    have hab : ∀ z, z ∈ a ↔ z ∈ b := fun z => by
      constructor
      · intro hz
        rcases List.mem_cons.1 ((h z).1 (List.mem_cons_of_mem _ hz)) with e | hz2
        · subst e; have := pa.1 z hz; omega
        · exact hz2
      · intro hz
        rcases List.mem_cons.1 ((h z).2 (List.mem_cons_of_mem _ hz)) with e | hz2
        · subst e; have := pb.1 z hz; omega
        · exact hz2
    rw [tab_ext pa.2 pb.2 hab]
/-- Two that are added, in either order. -/
theorem add_two {l : List Held} {a b : Held} (hl : l.length ≤ 30) (he : (addL l a).2 = 0) :
    ((addL (addL l a).1 b).2 = 0 ↔ (addL l b).2 = 0 ∧ (addL (addL l b).1 a).2 = 0) ∧ ((addL (addL l a).1 b).2 = 0 → (addL (addL l a).1 b).1 = (addL (addL l b).1 a).1) := by
  obtain ⟨e1, e2, e3, e4, e5⟩ := add_ok.1 he
  have hx1 := add_tab he
  have hxm := fun x => add_mem (x := x) he
  have hxl := add_len he
  have hat : ∀ id, isAt (addL l a).1 id = (isAt l id || decide (a.id = id)) := fun id => by
    rw [Bool.eq_iff_iff, Bool.or_eq_true, isAt_iff, isAt_iff, decide_eq_true_eq]
    constructor
    · rintro ⟨x, h1, h2⟩
      rcases (hxm x).1 h1 with h1 | rfl
      · exact .inl ⟨x, h1, h2⟩
      · exact .inr h2
    · rintro (⟨x, h1, h2⟩ | h)
      · exact ⟨x, (hxm x).2 (.inl h1), h2⟩
      · exact ⟨a, (hxm a).2 (.inr rfl), h⟩
  have hac : anyClash (addL l a).1 b = (anyClash l b || clashB a b) := by
    rw [Bool.eq_iff_iff, Bool.or_eq_true, anyClash_iff, anyClash_iff]
    constructor
    · rintro ⟨x, h1, h2⟩
      rcases (hxm x).1 h1 with h1 | rfl
      · exact .inl ⟨x, h1, h2⟩
      · exact .inr h2
    · rintro (⟨x, h1, h2⟩ | h)
      · exact ⟨x, (hxm x).2 (.inl h1), h2⟩
      · exact ⟨a, (hxm a).2 (.inr rfl), h⟩
  have key : (addL (addL l a).1 b).2 = 0 ↔ (addL l b).2 = 0 ∧ (addL (addL l b).1 a).2 = 0 := by
    rw [add_ok (l := (addL l a).1), hat, hac, hxl, add_ok (l := l) (h := b)]
    constructor
    · rintro ⟨f1, f2, f3, f4, f5⟩
      simp only [Bool.or_eq_false_iff, decide_eq_false_iff_not] at f3 f5
      have hg : (addL l b).2 = 0 := add_ok.2 ⟨e1, f2, f3.1, by omega, f5.1⟩
      refine ⟨⟨e1, f2, f3.1, by omega, f5.1⟩, add_ok.2 ⟨add_tab hg, e2, ?_, by rw [add_len hg]; omega, ?_⟩⟩
      · cases hq : isAt (addL l b).1 a.id with
        | false => rfl
        | true =>
          obtain ⟨x, h1, h2⟩ := isAt_iff.1 hq
          rcases (add_mem hg).1 h1 with h1 | rfl
          · have := isAt_iff.2 ⟨x, h1, h2⟩; rw [e3] at this; cases this
          · exact (f3.2 h2.symm).elim
      · cases hq : anyClash (addL l b).1 a with
        | false => rfl
        | true =>
          obtain ⟨x, h1, h2⟩ := anyClash_iff.1 hq
          rcases (add_mem hg).1 h1 with h1 | rfl
          · have := anyClash_iff.2 ⟨x, h1, h2⟩; rw [e5] at this; cases this
          · rw [clash_comm] at h2; rw [f5.2] at h2; cases h2
    · rintro ⟨⟨g1, g2, g3, g4, g5⟩, hk⟩
      have hg : (addL l b).2 = 0 := add_ok.2 ⟨g1, g2, g3, g4, g5⟩
      obtain ⟨k1, k2, k3, k4, k5⟩ := add_ok.1 hk
      refine ⟨hx1, g2, ?_, by omega, ?_⟩
      · rw [g3, Bool.false_or, decide_eq_false_iff_not]
        intro e
        have := isAt_iff.2 ⟨b, (add_mem hg).2 (.inr rfl), e.symm⟩
        rw [k3] at this; cases this
      · rw [g5, Bool.false_or]
        cases hq : clashB a b with
        | false => rfl
        | true =>
          have := anyClash_iff.2 ⟨b, (add_mem hg).2 (.inr rfl), by rw [clash_comm]; exact hq⟩
          rw [k5] at this; cases this
  refine ⟨key, fun hf => ?_⟩
  obtain ⟨hg, hk⟩ := key.1 hf
  refine tab_ext (tab_sorted (add_tab hf)) (tab_sorted (add_tab hk)) fun x => ?_
  rw [add_mem hf, add_mem he, add_mem hk, add_mem hg]
  constructor
  · rintro ((h | h) | h)
    · exact .inl (.inl h)
    · exact .inr h
    · exact .inl (.inr h)
  · rintro ((h | h) | h)
    · exact .inl (.inl h)
    · exact .inr h
    · exact .inl (.inr h)
/-! ### At one time -/
theorem join_len {a b : List Int} (ha : isSet a = true) (hb : isSet b = true) (h : ∀ n ∈ a, n ∉ b) : (joinL a b).length = a.length + b.length := by
  have nd : ∀ {l : List Int}, isSet l = true → l.Nodup := fun h => ((isSet_iff.1 h).1).imp (fun h => by omega)
  have hp : (joinL a b).Perm (a ++ b) := by
    rw [List.perm_ext_iff_of_nodup (nd (joinL_set _ _))]
    · intro n; rw [joinL_mem ha hb, List.mem_append]
    · rw [List.nodup_append]
      exact ⟨nd ha, nd hb, fun x hx y hy e => h x hx (e ▸ hy)⟩
  rw [hp.length_eq, List.length_append]
def nAt (t : Int) (l : List Held) : Nat := l.foldl (fun n h => if meetsB h.fr h.to t (t + 1) = true then n + h.things.length else n) 0
theorem nAt_snoc (t : Int) (l : List Held) (h : Held) : nAt t (l ++ [h]) = if meetsB h.fr h.to t (t + 1) = true then nAt t l + h.things.length else nAt t l := by unfold nAt; rw [List.foldl_append]; rfl
theorem nAt_busy {l : List Held} (ht : isTab l = true) (t : Int) : ∀ i, i ≤ l.length → nAt t (l.take i) = (busyOf t (t + 1) (l.take i)).length := by
  intro i
  induction i with
  | zero => intro _; simp [nAt, busyOf]
  | succ i ih =>
    intro hi
    have hlt : i < l.length := by omega
    obtain ⟨x, hx⟩ : ∃ x, l[i]? = some x := ⟨_, List.getElem?_eq_getElem hlt⟩
    have hxm := List.mem_of_getElem? hx
    have hset : ∀ h ∈ l, isSet h.things = true := fun h hh => mayH_set (tab_may ht hh)
    rw [List.take_succ_eq_append_getElem hlt, gE hx, nAt_snoc, busyOf_snoc, ih (by omega)]
    split
    · rename_i hm
      rw [join_len (busyOf_set _ _ _) (hset x hxm)]
      intro n hn hnx
      rw [busyOf_mem (fun h hh => hset h (List.mem_of_mem_take hh))] at hn
      obtain ⟨h, h1, h2, h3⟩ := hn
      have hp := (isTab_iff.1 ht).2.2
      have htake : (l.take (i + 1)).Pairwise tabR := hp.sublist (List.take_sublist _ _)
      rw [List.take_succ_eq_append_getElem hlt, gE hx, List.pairwise_append] at htake
      have hc := (htake.2.2 h h1 x (by simp)).2
      unfold clashB at hc
      have hmeet : meetsB h.fr h.to x.fr x.to = true := by
        unfold meetsB at h2 hm ⊢
        simp only [decide_eq_true_eq] at h2 hm ⊢
        omega
      rw [hmeet] at hc
      simp only [Bool.true_and, Bool.not_eq_false'] at hc
      exact (apartB_iff (hset h (List.mem_of_mem_take h1)) (hset x hxm)).1 hc n h3 hnx
    · rfl
theorem nAt_le (t : Int) {l : List Held} (hl : ∀ h ∈ l, h.things.length ≤ 60) : nAt t l ≤ 60 * l.length := by
  have key : ∀ i, i ≤ l.length → nAt t (l.take i) ≤ 60 * i := by
    intro i
    induction i with
    | zero => intro _; simp [nAt]
    | succ i ih =>
      intro hi
      have hlt : i < l.length := by omega
      obtain ⟨x, hx⟩ : ∃ x, l[i]? = some x := ⟨_, List.getElem?_eq_getElem hlt⟩
      have := hl x (List.mem_of_getElem? hx)
      have := ih (by omega)
      rw [List.take_succ_eq_append_getElem hlt, gE hx, nAt_snoc]
      split <;> omega
  have := key l.length (Nat.le_refl _)
  rwa [List.take_length] at this
theorem clash_busy {l : List Held} (ht : isTab l = true) {h : Held} (hm : mayH h = true) : apartB (busyL l h.fr h.to) h.things = !anyClash l h := by
  rw [Bool.eq_iff_iff, apartB_iff (busyL_set _ _ _) (mayH_set hm), Bool.not_eq_true', ← Bool.not_eq_true, anyClash_iff]
  constructor
  · rintro h1 ⟨x, hx, hc⟩
    unfold clashB at hc
    simp only [Bool.and_eq_true, Bool.not_eq_true'] at hc
    have h2 := apartB_iff (mayH_set (tab_may ht hx)) (mayH_set hm)
    rw [← Bool.not_eq_true, h2] at hc
    exact hc.2 fun n hn => h1 n ((busyL_mem ht).2 ⟨x, hx, hc.1, hn⟩)
  · intro h1 n hn hnh
    obtain ⟨x, hx, h2, h3⟩ := (busyL_mem ht).1 hn
    refine h1 ⟨x, hx, ?_⟩
    unfold clashB
    rw [h2]
    simp only [Bool.true_and, Bool.not_eq_true']
    rw [← Bool.not_eq_true, apartB_iff (mayH_set (tab_may ht hx)) (mayH_set hm)]
    exact fun h4 => h4 n h3 hnh
/-! ### Back -/
theorem del_ins (l : List Held) (m : Nat) (h : Held) (hm : m ≤ l.length) : delH (insH l m h) m = l := by
  unfold delH insH
  have hl : (l.take m).length = m := by rw [List.length_take]; omega
  rw [List.append_assoc, List.take_left' hl, List.drop_append, hl, List.drop_of_length_le (by omega)]
  simp
theorem ins_get (l : List Held) (m : Nat) (h : Held) (hm : m ≤ l.length) : (insH l m h)[m]? = some h := by
  unfold insH
  have hl : (l.take m).length = m := by rw [List.length_take]; omega
  rw [List.append_assoc, List.getElem?_append_right (by omega), hl]; simp
theorem ins_set (l : List Held) (m : Nat) (h k : Held) (hm : m ≤ l.length) : (insH l m h).set m k = insH l m k := by
  unfold insH
  have hl : (l.take m).length = m := by rw [List.length_take]; omega
  rw [List.append_assoc, List.append_assoc, List.set_append_right _ _ (by omega), hl]; simp
theorem drop_add {l : List Held} {h : Held} (hk : (addL l h).2 = 0) : dropL (addL l h).1 h.id = (l, h, 0) := by
  have ht := add_tab hk
  have hm : h ∈ (addL l h).1 := (add_mem hk).2 (.inr rfl)
  have hle := lowAt_le l h.id
  have hg : (addL l h).1[lowAt l h.id]? = some h := by rw [add_res hk]; exact ins_get l _ h hle
  have hlow := at_low (tab_sorted ht) hg rfl
  unfold dropL
  rw [if_pos ht, if_pos (isAt_iff.2 ⟨h, hm, rfl⟩), ← hlow, hd_get hg]
  rw [show delH (addL l h).1 (lowAt l h.id) = l by rw [add_res hk]; exact del_ins l _ h hle]
def cutH (h : Held) (to : Int) : Held := { h with to := to }
theorem cut_add {l : List Held} {h : Held} (hk : (addL l h).2 = 0) (to : Int) : cutL (addL l h).1 h.id to = if to ≤ h.fr ∨ h.to < to then ((addL l h).1, 1) else (insH l (lowAt l h.id) (cutH h to), 0) := by
  have ht := add_tab hk
  have hm : h ∈ (addL l h).1 := (add_mem hk).2 (.inr rfl)
  have hle := lowAt_le l h.id
  have hg : (addL l h).1[lowAt l h.id]? = some h := by rw [add_res hk]; exact ins_get l _ h hle
  have hlow := at_low (tab_sorted ht) hg rfl
  unfold cutL
  rw [if_pos ht, if_pos (isAt_iff.2 ⟨h, hm, rfl⟩), ← hlow, hd_get hg]
  split
  · rfl
  · rw [show (addL l h).1.set (lowAt l h.id) { h with to := to } = insH l (lowAt l h.id) (cutH h to) by rw [add_res hk]; exact ins_set l _ h _ hle]
theorem cut_tab {l : List Held} {h : Held} (hk : (addL l h).2 = 0) {to : Int} (h1 : ¬ to ≤ h.fr) (h2 : ¬ h.to < to) : isTab (insH l (lowAt l h.id) (cutH h to)) = true := by
  obtain ⟨e1, e2, e3, e4, e5⟩ := add_ok.1 hk
  have hmay : mayH (cutH h to) = true := by
    unfold mayH isWhen at e2 ⊢
    unfold cutH
    simp only [Bool.and_eq_true, decide_eq_true_eq] at e2 ⊢
    exact ⟨⟨e2.1.1, by omega, by omega⟩, by omega⟩
  refine ins_tab (h := cutH h to) e1 hmay e3 (by have := tab_len e1; omega) fun x hx => ?_
  cases hc : clashB x (cutH h to) with
  | false => rfl
  | true =>
    exfalso
    have : clashB x h = true := by
      unfold clashB at hc ⊢
      unfold cutH at hc
      simp only [Bool.and_eq_true] at hc ⊢
      refine ⟨?_, hc.2⟩
      have := hc.1
      unfold meetsB at this ⊢
      simp only [decide_eq_true_eq] at this ⊢
      omega
    have := anyClash_iff.2 ⟨x, hx, this⟩
    rw [e5] at this; cases this
theorem cut_gone {l : List Held} {h : Held} (hk : (addL l h).2 = 0) {to : Int} (h1 : ¬ to ≤ h.fr) (h2 : ¬ h.to < to) : (getL (restL (insH l (lowAt l h.id) (cutH h to)) to) h.id).2 = false := by
  obtain ⟨e1, e2, e3, e4, e5⟩ := add_ok.1 hk
  have ht := cut_tab hk h1 h2
  rw [rest_tab ht]
  unfold getL
  rw [if_neg]
  rintro ⟨_, ha⟩
  obtain ⟨x, hx, hid⟩ := isAt_iff.1 ha
  obtain ⟨hx1, hx2⟩ := List.mem_filter.1 hx
  rcases insH_mem.1 hx1 with hx1 | rfl
  · have := isAt_iff.2 ⟨x, hx1, hid⟩; rw [e3] at this; cases this
  · unfold pLive cutH at hx2; simp at hx2
theorem rest_gone_len {l : List Held} (ht : isTab l = true) (t : Int) : (restL l t).length + (goneL l t).length = l.length := by
  have e : goneL l t = l.filter (pGone t) := by unfold goneL; rw [if_pos ht]; rfl
  rw [rest_tab ht, e]
  have : ∀ (m : List Held), (m.filter (pLive t)).length + (m.filter (pGone t)).length = m.length := by
    intro m
    induction m with
    | nil => rfl
    | cons x m ih =>
      rw [List.filter_cons, List.filter_cons]
      by_cases hc : t < x.to
      · have p1 : pLive t x = true := by unfold pLive; simpa using hc
        have p2 : pGone t x = false := by unfold pGone; simp; omega
        rw [p1, p2]; simp; omega
      · have p1 : pLive t x = false := by unfold pLive; simpa using hc
        have p2 : pGone t x = true := by unfold pGone; simp; omega
        rw [p1, p2]; simp; omega
  exact this l
end Go.Proofs.YtinhfnbmgmociaaGreatDoor.Ab
