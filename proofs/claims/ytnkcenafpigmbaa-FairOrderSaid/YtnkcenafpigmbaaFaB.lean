/- fair: ranked jobs; slices.SortFunc at few of them: insertion. -/
import Derived.Test.YtnkcenafpigmbaaQu3
import Derived.Test.YtnkcenafpigmbaaShO
namespace Go.Proofs.Ytnkcenafpigmbaa.Ab
open Go.RowKit
set_option linter.unusedVariables false
set_option linter.unusedSimpArgs false

structure Rk where
  id : Int
  rank : Int
  deriving Inhabited
def rkSV (r : Rk) : SV := .agg [iv r.id, iv r.rank]
attribute [go_sem] rkSV
set_option maxHeartbeats 8000000 in
set_option maxRecDepth 100000 in
theorem insSR_c (f : FuncId) (caps : List SV) (c : Rk → Rk → Int) (S : Rk → Prop) (hp : ∀ a b, S a → S b → ACalls Try.prog f ([rkSV a, rkSV b] ++ caps) (· = .one (.sv (iv (c a b)))))
    (A l C g0 g1 : List Rk) (a b : Nat) (ha : a = A.length) (hb : b = A.length + l.length) (hg0 : g0 = A ++ l ++ C) (hg1 : g1 = A ++ srt (fun a b => decide (c a b < 0)) l ++ C) (hS : ∀ z ∈ l, S z) (hlen : A.length + l.length + C.length ≤ 1000000000) :
    ACallsI Try.prog 96 [.own, .sv (iv a), .sv (iv b), .sv (.fn f caps)] (.row 2 (g0.map rkSV)) (fun r o => r = .many [] ∧ o = .row 2 (g1.map rkSV)) := by
  refine ACallsI.of_body (fun _ _ => Try.call96 _ _) Try.func96 rfl Try.ntmps96 (by simp) rfl ?_
  refine Tr.ex ?_
  have hw0 : IntKind.i64.wrap ((a : Int) + 1) = (a : Int) + 1 := by rw [i64w] <;> omega
  have hlt0 : ∀ x y, (fun a b => decide (c a b < 0)) x y = decide (c x y < 0) := fun x y => rfl
  generalize (fun a b => decide (c a b < 0)) = lt at *
  have hgl1 : g1.length = g0.length := by rw [hg0, hg1]; simp [srt_len]
  rw [← srtL_one lt A l C] at hg0
  simp [go_sem, hw0]
  refine LoopW.of (fun p : Nat => ⟨53, [(0, .own 1000000), (1, .sv (iv a)), (2, .sv (iv b)), (3, .sv (.fn f caps)), (8, .sv (iv p))], [(1000000, .row 2 ((srtL lt A l C (p - a)).map rkSV))]⟩)
    (fun p => a + 1 ≤ p ∧ p ≤ max (a + 1) b) (fun p => b - p) (a + 1) ⟨by omega, by omega⟩ (Ent.chk (by simp [go_sem, ← hg0])) ?_
  rintro p ⟨hm1, hm2⟩
  by_cases hlt : p < b
  · have hlt' : (p : Int) < b := by omega
    have hw : IntKind.i64.wrap ((p : Int) + 1) = (p : Int) + 1 := by rw [i64w] <;> omega
    obtain ⟨x, hx⟩ : ∃ x, l[p - a]? = some x := ⟨_, List.getElem?_eq_getElem (by omega)⟩
    have hmid := srtL_mid (lt := lt) (A := A) (C := C) hx
    have hend := fun k => srtL_end (lt := lt) (A := A) (C := C) (k := k) hx
    have hrl : (srtR lt (l.take (p - a))).length = p - a := by rw [srtR_len, List.length_take]; omega
    have hrS : ∀ z ∈ srtR lt (l.take (p - a)), S z := fun z hz => hS z (List.mem_of_mem_take ((srtR_perm lt _).mem_iff.1 hz))
    have hxS := hS x (List.mem_of_getElem? hx)
    have hCl : (l.drop (p - a + 1) ++ C).length = l.length - (p - a + 1) + C.length := by simp
    rw [hmid]
    rw [show p - a + 1 = p + 1 - a by omega] at *
    generalize hnx : srtL lt A l C (p + 1 - a) = nxt at *
    generalize srtR lt (l.take (p - a)) = rp at *
    generalize l.drop (p + 1 - a) ++ C = C' at *
    simp [go_sem, hlt, hlt']
    refine LoopW.of (fun i : Nat => ⟨53, [(0, .own 1000000), (1, .sv (iv a)), (2, .sv (iv b)), (3, .sv (.fn f caps)), (8, .sv (iv p)), (9, .sv (iv i))], [(1000000, .row 2 ((midL A rp x (p - i) C').map rkSV))]⟩)
      (fun i => a ≤ i ∧ i ≤ p ∧ insR lt x rp = rp.take (p - i) ++ insR lt x (rp.drop (p - i))) (fun i => i) p ⟨by omega, by omega, by simp⟩ (Ent.chk (by simp [go_sem])) ?_
    rintro i ⟨hi1, hi2, hins⟩
    have hk : p - i ≤ rp.length := by omega
    have hml := midL_len A rp x (p - i) C' hk
    by_cases hkr : a < i
    · have hkr' : (a : Int) < i := by omega
      obtain ⟨y, hy⟩ : ∃ y, rp[p - i]? = some y := ⟨_, List.getElem?_eq_getElem (by omega)⟩
      obtain ⟨hs1, hs2⟩ := insR_step hy hins
      rw [hlt0] at hs1 hs2
      have hg1 := midL_at (A := A) (x := x) (C := C') hk (i := i) (by omega)
      have hg2 := midL_pre (A := A) (x := x) (C := C') hy (i := i - 1) (by omega)
      have hst := midL_step (A := A) (x := x) (C := C') hy (i := i) (j := i - 1) (by omega) (by omega)
      have hst2 := congrArg (List.map rkSV) hst
      rw [show p - i + 1 = p - (i - 1) by omega] at *
      have hwi : IntKind.i64.wrap ((i : Int) - 1) = ((i - 1 : Nat) : Int) := by rw [i64w] <;> omega
      have hb1 : i < (midL A rp x (p - i) C').length := by omega
      have hb2 : i - 1 < (midL A rp x (p - i) C').length := by omega
      have hcl := hp x y hxS (hrS y (List.mem_of_getElem? hy))
      have e := hend (p - i)
      generalize hgg : midL A rp x (p - (i - 1)) C' = g' at *
      generalize midL A rp x (p - i) C' = g at *
      have hb1' : (i : Int) < g.length := by omega
      have hb2' : ((i - 1 : Nat) : Int) < g.length := by omega
      have hg3 : ((g.map rkSV).set i (rkSV y))[i - 1]? = some (rkSV y) := by
        rw [List.getElem?_set_ne (by omega), List.getElem?_map, hg2]; rfl
      simp only [List.map_set, rkSV, iv] at hst2
      simp only [rkSV, iv] at hg3
      simp [go_sem, hkr, hkr']
      refine DrawW.rd rfl ?_
      simp [go_sem, hkr, hkr', hwi, hb1, hb1', hb2, hb2', hg1, gE hg1, hg2, gE hg2]
      refine OpD.callF (g := f) (caps := caps) (ys := [rkSV x, rkSV y]) true hcl rfl rfl (by simp [go_sem]) (by simp [go_sem]) (by intro _; simp [go_sem]) (by simp [go_sem]) (by simp [go_sem]) ?_
      simp [go_sem]
      refine ⟨by kernel_rfl, ?_⟩
      by_cases hc : c x y < 0
      · have h1 := hs1 (by simpa using hc)
        simp [go_sem, hc]
        refine DrawW.rd rfl ?_
        simp [go_sem, hkr, hkr', hwi, hb1, hb1', hb2, hb2', hg1, gE hg1, hg2, gE hg2, hg3, gE hg3]
        rw [hst2]
        refine ⟨by kernel_rfl, ?_⟩
        exact ⟨i - 1, ⟨by omega, by omega, h1⟩, by omega, Ent.chk (by simp [go_sem, hwi, hgg])⟩
      · have h2 := hs2 (by simpa using hc)
        have e := e h2
        subst e
        simp [go_sem, hc]
        exact ⟨p + 1, ⟨by omega, by omega⟩, by omega, Ent.chk (by simp [go_sem, hw, hnx])⟩
    · have hke : i = a := by omega
      have hkr' : ¬ (a : Int) < i := by omega
      have e := hend (p - i) (by rw [hins, show p - i = rp.length by omega]; simp [insR])
      rw [e]
      simp [go_sem, hkr, hkr']
      refine DrawW.rd rfl ?_
      simp [go_sem, hkr, hkr']
      refine ⟨by kernel_rfl, ?_⟩
      exact ⟨p + 1, ⟨by omega, by omega⟩, by omega, Ent.chk (by simp [go_sem, hw, hnx])⟩
  · have hlt' : ¬ (p : Int) < b := by omega
    have hall := srtL_all (lt := lt) (A := A) (C := C) (l := l) (m := p - a) (by omega)
    rw [hall, ← hg1]
    simp [go_sem, hlt, hlt', hgl1]
set_option maxHeartbeats 4000000 in
set_option maxRecDepth 100000 in
theorem pdqR_c (l : List Rk) (f : FuncId) (caps : List SV) (c : Rk → Rk → Int) (S : Rk → Prop) (lim : Int) (hp : ∀ a b, S a → S b → ACalls Try.prog f ([rkSV a, rkSV b] ++ caps) (· = .one (.sv (iv (c a b))))) (hS : ∀ z ∈ l, S z) (hlen : l.length ≤ 12) :
    ACallsI Try.prog 83 [.own, .sv (iv 0), .sv (iv l.length), .sv (iv lim), .sv (.fn f caps)] (.row 2 (l.map rkSV)) (fun r o => r = .many [] ∧ o = .row 2 ((srt (fun a b => decide (c a b < 0)) l).map rkSV)) := by
  refine ACallsI.of_body (fun _ _ => Try.call83 _ _) Try.func83 rfl Try.ntmps83 (by simp) rfl ?_
  refine Tr.ex ?_
  have hi := insSR_c f caps c S hp [] l [] l (srt (fun a b => decide (c a b < 0)) l) 0 l.length rfl (by simp) (by simp) (by simp) hS (by simp; omega)
  have hsl := srt_len (fun a b => decide (c a b < 0)) l
  generalize srt (fun a b => decide (c a b < 0)) l = g at *
  have hw : IntKind.i64.wrap (l.length : Int) = l.length := by rw [i64w] <;> omega
  have hw0 : IntKind.i64.wrap ((l.length : Int) - 0) = l.length := by rw [Int.sub_zero, hw]
  have h12 : (l.length : Int) ≤ 12 := by omega
  simp [go_sem]
  refine LoopW.of (fun _ : Unit => ⟨148, [(0, .own 1000000), (1, .sv (iv 0)), (2, .sv (iv l.length)), (3, .sv (iv lim)), (4, .sv (.fn f caps)), (10, .sv (bv true)), (11, .sv (bv true))], [(1000000, .row 2 (l.map rkSV))]⟩)
    (fun _ => True) (fun _ => 0) () trivial (Ent.chk (by simp [go_sem])) ?_
  intro _ _
  simp [go_sem, hw, hw0, h12, hlen]
  refine OpW.callI 1000000 hi rfl (by simp [go_sem]) (by simp [go_sem]) (by simp [go_sem]) (by simp [go_sem]) ?_
  rintro r o ⟨rfl, rfl⟩
  simp [go_sem, hsl]
def lenK (n : Nat) : Int := [0, 1, 2, 2, 3, 3, 3, 3, 4, 4, 4, 4, 4].getD n 0
set_option maxRecDepth 100000 in
theorem Len64_c (n : Nat) (h : n ≤ 12) : ACalls Try.prog 105 [.val (.int .u64 n)] (· = .one (.sv (iv (lenK n)))) := by
  refine ACalls.of_bodyS (fun _ _ => Try.call105 _ _) Try.func105 rfl Try.ntmps105 (by simp) ?_
  refine Tr.ex ?_
  have : n = 0 ∨ n = 1 ∨ n = 2 ∨ n = 3 ∨ n = 4 ∨ n = 5 ∨ n = 6 ∨ n = 7 ∨ n = 8 ∨ n = 9 ∨ n = 10 ∨ n = 11 ∨ n = 12 := by omega
  rcases this with rfl | rfl | rfl | rfl | rfl | rfl | rfl | rfl | rfl | rfl | rfl | rfl | rfl <;> (simp [go_sem, lenK]; show _ = _; decide)
theorem Len_c (n : Nat) (h : n ≤ 12) : ACalls Try.prog 84 [.val (.int .u64 n)] (· = .one (.sv (iv (lenK n)))) := by
  refine ACalls.of_bodyS (fun _ _ => Try.call84 _ _) Try.func84 rfl Try.ntmps84 (by simp) ?_
  refine Tr.ex ?_
  have hl := Len64_c n h
  generalize lenK n = k at *
  simp [go_sem]
  refine OpW.fn true hl rfl rfl (by simp [go_sem]) (by rintro _ r rfl; simp [go_sem]) ?_
  rintro r rfl
  simp [go_sem]
theorem sortR_c (l : List Rk) (f : FuncId) (caps : List SV) (c : Rk → Rk → Int) (S : Rk → Prop) (hp : ∀ a b, S a → S b → ACalls Try.prog f ([rkSV a, rkSV b] ++ caps) (· = .one (.sv (iv (c a b))))) (hS : ∀ z ∈ l, S z) (hlen : l.length ≤ 12) :
    ACallsI Try.prog 60 [.own, .sv (.fn f caps)] (.row 2 (l.map rkSV)) (fun r o => r = .many [] ∧ o = .row 2 ((srt (fun a b => decide (c a b < 0)) l).map rkSV)) := by
  refine ACallsI.of_body (fun _ _ => Try.call60 _ _) Try.func60 rfl Try.ntmps60 (by simp) rfl ?_
  refine Tr.ex ?_
  have hi := pdqR_c l f caps c S (lenK l.length) hp hS hlen
  have hl := Len_c l.length hlen
  have hsl := srt_len (fun a b => decide (c a b < 0)) l
  generalize srt (fun a b => decide (c a b < 0)) l = g at *
  generalize lenK l.length = k at *
  have hw : IntKind.u64.wrap (l.length : Int) = l.length := by rw [u64w] <;> omega
  simp [go_sem, hw]
  refine OpW.fn true hl rfl rfl (by simp [go_sem]) (by rintro _ r rfl; simp [go_sem]) ?_
  rintro r rfl
  simp [go_sem]
  refine OpW.callI 1000000 hi rfl (by simp [go_sem]) (by simp [go_sem]) (by simp [go_sem]) (by simp [go_sem]) ?_
  rintro r o ⟨rfl, rfl⟩
  simp [go_sem, hsl]
end Go.Proofs.Ytnkcenafpigmbaa.Ab
