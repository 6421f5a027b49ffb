/- slices.SortStableFunc at []Int. -/
import Derived.Test.YtpjcicbohgcehaaSoQ
import Derived.Test.YtpjcicbohgcehaaAx1
import Derived.Test.YtpjcicbohgcehaaShG
namespace Go.Proofs.Ytpjcicbohgcehaa.Ab
open Go.RowKit
set_option linter.unusedVariables false
set_option linter.unusedSimpArgs false

def ltFI (c : Int → Int → Int) (a b : Int) : Bool := decide (c a b < 0)
set_option maxHeartbeats 8000000 in
set_option maxRecDepth 100000 in
theorem swapI_c (P U M V Q g0 g1 : List Int) (a b n : Nat) (hU : U.length = V.length) (ha : a = P.length) (hb : b = P.length + U.length + M.length) (hn : n = U.length) (f : FuncId) (caps : List SV) (hg0 : g0 = P ++ U ++ M ++ V ++ Q) (hg1 : g1 = P ++ V ++ M ++ U ++ Q) (hlen : P.length + U.length + M.length + V.length + Q.length ≤ 1000000000) :
    ACallsI Try.prog 52 [.own, .sv (iv a), .sv (iv b), .sv (iv n), .sv (.fn f caps)] (.row 1 (g0.map iv)) (fun r o => r = .many [] ∧ o = .row 1 (g1.map iv)) := by
  refine ACallsI.of_body (fun _ _ => Try.call52 _ _) Try.func52 rfl Try.ntmps52 (by simp) rfl ?_
  refine Tr.ex ?_
  rw [← swpL_zero P U M V Q] at hg0
  simp [go_sem]
  refine LoopW.of (fun i : Nat => ⟨38, [(0, .own 1000000), (1, .sv (iv a)), (2, .sv (iv b)), (3, .sv (iv n)), (10, .sv (iv i))], [(1000000, .row 1 ((swpL P U M V Q i).map iv))]⟩)
    (fun i => i ≤ n) (fun i => n - i) 0 (by omega) (Ent.chk (by simp [go_sem, ← hg0])) ?_
  intro i hi
  by_cases hlt : i < n
  · have hlt' : (i : Int) < n := by omega
    have hw : IntKind.i64.wrap ((i : Int) + 1) = (i : Int) + 1 := by rw [i64w] <;> omega
    obtain ⟨u, hu⟩ : ∃ x, U[i]? = some x := ⟨_, List.getElem?_eq_getElem (by omega)⟩
    obtain ⟨v, hv⟩ : ∃ x, V[i]? = some x := ⟨_, List.getElem?_eq_getElem (by omega)⟩
    have e1 := swpL_getU (P := P) (M := M) (Q := Q) hU hu (k := a + i) (by omega)
    have e2 := swpL_getV (P := P) (M := M) (Q := Q) hU hv (k := b + i) (by omega)
    have hst := swpL_step (P := P) (M := M) (Q := Q) hU hu hv (k := a + i) (m := b + i) (by omega) (by omega)
    have hl := swpL_len (P := P) (M := M) (Q := Q) hU (i := i) (by omega)
    have hst2 := congrArg (List.map iv) hst
    have hw1 : IntKind.i64.wrap ((a : Int) + i) = ((a + i : Nat) : Int) := by rw [i64w] <;> omega
    have hw2 : IntKind.i64.wrap ((b : Int) + i) = ((b + i : Nat) : Int) := by rw [i64w] <;> omega
    generalize hgg : swpL P U M V Q (i + 1) = g' at *
    generalize swpL P U M V Q i = g at *
    have b1 : a + i < g.length := by omega
    have b2 : b + i < g.length := by omega
    have hne : a + i ≠ b + i := by omega
    generalize a + i = ka at *
    generalize b + i = kb at *
    have b1' : (ka : Int) < g.length := by omega
    have b2' : (kb : Int) < g.length := by omega
    have hg3 : ((g.map iv).set ka (iv v))[kb]? = some (iv v) := by
      rw [List.getElem?_set_ne hne, List.getElem?_map, e2]; rfl
    simp only [List.map_set, iv] at hst2
    simp only [iv] at hg3
    simp [go_sem, hlt, hlt']
    refine DrawW.rd rfl ?_
    simp [go_sem, hw1, hw2, b1, b1', b2, b2', e1, gE e1, e2, gE e2, hg3, gE hg3]
    rw [hst2]
    refine ⟨by kernel_rfl, ?_⟩
    exact ⟨i + 1, by omega, by omega, Ent.chk (by simp [go_sem, hw, hgg])⟩
  · have hil : i = U.length := by omega
    have e : swpL P U M V Q i = g1 := by rw [hil, swpL_all hU, hg1]
    rw [e]
    simp [go_sem, hlt]
def rotL (P S1 W1 W2 S2 Q : List Int) : List Int := P ++ S1 ++ W1 ++ W2 ++ S2 ++ Q
theorem rotL_len (P S1 W1 W2 S2 Q : List Int) : (rotL P S1 W1 W2 S2 Q).length = P.length + S1.length + W1.length + W2.length + S2.length + Q.length := by unfold rotL; simp only [List.length_append]
set_option maxHeartbeats 8000000 in
set_option maxRecDepth 100000 in
theorem rotI_c (P U V Q g0 g1 : List Int) (a m b : Nat) (ha : a = P.length) (hm : m = a + U.length) (hb : b = m + V.length) (hU : 0 < U.length) (hV : 0 < V.length) (f : FuncId) (caps : List SV) (hg0 : g0 = P ++ U ++ V ++ Q) (hg1 : g1 = P ++ V ++ U ++ Q) (hlen : P.length + U.length + V.length + Q.length ≤ 1000000000) :
    ACallsI Try.prog 51 [.own, .sv (iv a), .sv (iv m), .sv (iv b), .sv (.fn f caps)] (.row 1 (g0.map iv)) (fun r o => r = .many [] ∧ o = .row 1 (g1.map iv)) := by
  refine ACallsI.of_body (fun _ _ => Try.call51 _ _) Try.func51 rfl Try.ntmps51 (by simp) rfl ?_
  refine Tr.ex ?_
  have hw1 : IntKind.i64.wrap ((m : Int) - a) = U.length := by rw [i64w] <;> omega
  have hw2 : IntKind.i64.wrap ((b : Int) - m) = V.length := by rw [i64w] <;> omega
  have hr0 : rotL P [] U V [] Q = g0 := by unfold rotL; rw [hg0]; simp
  have hgl : g1.length = P.length + U.length + V.length + Q.length := by rw [hg1]; simp only [List.length_append]; omega
  have hgl0 : g0.length = g1.length := by rw [hg0, hgl]; simp only [List.length_append]
  simp [go_sem, hw1, hw2]
  refine LoopW.of (fun z : List Int × List Int × List Int × List Int => ⟨58, [(0, .own 1000000), (2, .sv (iv m)), (4, .sv (.fn f caps)), (10, .sv (iv z.2.1.length)), (11, .sv (iv z.2.2.1.length))], [(1000000, .row 1 ((rotL P z.1 z.2.1 z.2.2.1 z.2.2.2 Q).map iv))]⟩)
    (fun z => RotI g1 a m b P z.1 z.2.1 z.2.2.1 z.2.2.2 Q) (fun z => z.2.1.length + z.2.2.1.length) ([], U, V, []) ⟨by rw [hg1]; simp, by simp; omega, hU, hV⟩ (Ent.chk (by simp [go_sem, hr0])) ?_
  rintro ⟨S1, W1, W2, S2⟩ h
  simp only at h ⊢
  have hrl := rotL_len P S1 W1 W2 S2 Q
  have hTl := congrArg List.length h.fin
  simp only [List.length_append] at hTl
  have hmid := h.mid
  have h1 := h.one
  have h2 := h.two
  by_cases heq : W1.length = W2.length
  · have heq' : ((W1.length : Int) == W2.length) = true := by simp; omega
    have hw3 : IntKind.i64.wrap ((m : Int) - W1.length) = ((m - W1.length : Nat) : Int) := by rw [i64w] <;> omega
    have hfin : g1 = (P ++ S1) ++ W2 ++ [] ++ W1 ++ (S2 ++ Q) := by rw [← h.fin]; simp only [List.append_assoc, List.nil_append]
    have hst : rotL P S1 W1 W2 S2 Q = (P ++ S1) ++ W1 ++ [] ++ W2 ++ (S2 ++ Q) := by unfold rotL; simp only [List.append_assoc, List.nil_append]
    have hw4 : IntKind.i64.wrap ((m : Int) - W2.length) = ((m - W1.length : Nat) : Int) := by rw [← heq]; exact hw3
    simp [go_sem, bne, heq', hw3, heq, hw4]
    refine OpW.callI 1000000 (swapI_c (P ++ S1) W1 [] W2 (S2 ++ Q) (rotL P S1 W1 W2 S2 Q) g1 (m - W1.length) m W2.length heq (by simp; omega) (by simp; omega) heq.symm f caps hst hfin (by simp; omega)) rfl (by simp [go_sem]) (by simp [go_sem]) (by simp [go_sem]) (by simp [go_sem, heq]) ?_
    rintro r o ⟨rfl, rfl⟩
    have hll : (rotL P S1 W1 W2 S2 Q).length = g1.length := by omega
    simp [go_sem, hll, hgl0]
  have heq' : ((W1.length : Int) == W2.length) = false := by simp; omega
  by_cases hgt : W2.length < W1.length
  · have hgt' : (W2.length : Int) < W1.length := by omega
    obtain ⟨k1, k2, k3⟩ := rot_gt h hgt
    have hw3 : IntKind.i64.wrap ((m : Int) - W1.length) = ((m - W1.length : Nat) : Int) := by rw [i64w] <;> omega
    have hw4 : IntKind.i64.wrap ((W1.length : Int) - W2.length) = ((W1.length - W2.length : Nat) : Int) := by rw [i64w] <;> omega
    have hll := rotL_len P (S1 ++ W2) (W1.drop W2.length) (W1.take W2.length) S2 Q
    have hmn : min W2.length W1.length = W2.length := by omega
    have hto : ((W1.length - W2.length : Nat) : Int) = (W1.length : Int) - W2.length := by omega
    simp [go_sem, bne, heq', heq, hgt, hgt', hw3]
    refine OpW.callI 1000000 (swapI_c (P ++ S1) (W1.take W2.length) (W1.drop W2.length) W2 (S2 ++ Q) (rotL P S1 W1 W2 S2 Q) (rotL P (S1 ++ W2) (W1.drop W2.length) (W1.take W2.length) S2 Q) (m - W1.length) m W2.length (by simp; omega) (by simp; omega) (by simp; omega) (by simp; omega) f caps k2 k3.symm (by simp; omega)) rfl (by simp [go_sem]) (by simp [go_sem]) (by simp [go_sem]) (by simp [go_sem]) ?_
    rintro r o ⟨rfl, rfl⟩
    have hl2 : (rotL P S1 W1 W2 S2 Q).length = (rotL P (S1 ++ W2) (W1.drop W2.length) (W1.take W2.length) S2 Q).length := by rw [hll, hrl]; simp; omega
    simp [go_sem, hl2]
    exact ⟨S1 ++ W2, W1.drop W2.length, W1.take W2.length, S2, k1, by simp; omega, Ent.chk (by simp [go_sem, hw4, hmn])⟩
  · have hgt' : ¬ (W2.length : Int) < W1.length := by omega
    obtain ⟨k1, k2, k3⟩ := rot_lt h (by omega)
    have hw3 : IntKind.i64.wrap ((m : Int) - W1.length) = ((m - W1.length : Nat) : Int) := by rw [i64w] <;> omega
    have hw5 : IntKind.i64.wrap ((m : Int) + W2.length) = ((m + W2.length : Nat) : Int) := by rw [i64w] <;> omega
    have hw6 : IntKind.i64.wrap ((m : Int) + W2.length - W1.length) = ((m + W2.length - W1.length : Nat) : Int) := by rw [i64w] <;> omega
    have hw4 : IntKind.i64.wrap ((W2.length : Int) - W1.length) = ((W2.length - W1.length : Nat) : Int) := by rw [i64w] <;> omega
    have hll := rotL_len P S1 (W2.drop (W2.length - W1.length)) (W2.take (W2.length - W1.length)) (W1 ++ S2) Q
    have hw7 : IntKind.i64.wrap ((m : Int) + W2.length) = (m : Int) + W2.length := by rw [i64w] <;> omega
    simp [go_sem, bne, heq', heq, hgt, hgt', hw3, hw7, hw6]
    refine OpW.callI 1000000 (swapI_c (P ++ S1) W1 (W2.take (W2.length - W1.length)) (W2.drop (W2.length - W1.length)) (S2 ++ Q) (rotL P S1 W1 W2 S2 Q) (rotL P S1 (W2.drop (W2.length - W1.length)) (W2.take (W2.length - W1.length)) (W1 ++ S2) Q) (m - W1.length) (m + W2.length - W1.length) W1.length (by simp; omega) (by simp; omega) (by simp; omega) rfl f caps k2 k3.symm (by simp; omega)) rfl (by simp [go_sem]) (by simp [go_sem]) (by simp [go_sem]) (by simp [go_sem]) ?_
    rintro r o ⟨rfl, rfl⟩
    have hl2 : (rotL P S1 W1 W2 S2 Q).length = (rotL P S1 (W2.drop (W2.length - W1.length)) (W2.take (W2.length - W1.length)) (W1 ++ S2) Q).length := by rw [hll, hrl]; simp; omega
    have hmn : min (W2.length - W1.length) W2.length = W2.length - W1.length := by omega
    have hdn : W2.length - (W2.length - W1.length) = W1.length := by omega
    simp [go_sem, hl2]
    exact ⟨S1, W2.drop (W2.length - W1.length), W2.take (W2.length - W1.length), W1 ++ S2, k1, by simp; omega, Ent.chk (by simp [go_sem, hw4, hmn, hdn])⟩
theorem fwd0I (A : List Int) (x : Int) (D C : List Int) : fwdL A x D C 0 = A ++ x :: (D ++ C) := by simp [fwdL]
theorem fwdNI (A : List Int) (x : Int) (D C : List Int) : fwdL A x D C D.length = A ++ D ++ x :: C := by simp [fwdL]
def PostI (R : Int → Int → Prop) (X Y A C : List Int) (g : List Int) : Prop := ∃ Z, Mgd R X Y Z ∧ g = A ++ Z ++ C
set_option maxHeartbeats 16000000 in
set_option maxRecDepth 100000 in
/-- One of the left, into the right ones. -/
theorem mrgXI_c (R : Int → Int → Prop) (ht : ∀ a b c, R a b → R b c → R a c) (f : FuncId) (caps : List SV) (c : Int → Int → Int) (S : Int → Prop) (hp : ∀ a b, S a → S b → ACalls Try.prog f ([iv a, iv b] ++ caps) (· = .one (.sv (iv (c a b)))))
    (A Y C g0 : List Int) (x : Int) (a m b : Nat) (hY : 0 < Y.length) (ha : a = A.length) (hm : m = a + 1) (hb : b = m + Y.length) (hg0 : g0 = A ++ [x] ++ Y ++ C) (hI : MgI R c [x] Y) (hS : ∀ z, z = x ∨ z ∈ Y → S z) (hlen : g0.length ≤ 1000000000) :
    ACallsI Try.prog 48 [.own, .sv (iv a), .sv (iv m), .sv (iv b), .sv (.fn f caps)] (.row 1 (g0.map iv)) (fun r o => r = .many [] ∧ ∃ g, PostI R [x] Y A C g ∧ o = .row 1 (g.map iv)) := by
  refine ACallsI.of_body (fun _ _ => Try.call48 _ _) Try.func48 rfl Try.ntmps48 (by simp) rfl ?_
  refine Tr.ex ?_
  have hw1 : IntKind.i64.wrap ((m : Int) - a) = 1 := by rw [i64w] <;> omega
  have hgl : g0.length = A.length + 1 + Y.length + C.length := by rw [hg0]; simp; omega
  have hgx : g0[a]? = some x := by rw [hg0, List.append_assoc, List.append_assoc]; exact get_mid ha
  have hgy : ∀ {h : Nat} {y : Int}, Y[h - m]? = some y → m ≤ h → g0[h]? = some y := fun {h y} hy hh => by
    have h3 := (List.getElem?_eq_some_iff.1 hy).1
    rw [hg0, List.getElem?_append_left (by simp; omega), List.getElem?_append_right (by simp; omega)]
    rw [show h - (A ++ [x]).length = h - m by simp; omega]; exact hy
  simp [go_sem, hw1]
  refine LoopW.of (fun z : Nat × Nat => ⟨220, [(0, .own 1000000), (1, .sv (iv a)), (2, .sv (iv m)), (3, .sv (iv b)), (4, .sv (.fn f caps)), (10, .sv (iv z.1)), (11, .sv (iv z.2))], [(1000000, .row 1 (g0.map iv))]⟩)
    (fun z => m ≤ z.1 ∧ z.1 ≤ z.2 ∧ z.2 ≤ b ∧ (∀ y ∈ Y.take (z.1 - m), R y x) ∧ ∀ y ∈ Y.drop (z.2 - m), R x y) (fun z => z.2 - z.1) (m, b) ⟨by simp, by simp; omega, by simp, by simp, by rw [show b - m = Y.length by omega]; simp⟩ (Ent.chk (by simp [go_sem])) ?_
  rintro ⟨i, j⟩ ⟨h1, h2, h3, h4, h5⟩
  simp only at h1 h2 h3 h4 h5 ⊢
  by_cases hij : i < j
  · have hij' : (i : Int) < j := by omega
    have hwa : IntKind.i64.wrap ((i : Int) + j) = (i : Int) + j := by rw [i64w] <;> omega
    have hmid : IntKind.i64.wrap ((IntKind.u64.wrap ((i : Int) + j)).fdiv 2) = (((i + j) / 2 : Nat) : Int) := by
      rw [u64w _ (by omega) (by omega), Int.fdiv_eq_ediv_of_nonneg _ (by decide), i64w] <;> omega
    have hm1 : i ≤ (i + j) / 2 := by omega
    have hm2 : (i + j) / 2 < j := by omega
    generalize (i + j) / 2 = h at *
    obtain ⟨y, hy⟩ : ∃ y, Y[h - m]? = some y := ⟨_, List.getElem?_eq_getElem (by omega)⟩
    have hgh := hgy hy (by omega)
    have b1 : h < g0.length := by omega
    have b1' : (h : Int) < g0.length := by omega
    have b2 : a < g0.length := by omega
    have b2' : (a : Int) < g0.length := by omega
    have hwh : IntKind.i64.wrap ((h : Int) + 1) = (h : Int) + 1 := by rw [i64w] <;> omega
    have hym := List.mem_of_getElem? hy
    have hcl := hp y x (hS y (.inr hym)) (hS x (.inl rfl))
    have hlt := hI.lt x List.mem_cons_self y hym
    have hge := hI.ge x List.mem_cons_self y hym
    simp [go_sem, hij, hij', hwa, hmid]
    refine DrawW.rd rfl ?_
    simp [go_sem, b1, b1', b2, b2', hgh, gE hgh, hgx, gE hgx]
    refine OpD.callF (g := f) (caps := caps) (ys := [iv y, iv x]) true hcl rfl rfl (by simp [go_sem]) (by simp [go_sem]) (by intro _; simp [go_sem]) (by simp [go_sem]) (by simp [go_sem]) ?_
    simp [go_sem]
    refine ⟨by kernel_rfl, ?_⟩
    by_cases hc : c y x < 0
    · have := take_R ht hI.sy hy (hlt hc)
      simp [go_sem, hc]
      exact ⟨h + 1, j, ⟨by omega, by omega, by omega, by rw [show h + 1 - m = h - m + 1 by omega]; exact this, h5⟩, by omega, Ent.chk (by simp [go_sem, hwh])⟩
    · have := drop_R ht hI.sy hy (hge hc)
      simp [go_sem, hc]
      exact ⟨i, h, ⟨by omega, by omega, by omega, h4, this⟩, by omega, Ent.chk (by simp [go_sem])⟩
  · have hje : j = i := by omega
    subst hje
    have hD : (Y.take (j - m)).length = j - m := by simp; omega
    have hg1 : fwdL A x (Y.take (j - m)) (Y.drop (j - m) ++ C) 0 = g0 := by
      rw [fwd0I, hg0, ← List.append_assoc (Y.take _), List.take_append_drop]; simp
    have hg2 : fwdL A x (Y.take (j - m)) (Y.drop (j - m) ++ C) (Y.take (j - m)).length = A ++ (Y.take (j - m) ++ x :: Y.drop (j - m)) ++ C := by
      rw [fwdNI]; simp
    have hZ : Mgd R [x] Y (Y.take (j - m) ++ x :: Y.drop (j - m)) := by
      refine ⟨?_, Mgd.one (by rw [List.take_append_drop]; exact hI.sy) h4 h5⟩
      refine List.perm_middle.trans ?_
      rw [List.take_append_drop]; exact List.Perm.refl _
    have hfl := fwdL_len A x (Y.take (j - m)) (Y.drop (j - m) ++ C)
    have hCl : (Y.drop (j - m) ++ C).length = Y.length - (j - m) + C.length := by simp
    generalize Y.take (j - m) = D at *
    generalize Y.drop (j - m) = G at *
    simp [go_sem]
    refine LoopW.of (fun k : Nat => ⟨220, [(0, .own 1000000), (1, .sv (iv a)), (2, .sv (iv m)), (3, .sv (iv b)), (4, .sv (.fn f caps)), (10, .sv (iv j)), (13, .sv (iv k))], [(1000000, .row 1 ((fwdL A x D (G ++ C) (k - a)).map iv))]⟩)
      (fun k => a ≤ k ∧ k + 1 ≤ j) (fun k => j - k) a ⟨by omega, by omega⟩ (Ent.chk (by simp [go_sem, hg1])) ?_
    rintro k ⟨hk1, hk2⟩
    have hwj : IntKind.i64.wrap ((j : Int) - 1) = ((j - 1 : Nat) : Int) := by rw [i64w] <;> omega
    by_cases hkj : k < j - 1
    · have hkj' : (k : Int) < ((j - 1 : Nat) : Int) := by omega
      have hwk : IntKind.i64.wrap ((k : Int) + 1) = ((k + 1 : Nat) : Int) := by rw [i64w] <;> omega
      obtain ⟨d, hd⟩ : ∃ y, D[k - a]? = some y := ⟨_, List.getElem?_eq_getElem (by omega)⟩
      have e1 := fwdL_at (A := A) (x := x) (C := G ++ C) (D := D) (k := k - a) (i := k) (by omega) (by omega)
      have e2 := fwdL_next (A := A) (x := x) (C := G ++ C) hd (i := k + 1) (by omega)
      have hst := fwdL_step (A := A) (x := x) (C := G ++ C) hd (i := k) (j := k + 1) (by omega) rfl
      have hl := hfl (k - a)
      have hst2 := congrArg (List.map iv) hst
      rw [show k - a + 1 = k + 1 - a by omega] at hst hst2
      generalize hgg : fwdL A x D (G ++ C) (k + 1 - a) = g' at *
      generalize fwdL A x D (G ++ C) (k - a) = g at *
      have b1 : k < g.length := by omega
      have b1' : (k : Int) < g.length := by omega
      have b2 : k + 1 < g.length := by omega
      have b2' : ((k + 1 : Nat) : Int) < g.length := by omega
      have hne : k ≠ k + 1 := by omega
      have hk1c : ((k + 1 : Nat) : Int) = (k : Int) + 1 := by omega
      have hk10 : (0 : Int) ≤ (k : Int) + 1 := by omega
      have hk1n : ((k : Int) + 1).toNat = k + 1 := by omega
      have hg3 : ((g.map iv).set k (iv d))[k + 1]? = some (iv d) := by
        rw [List.getElem?_set_ne hne, List.getElem?_map, e2]; rfl
      simp only [List.map_set, iv] at hst2
      simp only [iv] at hg3
      rw [hk1c] at hwk b2'
      simp [go_sem, hwj, hkj, hkj']
      refine DrawW.rd rfl ?_
      simp [go_sem, hwk, hk10, hk1n, b1, b1', b2, b2', e1, gE e1, e2, gE e2, hg3, gE hg3]
      rw [hst2]
      refine ⟨by kernel_rfl, ?_⟩
      exact ⟨k + 1, ⟨by omega, by omega⟩, by omega, Ent.chk (by simp [go_sem, hwk, hgg])⟩
    · have hke : k - a = D.length := by omega
      have hkj' : ¬ (k : Int) < ((j - 1 : Nat) : Int) := by omega
      rw [hke, hg2]
      have hlg : g0.length = (A ++ (D ++ x :: G) ++ C).length := by rw [← hg2, ← hg1, hfl, hfl]
      have hpo : PostI R [x] Y A C (A ++ (D ++ x :: G) ++ C) := ⟨_, hZ, rfl⟩
      generalize A ++ (D ++ x :: G) ++ C = g at *
      simp [go_sem, hwj, hkj, hkj', hlg]
      exact ⟨g, hpo, rfl⟩
set_option maxHeartbeats 16000000 in
set_option maxRecDepth 100000 in
/-- One of the right, into the left ones. -/
theorem mrgYI_c (R : Int → Int → Prop) (ht : ∀ a b c, R a b → R b c → R a c) (f : FuncId) (caps : List SV) (c : Int → Int → Int) (S : Int → Prop) (hp : ∀ a b, S a → S b → ACalls Try.prog f ([iv a, iv b] ++ caps) (· = .one (.sv (iv (c a b)))))
    (A X C g0 : List Int) (y : Int) (a m b : Nat) (hX : 1 < X.length) (ha : a = A.length) (hm : m = a + X.length) (hb : b = m + 1) (hg0 : g0 = A ++ X ++ [y] ++ C) (hI : MgI R c X [y]) (hS : ∀ z, z ∈ X ∨ z = y → S z) (hlen : g0.length ≤ 1000000000) :
    ACallsI Try.prog 48 [.own, .sv (iv a), .sv (iv m), .sv (iv b), .sv (.fn f caps)] (.row 1 (g0.map iv)) (fun r o => r = .many [] ∧ ∃ g, PostI R X [y] A C g ∧ o = .row 1 (g.map iv)) := by
  refine ACallsI.of_body (fun _ _ => Try.call48 _ _) Try.func48 rfl Try.ntmps48 (by simp) rfl ?_
  refine Tr.ex ?_
  have hgl : g0.length = A.length + X.length + 1 + C.length := by rw [hg0]; simp; omega
  have hw1 : IntKind.i64.wrap ((m : Int) - a) = X.length := by rw [i64w] <;> omega
  have hw2 : IntKind.i64.wrap ((b : Int) - m) = 1 := by rw [i64w] <;> omega
  have hX1 : ((X.length : Int) == 1) = false := by simp; omega
  have hX2 : ¬ X.length = 1 := by omega
  have hgy : g0[m]? = some y := by rw [hg0, List.append_assoc (A ++ X)]; exact get_mid (by simp; omega)
  have hgx : ∀ {h : Nat} {x : Int}, X[h - a]? = some x → a ≤ h → g0[h]? = some x := fun {h x} hx hh => by
    have h3 := (List.getElem?_eq_some_iff.1 hx).1
    rw [hg0, List.append_assoc, List.getElem?_append_left (by simp; omega), List.getElem?_append_right (by omega)]
    rw [show h - A.length = h - a by omega]; exact hx
  simp [go_sem, hw1, hX1, hX2, hw2]
  refine LoopW.of (fun z : Nat × Nat => ⟨220, [(0, .own 1000000), (1, .sv (iv a)), (2, .sv (iv m)), (3, .sv (iv b)), (4, .sv (.fn f caps)), (14, .sv (iv z.1)), (15, .sv (iv z.2))], [(1000000, .row 1 (g0.map iv))]⟩)
    (fun z => a ≤ z.1 ∧ z.1 ≤ z.2 ∧ z.2 ≤ m ∧ (∀ x ∈ X.take (z.1 - a), R x y) ∧ ∀ x ∈ X.drop (z.2 - a), R y x) (fun z => z.2 - z.1) (a, m) ⟨by simp, by simp; omega, by simp, by simp, by rw [show m - a = X.length by omega]; simp⟩ (Ent.chk (by simp [go_sem])) ?_
  rintro ⟨i, j⟩ ⟨h1, h2, h3, h4, h5⟩
  simp only at h1 h2 h3 h4 h5 ⊢
  by_cases hij : i < j
  · have hij' : (i : Int) < j := by omega
    have hwa : IntKind.i64.wrap ((i : Int) + j) = (i : Int) + j := by rw [i64w] <;> omega
    have hmid : IntKind.i64.wrap ((IntKind.u64.wrap ((i : Int) + j)).fdiv 2) = (((i + j) / 2 : Nat) : Int) := by
      rw [u64w _ (by omega) (by omega), Int.fdiv_eq_ediv_of_nonneg _ (by decide), i64w] <;> omega
    have hm1 : i ≤ (i + j) / 2 := by omega
    have hm2 : (i + j) / 2 < j := by omega
    generalize (i + j) / 2 = h at *
    obtain ⟨x, hx⟩ : ∃ x, X[h - a]? = some x := ⟨_, List.getElem?_eq_getElem (by omega)⟩
    have hgh := hgx hx (by omega)
    have b1 : h < g0.length := by omega
    have b1' : (h : Int) < g0.length := by omega
    have b2 : m < g0.length := by omega
    have b2' : (m : Int) < g0.length := by omega
    have hwh : IntKind.i64.wrap ((h : Int) + 1) = (h : Int) + 1 := by rw [i64w] <;> omega
    have hxm := List.mem_of_getElem? hx
    have hcl := hp y x (hS y (.inr rfl)) (hS x (.inl hxm))
    have hlt := hI.lt x hxm y List.mem_cons_self
    have hge := hI.ge x hxm y List.mem_cons_self
    simp [go_sem, hij, hij', hwa, hmid]
    refine DrawW.rd rfl ?_
    simp [go_sem, b1, b1', b2, b2', hgh, gE hgh, hgy, gE hgy]
    refine OpD.callF (g := f) (caps := caps) (ys := [iv y, iv x]) true hcl rfl rfl (by simp [go_sem]) (by simp [go_sem]) (by intro _; simp [go_sem]) (by simp [go_sem]) (by simp [go_sem]) ?_
    simp [go_sem]
    refine ⟨by kernel_rfl, ?_⟩
    by_cases hc : c y x < 0
    · have := drop_R ht hI.sx hx (hlt hc)
      simp [go_sem, hc]
      exact ⟨i, h, ⟨by omega, by omega, by omega, h4, this⟩, by omega, Ent.chk (by simp [go_sem])⟩
    · have := take_R ht hI.sx hx (hge hc)
      simp [go_sem, hc]
      exact ⟨h + 1, j, ⟨by omega, by omega, by omega, by rw [show h + 1 - a = h - a + 1 by omega]; exact this, h5⟩, by omega, Ent.chk (by simp [go_sem, hwh])⟩
  · have hje : j = i := by omega
    subst hje
    have hD : (X.drop (j - a)).length = m - j := by simp; omega
    have hT : (X.take (j - a)).length = j - a := by simp; omega
    have hg1 : fwdL (A ++ X.take (j - a)) y (X.drop (j - a)) C (X.drop (j - a)).length = g0 := by
      rw [fwdNI, hg0, List.append_assoc A, List.take_append_drop]; simp
    have hg2 : fwdL (A ++ X.take (j - a)) y (X.drop (j - a)) C 0 = A ++ (X.take (j - a) ++ y :: X.drop (j - a)) ++ C := by
      rw [fwd0I]; simp
    have hZ : Mgd R X [y] (X.take (j - a) ++ y :: X.drop (j - a)) := by
      refine ⟨?_, Mgd.one (by rw [List.take_append_drop]; exact hI.sx) h4 h5⟩
      refine List.perm_middle.trans ?_
      rw [List.take_append_drop]; exact List.perm_append_comm (l₁ := [y])
    have hfl := fwdL_len (A ++ X.take (j - a)) y (X.drop (j - a)) C
    rw [List.length_append] at hfl
    have hAl : (A ++ X.take (j - a)).length = j := by rw [List.length_append]; omega
    generalize X.take (j - a) = G at *
    generalize X.drop (j - a) = D at *
    generalize hB : A ++ G = B at *
    simp [go_sem]
    refine LoopW.of (fun k : Nat => ⟨220, [(0, .own 1000000), (1, .sv (iv a)), (2, .sv (iv m)), (3, .sv (iv b)), (4, .sv (.fn f caps)), (14, .sv (iv j)), (17, .sv (iv k))], [(1000000, .row 1 ((fwdL B y D C (k - j)).map iv))]⟩)
      (fun k => j ≤ k ∧ k ≤ m) (fun k => k) m ⟨by omega, by omega⟩ (Ent.chk (by simp [go_sem, ← hD, hg1])) ?_
    rintro k ⟨hk1, hk2⟩
    by_cases hkj : j < k
    · have hkj' : (j : Int) < k := by omega
      have hwk : IntKind.i64.wrap ((k : Int) - 1) = ((k - 1 : Nat) : Int) := by rw [i64w] <;> omega
      obtain ⟨d, hd⟩ : ∃ y, D[k - 1 - j]? = some y := ⟨_, List.getElem?_eq_getElem (by omega)⟩
      have e1 := fwdL_at (A := B) (x := y) (C := C) (D := D) (k := k - j) (i := k) (by omega) (by omega)
      have e2 := fwdL_prev (A := B) (x := y) (C := C) hd (i := k - 1) (by omega)
      have hst := fwdL_back (A := B) (x := y) (C := C) hd (i := k) (j := k - 1) (by omega) (by omega)
      have hl := hfl (k - j)
      rw [show k - 1 - j + 1 = k - j by omega] at hst e2
      have hst2 := congrArg (List.map iv) hst
      generalize hgg : fwdL B y D C (k - 1 - j) = g' at *
      generalize fwdL B y D C (k - j) = g at *
      have b1 : k < g.length := by omega
      have b1' : (k : Int) < g.length := by omega
      have b2 : k - 1 < g.length := by omega
      have b2' : ((k - 1 : Nat) : Int) < g.length := by omega
      have hne : k ≠ k - 1 := by omega
      have hg3 : ((g.map iv).set k (iv d))[k - 1]? = some (iv d) := by
        rw [List.getElem?_set_ne hne, List.getElem?_map, e2]; rfl
      simp only [List.map_set, iv] at hst2
      simp only [iv] at hg3
      simp [go_sem, hkj, hkj']
      refine DrawW.rd rfl ?_
      simp [go_sem, hwk, b1, b1', b2, b2', e1, gE e1, e2, gE e2, hg3, gE hg3]
      rw [hst2]
      refine ⟨by kernel_rfl, ?_⟩
      exact ⟨k - 1, ⟨by omega, by omega⟩, by omega, Ent.chk (by simp [go_sem, hwk, hgg])⟩
    · have hke : k - j = 0 := by omega
      have hkj' : ¬ (j : Int) < k := by omega
      rw [hke, hg2]
      have hlg : g0.length = (A ++ (G ++ y :: D) ++ C).length := by rw [← hg2, ← hg1, hfl, hfl]
      have hpo : PostI R X [y] A C (A ++ (G ++ y :: D) ++ C) := ⟨_, hZ, rfl⟩
      generalize A ++ (G ++ y :: D) ++ C = g at *
      simp [go_sem, hkj, hkj', hlg]
      exact ⟨g, hpo, rfl⟩
/-- How far the search for the place to cut has come. -/
structure CutI (R : Int → Int → Prop) (X Y : List Int) (a m p lo hi s r : Nat) : Prop where
  l1 : lo ≤ s
  l2 : s ≤ r
  l3 : r ≤ hi
  below : s = lo ∨ ∃ x y, X[s - 1 - a]? = some x ∧ Y[p - (s - 1) - m]? = some y ∧ R x y
  above : r = hi ∨ ∃ x y, X[r - a]? = some x ∧ Y[p - r - m]? = some y ∧ R y x
set_option maxHeartbeats 16000000 in
set_option maxRecDepth 100000 in
/-- Two rows side by side are merged. -/
theorem mrgI_c (R : Int → Int → Prop) (ht : ∀ a b c, R a b → R b c → R a c) (f : FuncId) (caps : List SV) (c : Int → Int → Int) (S : Int → Prop) (hp : ∀ a b, S a → S b → ACalls Try.prog f ([iv a, iv b] ++ caps) (· = .one (.sv (iv (c a b))))) :
    ∀ (N : Nat) (A X Y C g0 : List Int) (a m b : Nat) (hN : X.length + Y.length = N) (hX : 0 < X.length) (hY : 0 < Y.length) (ha : a = A.length) (hm : m = a + X.length) (hb : b = m + Y.length) (hg0 : g0 = A ++ X ++ Y ++ C) (hI : MgI R c X Y) (hS : ∀ z, z ∈ X ∨ z ∈ Y → S z) (hlen : g0.length ≤ 1000000000),
    ACallsI Try.prog 48 [.own, .sv (iv a), .sv (iv m), .sv (iv b), .sv (.fn f caps)] (.row 1 (g0.map iv)) (fun r o => r = .many [] ∧ ∃ g, PostI R X Y A C g ∧ o = .row 1 (g.map iv)) := by
  intro N
  induction N using Nat.strongRecOn with
  | _ N ih =>
  intro A X Y C g0 a m b hN hX hY ha hm hb hg0 hI hS hlen
  by_cases hX1 : X.length = 1
  · obtain ⟨x, rfl⟩ := List.length_eq_one_iff.1 hX1
    exact mrgXI_c R ht f caps c S hp A Y C g0 x a m b hY ha hm hb hg0 hI (fun z hz => hS z (hz.imp (fun h => by rw [h]; exact List.mem_cons_self) id)) hlen
  by_cases hY1 : Y.length = 1
  · obtain ⟨y, rfl⟩ := List.length_eq_one_iff.1 hY1
    exact mrgYI_c R ht f caps c S hp A X C g0 y a m b (by omega) ha hm hb hg0 hI (fun z hz => hS z (hz.imp id (fun h => by rw [h]; exact List.mem_cons_self))) hlen
  refine ACallsI.of_body (fun _ _ => Try.call48 _ _) Try.func48 rfl Try.ntmps48 (by simp) rfl ?_
  refine Tr.ex ?_
  have hgl : g0.length = A.length + X.length + Y.length + C.length := by rw [hg0]; simp only [List.length_append]
  have hw1 : IntKind.i64.wrap ((m : Int) - a) = X.length := by rw [i64w] <;> omega
  have hw2 : IntKind.i64.wrap ((b : Int) - m) = Y.length := by rw [i64w] <;> omega
  have c1 : ((X.length : Int) == 1) = false := by simp; omega
  have c2 : ((Y.length : Int) == 1) = false := by simp; omega
  have hwab : IntKind.i64.wrap ((a : Int) + b) = (a : Int) + b := by rw [i64w] <;> omega
  have hwmid : IntKind.i64.wrap ((IntKind.u64.wrap ((a : Int) + b)).fdiv 2) = (((a + b) / 2 : Nat) : Int) := by
    rw [u64w _ (by omega) (by omega), Int.fdiv_eq_ediv_of_nonneg _ (by decide), i64w] <;> omega
  obtain ⟨mid, hmid⟩ : ∃ mid, mid = (a + b) / 2 := ⟨_, rfl⟩
  rw [← hmid] at hwmid
  have hmid1 : 2 * mid ≤ a + b := by omega
  have hmid2 : a + b ≤ 2 * mid + 1 := by omega
  clear hmid
  have hwn : IntKind.i64.wrap ((mid : Int) + m) = ((mid + m : Nat) : Int) := by rw [i64w] <;> omega
  have hgx : ∀ {h : Nat} {x : Int}, X[h - a]? = some x → a ≤ h → g0[h]? = some x := fun {h x} hx hh => by
    have h3 := (List.getElem?_eq_some_iff.1 hx).1
    rw [hg0, List.append_assoc, List.getElem?_append_left (by simp; omega), List.getElem?_append_right (by omega)]
    rw [show h - A.length = h - a by omega]; exact hx
  have hgy : ∀ {h : Nat} {y : Int}, Y[h - m]? = some y → m ≤ h → g0[h]? = some y := fun {h y} hy hh => by
    have h3 := (List.getElem?_eq_some_iff.1 hy).1
    rw [hg0, List.getElem?_append_left (by simp; omega), List.getElem?_append_right (by simp; omega)]
    rw [show h - (A ++ X).length = h - m by simp; omega]; exact hy
  obtain ⟨n, hn⟩ : ∃ n, n = mid + m := ⟨_, rfl⟩
  rw [← hn] at hwn
  have hwp : IntKind.i64.wrap ((n : Int) - 1) = ((n - 1 : Nat) : Int) := by rw [i64w] <;> omega
  obtain ⟨lo, hi, hlh⟩ : ∃ lo hi, (mid < m ∧ n = lo + b ∧ hi = mid) ∨ (¬ mid < m ∧ lo = a ∧ hi = m) := by
    by_cases h : mid < m
    · exact ⟨n - b, mid, .inl ⟨h, by omega, rfl⟩⟩
    · exact ⟨a, m, .inr ⟨h, rfl, rfl⟩⟩
  have hlo : a ≤ lo ∧ lo ≤ hi ∧ hi ≤ m ∧ hi ≤ mid := by omega
  have hcb : ∀ q, lo ≤ q → q < hi → a ≤ q ∧ q < m ∧ m + q < n ∧ n ≤ b + q := fun q h1 h2 => by omega
  simp [go_sem, hw1, c1, hX1, hw2, c2, hY1, hwab, hwmid, hwn]
  by_cases hmm : mid < m
  case' pos =>
    have hmm' : (mid : Int) < m := by omega
    have elo : (n : Int) - b = (lo : Int) := by omega
    have ehi : mid = hi := by omega
    have hwlo : IntKind.i64.wrap (lo : Int) = lo := by rw [i64w] <;> omega
    simp [go_sem, hmm, hmm', elo, hwlo, hwp]
  case' neg =>
    have hmm' : ¬ (mid : Int) < m := by omega
    have elo : a = lo := by omega
    have ehi : m = hi := by omega
    simp [go_sem, hmm, hmm', hwp]
  all_goals
    refine LoopW.halt ?_
    refine LoopW.of (fun z : Nat × Nat => ⟨220, [(0, .own 1000000), (1, .sv (iv a)), (2, .sv (iv m)), (3, .sv (iv b)), (4, .sv (.fn f caps)), (18, .sv (iv mid)), (19, .sv (iv n)), (20, .sv (iv z.1)), (21, .sv (iv z.2)), (22, .sv (iv ((n - 1 : Nat) : Int)))], [(1000000, .row 1 (g0.map iv))]⟩)
      (fun z => CutI R X Y a m (n - 1) lo hi z.1 z.2) (fun z => z.2 - z.1) (lo, hi) ⟨Nat.le_refl _, hlo.2.1, Nat.le_refl _, .inl rfl, .inl rfl⟩ (Ent.chk (by simp [go_sem, elo, ehi])) ?_
    rintro ⟨s, r⟩ hC
    simp only at hC ⊢
    obtain ⟨h1, h2, h3, h4, h5⟩ := hC
    by_cases hsr : s < r
    · have hsr' : (s : Int) < r := by omega
      have hwa : IntKind.i64.wrap ((s : Int) + r) = (s : Int) + r := by rw [i64w] <;> omega
      have hmd : IntKind.i64.wrap ((IntKind.u64.wrap ((s : Int) + r)).fdiv 2) = (((s + r) / 2 : Nat) : Int) := by
        rw [u64w _ (by omega) (by omega), Int.fdiv_eq_ediv_of_nonneg _ (by decide), i64w] <;> omega
      have hm1 : s ≤ (s + r) / 2 := by omega
      have hm2 : (s + r) / 2 < r := by omega
      generalize (s + r) / 2 = q at *
      obtain ⟨q1, q2, q3, q4⟩ := hcb q (by omega) (by omega)
      obtain ⟨x, hx⟩ : ∃ x, X[q - a]? = some x := ⟨_, List.getElem?_eq_getElem (by omega)⟩
      obtain ⟨y, hy⟩ : ∃ y, Y[n - 1 - q - m]? = some y := ⟨_, List.getElem?_eq_getElem (by omega)⟩
      have e1 := hgx hx (by omega)
      have e2 := hgy hy (by omega)
      have b1 : q < g0.length := by omega
      have b1' : (q : Int) < g0.length := by omega
      have b2 : n - 1 - q < g0.length := by omega
      have b2' : ((n - 1 - q : Nat) : Int) < g0.length := by omega
      have hwq : IntKind.i64.wrap ((q : Int) + 1) = (q : Int) + 1 := by rw [i64w] <;> omega
      have hwpq : IntKind.i64.wrap (((n - 1 : Nat) : Int) - q) = ((n - 1 - q : Nat) : Int) := by rw [i64w] <;> omega
      have hxm := List.mem_of_getElem? hx
      have hym := List.mem_of_getElem? hy
      have hcl := hp y x (hS y (.inr hym)) (hS x (.inl hxm))
      have hlt := hI.lt x hxm y hym
      have hge := hI.ge x hxm y hym
      simp [go_sem, hsr, hsr', hwa, hmd]
      refine DrawW.rd rfl ?_
      simp [go_sem, hwpq, b1, b1', b2, b2', e1, gE e1, e2, gE e2]
      refine OpD.callF (g := f) (caps := caps) (ys := [iv y, iv x]) true hcl rfl rfl (by simp [go_sem]) (by simp [go_sem]) (by intro _; simp [go_sem]) (by simp [go_sem]) (by simp [go_sem]) ?_
      simp [go_sem]
      refine ⟨by kernel_rfl, ?_⟩
      by_cases hc : c y x < 0
      · simp [go_sem, hc]
        exact ⟨s, q, ⟨h1, hm1, by omega, h4, .inr ⟨x, y, hx, hy, hlt hc⟩⟩, by omega, Ent.chk (by simp [go_sem])⟩
      · simp [go_sem, hc]
        exact ⟨q + 1, r, ⟨by omega, by omega, h3, .inr ⟨x, y, by rw [show q + 1 - 1 = q by omega]; exact hx, by rw [show q + 1 - 1 = q by omega]; exact hy, hge hc⟩, h5⟩, by omega, Ent.chk (by simp [go_sem, hwq])⟩
    · have hre : r = s := by omega
      subst hre
      obtain ⟨e, he⟩ : ∃ e, e + r = n := ⟨n - r, by omega⟩
      have hwe : IntKind.i64.wrap ((n : Int) - r) = (e : Int) := by rw [i64w] <;> omega
      have hrb : a ≤ r ∧ r ≤ m ∧ r ≤ mid ∧ m ≤ e ∧ e ≤ b ∧ mid ≤ e := by omega
      have hX12 : X.take (r - a) ++ X.drop (r - a) = X := List.take_append_drop _ _
      have hY12 : Y.take (e - m) ++ Y.drop (e - m) = Y := List.take_append_drop _ _
      have hA : ∀ x ∈ X.drop (r - a), ∀ y ∈ Y.take (e - m), R y x := by
        rcases h5 with h5 | ⟨x0, y0, k1, k2, k3⟩
        · rcases hlh with ⟨_, _, h9⟩ | ⟨_, _, h9⟩
          · have : e - m = 0 := by omega
            rw [this]; intro x _ y hy; simp at hy
          · have : X.length ≤ r - a := by omega
            rw [List.drop_eq_nil_of_le this]; intro x hx; cases hx
        · intro x hx y hy
          have hi1 := (List.getElem?_eq_some_iff.1 k2).1
          have hne : m < e := by
            rcases Nat.lt_or_ge m e with h | h
            · exact h
            · have : e - m = 0 := by omega
              rw [this] at hy; simp at hy
          have := take_R ht hI.sy k2 k3 y (by rw [show n - 1 - r - m + 1 = e - m by omega]; exact hy)
          exact drop_R ht hI.sx k1 this x hx
      have hB : ∀ x ∈ X.take (r - a), ∀ y ∈ Y.drop (e - m), R x y := by
        rcases h4 with h4 | ⟨x0, y0, k1, k2, k3⟩
        · rcases hlh with ⟨_, h9, _⟩ | ⟨_, h9, _⟩
          · have : Y.length ≤ e - m := by omega
            rw [List.drop_eq_nil_of_le this]; intro x _ y hy; cases hy
          · have : r - a = 0 := by omega
            rw [this]; intro x hx; simp at hx
        · intro x hx y hy
          have hne : a < r := by
            rcases Nat.lt_or_ge a r with h | h
            · exact h
            · have : r - a = 0 := by omega
              rw [this] at hx; simp at hx
          have := take_R ht hI.sx k1 k3 x (by rw [show r - 1 - a + 1 = r - a by omega]; exact hx)
          exact drop_R ht hI.sy k2 this y (by rw [show n - 1 - (r - 1) - m = e - m by omega]; exact hy)
      have lX1 : (X.take (r - a)).length = r - a := by simp; omega
      have lX2 : (X.drop (r - a)).length = m - r := by simp; omega
      have lY1 : (Y.take (e - m)).length = e - m := by simp; omega
      have lY2 : (Y.drop (e - m)).length = b - e := by simp; omega
      have sX1 : (X.take (r - a)).Sublist X := List.take_sublist _ _
      have sX2 : (X.drop (r - a)).Sublist X := List.drop_sublist _ _
      have sY1 : (Y.take (e - m)).Sublist Y := List.take_sublist _ _
      have sY2 : (Y.drop (e - m)).Sublist Y := List.drop_sublist _ _
      have hI1 := hI.sub sX1 sY1
      have hI2 := hI.sub sX2 sY2
      generalize X.take (r - a) = X1 at *
      generalize X.drop (r - a) = X2 at *
      generalize Y.take (e - m) = Y1 at *
      generalize Y.drop (e - m) = Y2 at *
      subst hX12
      subst hY12
      have hS1 : ∀ z, z ∈ X1 ∨ z ∈ Y1 → S z := fun z hz => hS z (hz.imp (List.mem_append_left _) (List.mem_append_left _))
      have hS2 : ∀ z, z ∈ X2 ∨ z ∈ Y2 → S z := fun z hz => hS z (hz.imp (List.mem_append_right _) (List.mem_append_right _))
      have hrot : g0 = A ++ X1 ++ X2 ++ Y1 ++ (Y2 ++ C) := by rw [hg0]; simp only [List.append_assoc]
      obtain ⟨g1, hg1⟩ : ∃ g1, g1 = A ++ X1 ++ Y1 ++ X2 ++ (Y2 ++ C) := ⟨_, rfl⟩
      have hl1 : g1.length = g0.length := by rw [hg1, hrot]; simp only [List.length_append]; omega
      have hJ := fun {Z1 Z2 : List Int} (h1 : Mgd R X1 Y1 Z1) (h2 : Mgd R X2 Y2 Z2) => Mgd.join ht hI h1 h2 hA hB
      simp [go_sem, hsr]
      refine HaltW.cut (σ := Unit) (fun _ => ⟨220, [(0, .own 1000000), (1, .sv (iv a)), (2, .sv (iv m)), (3, .sv (iv b)), (4, .sv (.fn f caps)), (18, .sv (iv mid)), (20, .sv (iv r)), (24, .sv (iv e))], [(1000000, .row 1 (g0.map iv))]⟩) (fun _ => True) ?_ (fun _ _ => ?_)
      · simp [go_sem, hwe]
        exact Ent.chk (by simp [go_sem])
      refine HaltW.cut (σ := Unit) (fun _ => ⟨220, [(0, .own 1000000), (1, .sv (iv a)), (2, .sv (iv m)), (3, .sv (iv b)), (4, .sv (.fn f caps)), (18, .sv (iv mid)), (20, .sv (iv r)), (24, .sv (iv e))], [(1000000, .row 1 (g1.map iv))]⟩) (fun _ => True) ?_ (fun _ _ => ?_)
      · -- the rotation
        by_cases hro1 : r < m
        · have p1 : (r : Int) < m := by omega
          by_cases hro2 : m < e
          · have p2 : (m : Int) < e := by omega
            simp [go_sem, hro1, hro2, p1, p2]
            refine OpW.callI 1000000 (rotI_c (A ++ X1) X2 Y1 (Y2 ++ C) g0 g1 r m e (by simp; omega) (by omega) (by omega) (by omega) (by omega) f caps hrot hg1 (by simp; omega)) rfl (by simp [go_sem]) (by simp [go_sem]) (by simp [go_sem]) (by simp [go_sem]) ?_
            rintro r0 o0 ⟨rfl, rfl⟩
            simp [go_sem, hl1]
            exact Ent.chk (by simp [go_sem])
          · have hg01 : g0 = g1 := by
              rw [hrot, hg1, List.eq_nil_of_length_eq_zero (show Y1.length = 0 by omega)]; simp
            have p2 : ¬ (m : Int) < e := by omega
            rw [hg01]
            simp [go_sem, hro1, hro2, p1, p2]
            exact Ent.chk (by simp [go_sem])
        · have hg01 : g0 = g1 := by
            rw [hrot, hg1, List.eq_nil_of_length_eq_zero (show X2.length = 0 by omega)]; simp
          have p1 : ¬ (r : Int) < m := by omega
          rw [hg01]
          simp [go_sem, hro1, p1]
          exact Ent.chk (by simp [go_sem])
      refine HaltW.cut (σ := List Int) (fun g2 => ⟨220, [(0, .own 1000000), (1, .sv (iv a)), (2, .sv (iv m)), (3, .sv (iv b)), (4, .sv (.fn f caps)), (18, .sv (iv mid)), (20, .sv (iv r)), (24, .sv (iv e))], [(1000000, .row 1 (g2.map iv))]⟩) (fun g2 => PostI R X1 Y1 A (X2 ++ Y2 ++ C) g2) ?_ ?_
      · -- the left part
        by_cases hre1 : a < r
        · have p1 : (a : Int) < r := by omega
          by_cases hre2 : r < mid
          · have p2 : (r : Int) < mid := by omega
            simp [go_sem, hre1, hre2, p1, p2]
            refine OpW.callI 1000000 (ih (X1.length + Y1.length) (by omega) A X1 Y1 (X2 ++ Y2 ++ C) g1 a r mid rfl (by omega) (by omega) ha (by omega) (by omega) (by rw [hg1]; simp only [List.append_assoc]) hI1 hS1 (by omega)) rfl (by simp [go_sem]) (by simp [go_sem]) (by simp [go_sem]) (by simp [go_sem]) ?_
            rintro r0 o0 ⟨rfl, g2, hpo, rfl⟩
            have hl2 : g2.length = g1.length := by obtain ⟨Z1, hZ1, hg2⟩ := hpo; rw [hg2, hg1]; have := hZ1.1.length_eq; simp only [List.length_append] at this ⊢; omega
            simp only [List.append_assoc] at hpo
            simp [go_sem, hl2]
            exact ⟨g2, hpo, Ent.chk (by simp [go_sem])⟩
          · have p2 : ¬ (r : Int) < mid := by omega
            have hpo : PostI R X1 Y1 A (X2 ++ Y2 ++ C) g1 := ⟨X1 ++ Y1, by rw [List.eq_nil_of_length_eq_zero (show Y1.length = 0 by omega), List.append_nil]; exact Mgd.nilY hI1.sx, by rw [hg1]; simp only [List.append_assoc]⟩
            simp only [List.append_assoc] at hpo
            simp [go_sem, hre1, hre2, p1, p2]
            exact ⟨g1, hpo, Ent.chk (by simp [go_sem])⟩
        · have p1 : ¬ (a : Int) < r := by omega
          have hpo : PostI R X1 Y1 A (X2 ++ Y2 ++ C) g1 := ⟨X1 ++ Y1, by rw [List.eq_nil_of_length_eq_zero (show X1.length = 0 by omega)]; exact Mgd.nilX hI1.sy, by rw [hg1]; simp only [List.append_assoc]⟩
          simp only [List.append_assoc] at hpo
          simp [go_sem, hre1, p1]
          exact ⟨g1, hpo, Ent.chk (by simp [go_sem])⟩
      rintro g2 ⟨Z1, hZ1, hg2⟩
      refine HaltW.go ?_
      have hZl := hZ1.1.length_eq
      rw [List.length_append] at hZl
      have hl2 : g2.length = g1.length := by rw [hg2, hg1]; have := hZ1.1.length_eq; simp only [List.length_append] at this ⊢; omega
      by_cases hre3 : mid < e
      · have p1 : (mid : Int) < e := by omega
        by_cases hre4 : e < b
        · have p2 : (e : Int) < b := by omega
          simp [go_sem, hre3, hre4, p1, p2]
          refine OpW.callI 1000000 (ih (X2.length + Y2.length) (by omega) (A ++ Z1) X2 Y2 C g2 mid e b rfl (by omega) (by omega) (by simp; omega) (by omega) (by omega) (by rw [hg2]; simp only [List.append_assoc]) hI2 hS2 (by omega)) rfl (by simp [go_sem]) (by simp [go_sem]) (by simp [go_sem]) (by simp [go_sem]) ?_
          rintro r0 o0 ⟨rfl, g3, ⟨Z2, hZ2, hg3⟩, rfl⟩
          have hl3 : g3.length = g2.length := by rw [hg3, hg2]; have := hZ2.1.length_eq; simp only [List.length_append] at this ⊢; omega
          have hpo : PostI R (X1 ++ X2) (Y1 ++ Y2) A C g3 := ⟨Z1 ++ Z2, hJ hZ1 hZ2, by rw [hg3]; simp only [List.append_assoc]⟩
          simp [go_sem, hl3, hl2, hl1]
          exact ⟨g3, hpo, rfl⟩
        · have p2 : ¬ (e : Int) < b := by omega
          have hZ2 : Mgd R X2 Y2 (X2 ++ Y2) := by rw [List.eq_nil_of_length_eq_zero (show Y2.length = 0 by omega), List.append_nil]; exact Mgd.nilY hI2.sx
          have hpo : PostI R (X1 ++ X2) (Y1 ++ Y2) A C g2 := ⟨Z1 ++ (X2 ++ Y2), hJ hZ1 hZ2, by rw [hg2]; simp only [List.append_assoc]⟩
          simp [go_sem, hre3, hre4, p1, p2, hl2, hl1]
          exact ⟨g2, hpo, rfl⟩
      · have p1 : ¬ (mid : Int) < e := by omega
        have hZ2 : Mgd R X2 Y2 (X2 ++ Y2) := by rw [List.eq_nil_of_length_eq_zero (show X2.length = 0 by omega)]; exact Mgd.nilX hI2.sy
        have hpo : PostI R (X1 ++ X2) (Y1 ++ Y2) A C g2 := ⟨Z1 ++ (X2 ++ Y2), hJ hZ1 hZ2, by rw [hg2]; simp only [List.append_assoc]⟩
        simp [go_sem, hre3, p1, hl2, hl1]
        exact ⟨g2, hpo, rfl⟩
end Go.Proofs.Ytpjcicbohgcehaa.Ab
