/- The law HeldGets. -/
import Derived.Test.YtfcojlagmmgagaaDoorHd3
namespace Go.Proofs.YtfcojlagmmgagaaDoor.Ab
open Go.RowKit
set_option linter.unusedVariables false
set_option linter.unusedSimpArgs false

theorem one_same (h : Held) : (decide (h.id = h.id) && decide (h.fr = h.fr) && decide (h.to = h.to) && decide (h.things = h.things)) = true := by simp
set_option maxRecDepth 100000 in
set_option maxHeartbeats 8000000 in
theorem law_HeldGets (y0 : List Held) (y1 y2 : Held) (G0 : y0.length * 48 ≤ 140737488351232 ∧ y0.length ≤ maxLen ∧ ∀ x ∈ y0, HeldOk x) (G1 : HeldOk y1) (G2 : HeldOk y2) :
    ACalls Tryd.prog 9 [helds y0, heldSV y1, heldSV y2] (· = .one (.sv (bv true))) := by
  refine ACalls.of_bodyS (fun _ _ => Tryd.call9 _ _) Tryd.func9 rfl Tryd.ntmps9 (by simp) ?_
  refine Tr.ex ?_
  simp [go_sem]
  refine OpW.fn true awake10_c rfl rfl (by simp [go_sem]) (by rintro _ r rfl; simp [go_sem]) ?_
  rintro r rfl
  simp [go_sem]
  refine OpW.fn true (Short_c y0 (by have := G0.1; omega)) rfl rfl (by simp [go_sem]) (by rintro _ r rfl; simp [go_sem]) ?_
  rintro r rfl
  cases hs : shortB y0 with
  | false => simp [go_sem]
  | true =>
    obtain ⟨hl, hh⟩ := short_len hs
    by_cases c1 : 60 < (y1.things.length : Int)
    · simp [go_sem, c1]
    by_cases c2 : 60 < (y2.things.length : Int)
    · simp [go_sem, c1, c2]
    have hx1 : y1.things.length ≤ 140737488355 := by omega
    have hx2 : y2.things.length ≤ 140737488355 := by omega
    obtain ⟨a1, a2⟩ := add_good (h := y1) hl hh hx1
    obtain ⟨b1, b2⟩ := add_good (h := y2) hl hh hx2
    obtain ⟨f1, f2⟩ := add_good (h := y2) a1 a2 hx2
    obtain ⟨k1, k2⟩ := add_good (h := y1) b1 b2 hx1
    simp [go_sem, c1, c2]
    refine OpW.fn false (heldAdd_c y0 y1 (by omega) hh hx1) rfl rfl (by simp [go_sem]) (fun h => by cases h) ?_
    rintro r rfl
    by_cases he : (addL y0 y1).2 = 0
    case neg =>
      have he' : ((addL y0 y1).2 == 0) = false := by simpa using he
      simp [go_sem, bne, he, he']
    have ht := add_tab he
    have hmem := fun x => add_mem (x := x) he
    have hlen := add_len he
    obtain ⟨t1, t2⟩ := add_two (b := y2) hl he
    have fg := heldGet_c (addL y0 y1).1 y1.id (by omega) a2
    rw [get_mem ht ((hmem y1).2 (.inr rfl))] at fg
    have one1 := One_c y1 y1 (by omega) (by omega)
    rw [one_same] at one1
    have hw : IntKind.i64.wrap ((y0.length : Int) + 1) = (y0.length : Int) + 1 := by rw [i64w] <;> omega
    have hlen' : ((addL y0 y1).1.length : Int) = (y0.length : Int) + 1 := by omega
    have fy := heldAdd_c (addL y0 y1).1 y2 (by omega) a2 hx2
    generalize (addL y0 y1).1 = x at *
    simp [go_sem, he]
    refine OpW.fn false fg rfl rfl (by simp [go_sem]) (fun h => by cases h) ?_
    rintro r rfl
    simp [go_sem]
    refine OpW.fn true one1 rfl rfl (by simp [go_sem]) (by rintro _ r rfl; simp [go_sem]) ?_
    rintro r rfl
    simp [go_sem, bne, hw, hlen', hlen]
    refine LoopW.of (fun i : Nat => ⟨131, [(0, .sv (helds y0)), (4, .box 4 0), (5, .box 5 0), (6, .sv (bv false)), (7, .sv (helds x)), (11, .sv (iv i))], [(4, .box [.sv (iv y1.id), .sv (ints y1.things), .sv (iv y1.fr), .sv (iv y1.to)]), (5, .box [.sv (iv y2.id), .sv (ints y2.things), .sv (iv y2.fr), .sv (iv y2.to)])]⟩)
      (fun i => i ≤ y0.length) (fun i => y0.length - i) 0 (by omega) (Ent.chk (by simp [go_sem])) ?_
    intro i hi
    by_cases hlt : i < y0.length
    · have hlt' : (i : Int) < y0.length := by omega
      have hwi : IntKind.i64.wrap ((i : Int) + 1) = (i : Int) + 1 := by rw [i64w] <;> omega
      obtain ⟨k, hk⟩ : ∃ h, y0[i]? = some h := ⟨_, List.getElem?_eq_getElem hlt⟩
      have hkm := List.mem_of_getElem? hk
      have hkl := hh k hkm
      have fk := heldGet_c x k.id (by omega) a2
      rw [get_mem ht ((hmem k).2 (.inl hkm))] at fk
      have onek := One_c k k (by omega) (by omega)
      rw [one_same] at onek
      simp [go_sem, hlt, hlt', hk, gE hk]
      refine OpW.fn false fk rfl rfl (by simp [go_sem]) (fun h => by cases h) ?_
      rintro r rfl
      simp [go_sem]
      refine DrawW.rd rfl ?_
      simp [go_sem, hlt, hlt', hk, gE hk]
      refine OpD.call false onek rfl rfl (by simp [go_sem]) (fun h => by cases h) (by simp [go_sem]) (by simp [go_sem]) ?_
      simp [go_sem]
      refine ⟨by kernel_rfl, ?_⟩
      exact ⟨i + 1, by omega, by omega, Ent.chk (by simp [go_sem, hwi])⟩
    · have hil : i = y0.length := by omega
      subst hil
      have fb := heldAdd_c y0 y2 (by omega) hh hx2
      have fz := heldAdd_c (addL y0 y2).1 y1 (by omega) b2 hx1
      generalize (addL (addL y0 y2).1 y1).1 = w1 at *
      generalize hwc : (addL (addL y0 y2).1 y1).2 = wc at *
      generalize (addL y0 y2).1 = z1 at *
      generalize hzc : (addL y0 y2).2 = zc at *
      generalize (addL x y2).1 = v1 at *
      generalize hvc : (addL x y2).2 = vc at *
      simp [go_sem]
      refine OpW.fn false fy rfl rfl (by simp [go_sem]) (fun h => by cases h) ?_
      rintro r rfl
      simp [go_sem]
      refine OpW.fn false fb rfl rfl (by simp [go_sem]) (fun h => by cases h) ?_
      rintro r rfl
      simp [go_sem]
      refine OpW.fn false fz rfl rfl (by simp [go_sem]) (fun h => by cases h) ?_
      rintro r rfl
      by_cases q1 : zc = 0
      · have q1' : (zc == 0) = true := by simpa using q1
        by_cases q2 : wc = 0
        · have q2' : (wc == 0) = true := by simpa using q2
          have q3 : vc = 0 := t1.2 ⟨q1, q2⟩
          have q3' : (vc == 0) = true := by simpa using q3
          have e := t2 q3
          subst e
          simp [go_sem, bne, q1', q2', q3']
          refine OpW.fn true (sameH_c v1 v1 (by omega) (by omega) f2 f2) rfl rfl (by simp [go_sem]) (by rintro _ r rfl; simp [go_sem]) ?_
          rintro r rfl
          simp [go_sem]
        · have q2' : (wc == 0) = false := by simpa using q2
          have q3 : ¬ vc = 0 := fun h => q2 (t1.1 h).2
          have q3' : (vc == 0) = false := by simpa using q3
          simp [go_sem, bne, q1', q2', q3']
      · have q1' : (zc == 0) = false := by simpa using q1
        have q3 : ¬ vc = 0 := fun h => q1 (t1.1 h).1
        have q3' : (vc == 0) = false := by simpa using q3
        simp [go_sem, bne, q1', q3']
end Go.Proofs.YtfcojlagmmgagaaDoor.Ab
