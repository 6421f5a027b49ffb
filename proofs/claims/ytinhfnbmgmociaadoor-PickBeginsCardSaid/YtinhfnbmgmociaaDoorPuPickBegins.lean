/- The law PickBegins. -/
import Derived.Test.YtinhfnbmgmociaaDoorPi1
namespace Go.Proofs.YtinhfnbmgmociaaDoor.Ab
open Go.RowKit
set_option linter.unusedVariables false
set_option linter.unusedSimpArgs false

set_option maxRecDepth 100000 in
set_option maxHeartbeats 8000000 in
theorem law_PickBegins (y0 : List Thing) (y1 : List Int) (y2 : List Held) (y3 : List Want) (y4 y5 y6 y7 : Int) (G0 : y0.length * 32 ≤ 140737488351232 ∧ y0.length ≤ maxLen ∧ ∀ x ∈ y0, ThingOk x) (G1 : y1.length * 8 ≤ 140737488351232 ∧ y1.length ≤ maxLen ∧ ∀ x ∈ y1, (Lit.int .i64 x).wf = true)
    (G2 : y2.length * 48 ≤ 140737488351232 ∧ y2.length ≤ maxLen ∧ ∀ x ∈ y2, HeldOk x) (G3 : y3.length * 72 ≤ 140737488351232 ∧ y3.length ≤ maxLen ∧ ∀ x ∈ y3, WantOk x) (G4 : (Lit.int .i64 y4).wf = true) (G5 : (Lit.int .i64 y5).wf = true) (G6 : (Lit.int .u8 y6).wf = true) (G7 : (Lit.int .u8 y7).wf = true) :
    ACalls Tryd.prog 11 [things y0, ints y1, helds y2, wants y3, iv y4, iv y5, .val (.int .u8 y6), .val (.int .u8 y7)] (· = .one (.sv (bv true))) := by
  have hl := things_len G0
  have ht := things_ok G0.2.2
  have hws := wants_ok G3.2.2
  have h8 : 0 ≤ y6 ∧ y6 < 256 := by
    have h := G6
    simp [Lit.wf] at h
    have e1 : IntKind.u8.min = 0 := by kernel_rfl
    have e2 : IntKind.u8.max = 255 := by kernel_rfl
    omega
  have h9 : 0 ≤ y7 ∧ y7 < 256 := by
    have h := G7
    simp [Lit.wf] at h
    have e1 : IntKind.u8.min = 0 := by kernel_rfl
    have e2 : IntKind.u8.max = 255 := by kernel_rfl
    omega
  refine ACalls.of_bodyS (fun _ _ => Tryd.call11 _ _) Tryd.func11 rfl Tryd.ntmps11 (by simp) ?_
  refine Tr.ex ?_
  simp [go_sem]
  refine OpW.fn true awake14_c rfl rfl (by simp [go_sem]) (by rintro _ r rfl; simp [go_sem]) ?_
  rintro r rfl
  simp [go_sem]
  refine OpW.fn true (small14_c y0 y1 y2 y3 (by omega) (by have := G1.1; omega) (by have := G2.1; omega) (by have := G3.1; omega)) rfl rfl (by simp [go_sem]) (by rintro _ r rfl; simp [go_sem]) ?_
  rintro r rfl
  cases hsm : smallB y0 y1 y2 y3.length with
  | false => simp [go_sem]
  | true =>
    obtain ⟨s1, s2, s3, s4⟩ := small_len hsm
    have s5 := (small_k hsm).1
    simp [go_sem]
    have m1 : IntKind.i64.wrap (y6 % 3) = y6 % 3 := by rw [i64w] <;> omega
    have m2 : IntKind.u8.wrap (y6 % 3) = y6 % 3 := by rw [u8w] <;> omega
    have m3 : y6.tmod 3 = y6 % 3 := by rw [Int.tmod_eq_emod_of_nonneg h8.1]
    have m4 : IntKind.i64.wrap (y6 % 3 + 1) = y6 % 3 + 1 := by rw [i64w] <;> omega
    have m5 : IntKind.i64.wrap (y7 % 9) = y7 % 9 := by rw [i64w] <;> omega
    have m6 : IntKind.u8.wrap (y7 % 9) = y7 % 9 := by rw [u8w] <;> omega
    have m7 : y7.tmod 9 = y7 % 9 := by rw [Int.tmod_eq_emod_of_nonneg h9.1]
    have hD : 0 ≤ y7 % 9 ∧ y7 % 9 ≤ 64 := by omega
    have hP : 1 ≤ y6 % 3 + 1 ∧ y6 % 3 + 1 ≤ 3 := by omega
    have fp := pick_c y0 y1 y2 y3 y4 y5 (y6 % 3 + 1) (y7 % 9) (by omega) ht (by omega) (by omega) s4 (by omega) hws
    have herr := pick_err (g := y0) (use := y1) (l := y2) (ws := y3) (f := y4) (v := y5) (p := y6 % 3 + 1) (d := y7 % 9)
    have htab := pick_table (g := y0) (use := y1) (l := y2) (ws := y3) (f := y4) (v := y5) (p := y6 % 3 + 1) (d := y7 % 9)
    have hsz := pick_small y0 y1 y2 y3 y4 y5 (y6 % 3 + 1) (y7 % 9)
    have hh1 := pick_helds (g := y0) (use := y1) (l := y2) (ws := y3) (f := y4) (v := y5) (p := y6 % 3 + 1) (d := y7 % 9)
    have hh2 := pick_helds2 (g := y0) (use := y1) (l := y2) (ws := y3) (f := y4) (v := y5) (p := y6 % 3 + 1) (d := y7 % 9)
    have hdp : y6 % 3 = 0 → deepI (y6 % 3 + 1) (y7 % 9) = 0 := fun h => by rw [h]; rfl
    generalize pickL y0 y1 y2 y3 y4 y5 (y6 % 3 + 1) (y7 % 9) = r at *
    obtain ⟨bg, kp, c⟩ := r
    simp only at fp herr htab hsz hh1 hh2
    simp [go_sem, m1, m2, m3, m4, m5, m6, m7]
    refine OpW.fn false fp rfl rfl (by simp [go_sem]) (fun h => by cases h) ?_
    rintro r rfl
    by_cases hc : c = 0
    case neg =>
      have hc' : (c == 0) = false := by simpa using hc
      obtain ⟨e1, e2⟩ := herr hc
      subst e1
      subst e2
      simp [go_sem, bne, hc, hc']
    subst hc
    obtain ⟨⟨ta, tl, tll⟩, tb, tk, tp, td⟩ := htab rfl
    have hh1 := hh1 rfl
    have hh2 := hh2 rfl
    have fa := all_c y2 bg (by omega) s4 (by omega) hh1
    have fb := all_c (allL y2 bg) kp (by omega) ta (by omega) hh2
    generalize allL (allL y2 bg) kp = A2 at *
    generalize allL y2 bg = A1 at *
    have w1 : IntKind.i64.wrap ((y2.length : Int) + bg.length) = (y2.length : Int) + bg.length := by rw [i64w] <;> omega
    have w2 : IntKind.i64.wrap ((y2.length : Int) + bg.length + kp.length) = (y2.length : Int) + bg.length + kp.length := by rw [i64w] <;> omega
    have w3 : (A2.length : Int) = (y2.length : Int) + bg.length + kp.length := by omega
    simp [go_sem]
    refine OpW.fn false fa rfl rfl (by simp [go_sem]) (fun h => by cases h) ?_
    rintro r rfl
    simp [go_sem]
    refine OpW.fn false fb rfl rfl (by simp [go_sem]) (fun h => by cases h) ?_
    rintro r rfl
    simp [go_sem, bne, w1, w2, w3]
    refine LoopW.of (fun i : Nat => ⟨154, [(1, .sv (ints y1)), (2, .sv (helds y2)), (3, .sv (wants y3)), (4, .sv (iv y4)), (5, .sv (iv y5)), (6, .sv (.val (.int .u8 y6))), (16, .sv (bv false)), (17, .sv (helds bg)), (18, .sv (helds kp)), (20, .sv (iv i))], []⟩)
      (fun i => i ≤ bg.length) (fun i => bg.length - i) 0 (by omega) (Ent.chk (by simp [go_sem])) ?_
    intro i hi
    by_cases hlt : i < bg.length
    · have hlt' : (i : Int) < bg.length := by omega
      have hw : IntKind.i64.wrap ((i : Int) + 1) = (i : Int) + 1 := by rw [i64w] <;> omega
      obtain ⟨x, hx⟩ : ∃ h, bg[i]? = some h := ⟨_, List.getElem?_eq_getElem hlt⟩
      have hxm := List.mem_of_getElem? hx
      have hxl := hh1 x hxm
      obtain ⟨hpl, hfr, hap⟩ := tb x hxm
      simp [go_sem, hlt, hlt', hx, gE hx]
      refine LoopW.of (fun j : Nat => ⟨154, [(1, .sv (ints y1)), (2, .sv (helds y2)), (3, .sv (wants y3)), (4, .sv (iv y4)), (5, .sv (iv y5)), (6, .sv (.val (.int .u8 y6))), (16, .sv (bv false)), (17, .sv (helds bg)), (18, .sv (helds kp)), (20, .sv (iv i)), (21, .box 21 0), (22, .sv (bv (anyW y3 x j))), (23, .sv (iv j))], [(21, .box [.sv (iv x.id), .sv (ints x.things), .sv (iv x.fr), .sv (iv x.to)])]⟩)
        (fun j => j ≤ y3.length) (fun j => y3.length - j) 0 (by omega) (Ent.chk (by simp [go_sem, anyW_zero])) ?_
      intro j hj
      by_cases hlj : j < y3.length
      · have hlj' : (j : Int) < y3.length := by omega
        have hwj : IntKind.i64.wrap ((j : Int) + 1) = (j : Int) + 1 := by rw [i64w] <;> omega
        obtain ⟨w, hjw⟩ : ∃ h, y3[j]? = some h := ⟨_, List.getElem?_eq_getElem hlj⟩
        have hwt := hws w (List.mem_of_getElem? hjw)
        have hsucc := anyW_succ (x := x) hjw
        have fe := sEnds_c w.spec y4 hwt
        have hwb : wantB x w = (decide (w.id = x.id) && decide (endsAt w.spec y4 = x.to)) := by rw [← hfr]; rfl
        rw [hwb] at hsucc
        simp [go_sem, hlj, hlj']
        refine DrawW.rd rfl ?_
        cases hb : anyW y3 x j with
        | true =>
          rw [hb, Bool.true_or] at hsucc
          simp [go_sem]
          refine ⟨by kernel_rfl, ?_⟩
          exact ⟨j + 1, by omega, by omega, Ent.chk (by simp [go_sem, hwj, hsucc])⟩
        | false =>
          rw [hb, Bool.false_or] at hsucc
          by_cases e1 : w.id = x.id
          · have e1' : (w.id == x.id) = true := by simpa using e1
            simp [go_sem, hlj, hlj', hjw, gE hjw, e1']
            refine OpD.call false fe rfl rfl (by simp [go_sem]) (fun h => by cases h) (by simp [go_sem]) (by simp [go_sem]) ?_
            by_cases e2 : endsAt w.spec y4 = x.to
            · have hs2 : anyW y3 x (j + 1) = true := by rw [hsucc]; simp [e1, e2]
              simp [go_sem, hlj, hlj', hjw, gE hjw, e1', e2]
              refine ⟨by kernel_rfl, ?_⟩
              exact ⟨j + 1, by omega, by omega, Ent.chk (by simp [go_sem, hwj, hs2])⟩
            · have hs2 : anyW y3 x (j + 1) = false := by rw [hsucc]; simp [e2]
              have e2' : (endsAt w.spec y4 == x.to) = false := by simpa using e2
              simp [go_sem, hlj, hlj', hjw, gE hjw, e1', e2, e2']
              refine ⟨by kernel_rfl, ?_⟩
              exact ⟨j + 1, by omega, by omega, Ent.chk (by simp [go_sem, hwj, hs2])⟩
          · have hs2 : anyW y3 x (j + 1) = false := by rw [hsucc]; simp [e1]
            have e1' : (w.id == x.id) = false := by simpa using e1
            simp [go_sem, hlj, hlj', hjw, gE hjw, e1, e1']
            refine ⟨by kernel_rfl, ?_⟩
            exact ⟨j + 1, by omega, by omega, Ent.chk (by simp [go_sem, hwj, hs2])⟩
      · have hjl : j = y3.length := by omega
        subst hjl
        have hany := planned_any hpl
        obtain ⟨p3, p4, p2⟩ := planned_from hpl
        have fpart := Part_c x.things y1 (by omega) (by omega)
        rw [p2] at fpart
        have hbl := busyL_len y2 y4 x.to
        have fbu := Busy_c y2 y4 x.to (by omega) s4
        have fap := Apart_c x.things (busyL y2 y4 x.to) (by omega) (by omega)
        rw [hap] at fap
        generalize busyL y2 y4 x.to = bs at *
        have n3 : ¬ y5 < x.to := by omega
        have n4 : (x.fr == y4) = true := by simpa using hfr
        simp [go_sem, hany]
        refine DrawW.rd rfl ?_
        simp [go_sem, bne, n3, n4]
        refine OpD.call false fpart rfl rfl (by simp [go_sem]) (fun h => by cases h) (by simp [go_sem]) (by simp [go_sem]) ?_
        simp [go_sem, bne, n3, n4]
        refine OpD.call false fbu rfl rfl (by simp [go_sem]) (fun h => by cases h) (by simp [go_sem]) (by simp [go_sem]) ?_
        simp [go_sem, bne, n3, n4]
        refine OpD.call false fap rfl rfl (by simp [go_sem]) (fun h => by cases h) (by simp [go_sem]) (by simp [go_sem]) ?_
        simp [go_sem, bne, n3, n4]
        refine ⟨by kernel_rfl, ?_⟩
        exact ⟨i + 1, by omega, by omega, Ent.chk (by simp [go_sem, hw])⟩
    · have hil : i = bg.length := by omega
      subst hil
      by_cases hz : y6 % 3 = 0
      · have := hdp hz
        have hk0 : kp.length = 0 := by omega
        have hz' : ¬ 0 < y6 % 3 := by omega
        simp [go_sem, m1, m2, m3, hz, hz', hk0]
      · have hz' : 0 < y6 % 3 := by omega
        simp [go_sem, m1, m2, m3, hz']
end Go.Proofs.YtinhfnbmgmociaaDoor.Ab
