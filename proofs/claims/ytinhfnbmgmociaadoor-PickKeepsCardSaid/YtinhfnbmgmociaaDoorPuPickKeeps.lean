/- The law PickKeeps. -/
import Derived.Test.YtinhfnbmgmociaaDoorPi1
namespace Go.Proofs.YtinhfnbmgmociaaDoor.Ab
open Go.RowKit
set_option linter.unusedVariables false
set_option linter.unusedSimpArgs false

set_option maxRecDepth 100000 in
set_option maxHeartbeats 8000000 in
theorem law_PickKeeps (y0 : List Thing) (y1 : List Int) (y2 : List Held) (y3 : List Want) (y4 y5 y6 : Int) (G0 : y0.length * 32 ≤ 140737488351232 ∧ y0.length ≤ maxLen ∧ ∀ x ∈ y0, ThingOk x) (G1 : y1.length * 8 ≤ 140737488351232 ∧ y1.length ≤ maxLen ∧ ∀ x ∈ y1, (Lit.int .i64 x).wf = true)
    (G2 : y2.length * 48 ≤ 140737488351232 ∧ y2.length ≤ maxLen ∧ ∀ x ∈ y2, HeldOk x) (G3 : y3.length * 72 ≤ 140737488351232 ∧ y3.length ≤ maxLen ∧ ∀ x ∈ y3, WantOk x) (G4 : (Lit.int .i64 y4).wf = true) (G5 : (Lit.int .i64 y5).wf = true) (G6 : (Lit.int .u8 y6).wf = true) :
    ACalls Tryd.prog 12 [things y0, ints y1, helds y2, wants y3, iv y4, iv y5, .val (.int .u8 y6)] (· = .one (.sv (bv true))) := by
  have hl := things_len G0
  have ht := things_ok G0.2.2
  have hws := wants_ok G3.2.2
  have h8 : 0 ≤ y6 ∧ y6 < 256 := by
    have h := G6
    simp [Lit.wf] at h
    have e1 : IntKind.u8.min = 0 := by kernel_rfl
    have e2 : IntKind.u8.max = 255 := by kernel_rfl
    omega
  refine ACalls.of_bodyS (fun _ _ => Tryd.call12 _ _) Tryd.func12 rfl Tryd.ntmps12 (by simp) ?_
  refine Tr.ex ?_
  simp [go_sem]
  refine OpW.fn true awake14_c rfl rfl (by simp [go_sem]) (by rintro _ r rfl; simp [go_sem]) ?_
  rintro r rfl
  simp [go_sem]
  refine OpW.fn true (small14_c y0 y1 y2 y3 (by omega) (by have := G1.1; omega) (by have := G2.1; omega) (by have := G3.1; omega)) rfl rfl (by simp [go_sem]) (by rintro _ r rfl; simp [go_sem]) ?_
  rintro r rfl
  cases hsm : smallB y0 y1 y2 y3.length with
  | false => simp [go_sem]
  | true =>
    obtain ⟨s1, s2, s3, s4⟩ := small_len hsm
    have s5 := (small_k hsm).1
    simp [go_sem]
    have m5 : IntKind.i64.wrap (y6 % 9) = y6 % 9 := by rw [i64w] <;> omega
    have m6 : IntKind.u8.wrap (y6 % 9) = y6 % 9 := by rw [u8w] <;> omega
    have m7 : y6.tmod 9 = y6 % 9 := by rw [Int.tmod_eq_emod_of_nonneg h8.1]
    refine LoopW.of (fun p : Int => ⟨153, [(0, .sv (things y0)), (1, .sv (ints y1)), (2, .sv (helds y2)), (3, .sv (wants y3)), (4, .sv (iv y4)), (5, .sv (iv y5)), (6, .sv (.val (.int .u8 y6))), (14, .sv (bv false)), (15, .sv (iv p))], []⟩)
      (fun p => 2 ≤ p ∧ p ≤ 4) (fun p => (4 - p).toNat) 2 ⟨by omega, by omega⟩ (Ent.chk (by simp [go_sem])) ?_
    rintro p ⟨hp2, hp4⟩
    by_cases hp : p ≤ 3
    case neg => simp [go_sem, hp]
    have hwp : IntKind.i64.wrap (p + 1) = p + 1 := by rw [i64w] <;> omega
    have fp := pick_c y0 y1 y2 y3 y4 y5 p (y6 % 9) (by omega) ht (by omega) (by omega) s4 (by omega) hws
    have htab := pick_table (g := y0) (use := y1) (l := y2) (ws := y3) (f := y4) (v := y5) (p := p) (d := y6 % 9)
    have hsz := pick_small y0 y1 y2 y3 y4 y5 p (y6 % 9)
    have hh1 := pick_helds (g := y0) (use := y1) (l := y2) (ws := y3) (f := y4) (v := y5) (p := p) (d := y6 % 9)
    have hh2 := pick_helds2 (g := y0) (use := y1) (l := y2) (ws := y3) (f := y4) (v := y5) (p := p) (d := y6 % 9)
    generalize pickL y0 y1 y2 y3 y4 y5 p (y6 % 9) = r at *
    obtain ⟨bg, kp, c⟩ := r
    simp only at fp htab hsz hh1 hh2
    simp [go_sem, hp, m5, m6, m7]
    refine OpW.fn false fp rfl rfl (by simp [go_sem]) (fun h => by cases h) ?_
    rintro r rfl
    by_cases hc : c = 0
    case neg =>
      have hc' : (c == 0) = false := by simpa using hc
      simp [go_sem, bne, hc, hc']
      exact ⟨p + 1, ⟨by omega, by omega⟩, by omega, Ent.chk (by simp [go_sem, hwp])⟩
    subst hc
    obtain ⟨⟨ta, tl, tll⟩, tb, tk, tp, td⟩ := htab rfl
    have hh1 := hh1 rfl
    have hh2 := hh2 rfl
    have fa := all_c y2 bg (by omega) s4 (by omega) hh1
    generalize allL (allL y2 bg) kp = A2 at *
    generalize allL y2 bg = A1 at *
    simp [go_sem]
    refine OpW.fn false fa rfl rfl (by simp [go_sem]) (fun h => by cases h) ?_
    rintro r rfl
    simp [go_sem]
    refine LoopW.of (fun i : Nat => ⟨153, [(0, .sv (things y0)), (1, .sv (ints y1)), (2, .sv (helds y2)), (3, .sv (wants y3)), (4, .sv (iv y4)), (5, .sv (iv y5)), (6, .sv (.val (.int .u8 y6))), (14, .sv (bv false)), (15, .sv (iv p)), (17, .sv (helds kp)), (19, .sv (helds A1)), (20, .sv (iv i))], []⟩)
      (fun i => i ≤ kp.length) (fun i => kp.length - i) 0 (by omega) (Ent.chk (by simp [go_sem])) ?_
    intro i hi
    by_cases hlt : i < kp.length
    · have hlt' : (i : Int) < kp.length := by omega
      have hw : IntKind.i64.wrap ((i : Int) + 1) = (i : Int) + 1 := by rw [i64w] <;> omega
      obtain ⟨x, hx⟩ : ∃ h, kp[i]? = some h := ⟨_, List.getElem?_eq_getElem hlt⟩
      have hxm := List.mem_of_getElem? hx
      have hxl := hh2 x hxm
      obtain ⟨hpl, hfr, hap⟩ := tk x hxm
      simp [go_sem, hlt, hlt', hx, gE hx]
      refine LoopW.of (fun j : Nat => ⟨153, [(0, .sv (things y0)), (1, .sv (ints y1)), (2, .sv (helds y2)), (3, .sv (wants y3)), (4, .sv (iv y4)), (5, .sv (iv y5)), (6, .sv (.val (.int .u8 y6))), (14, .sv (bv false)), (15, .sv (iv p)), (17, .sv (helds kp)), (19, .sv (helds A1)), (20, .sv (iv i)), (21, .box 21 0), (22, .sv (iv j))], [(21, .box [.sv (iv x.id), .sv (ints x.things), .sv (iv x.fr), .sv (iv x.to)])]⟩)
        (fun j => j ≤ kp.length) (fun j => kp.length - j) 0 (by omega) (Ent.chk (by simp [go_sem])) ?_
      intro j hj
      by_cases hlj : j < kp.length
      · have hlj' : (j : Int) < kp.length := by omega
        have hwj : IntKind.i64.wrap ((j : Int) + 1) = (j : Int) + 1 := by rw [i64w] <;> omega
        obtain ⟨o, hjo⟩ : ∃ h, kp[j]? = some h := ⟨_, List.getElem?_eq_getElem hlj⟩
        have hol := hh2 o (List.mem_of_getElem? hjo)
        have hij := tp i j x o
        have fap := Apart_c x.things o.things (by omega) (by omega)
        simp [go_sem, hlj, hlj']
        refine DrawW.rd rfl ?_
        by_cases e0 : j = i
        · have e0' : ((j : Int) == (i : Int)) = true := by simpa using congrArg (Nat.cast (R := Int)) e0
          simp [go_sem, bne, e0']
          refine ⟨by kernel_rfl, ?_⟩
          exact ⟨j + 1, by omega, by omega, Ent.chk (by simp [go_sem, hwj])⟩
        · have e0' : ((j : Int) == (i : Int)) = false := by simp; omega
          by_cases e1 : x.fr < o.to
          · by_cases e2 : o.fr < x.to
            · rw [hij (fun e => e0 e.symm) hx hjo e1 e2] at fap
              simp [go_sem, bne, e0', hlj, hlj', hjo, gE hjo, e1, e2]
              refine OpD.call false fap rfl rfl (by simp [go_sem]) (fun h => by cases h) (by simp [go_sem]) (by simp [go_sem]) ?_
              simp [go_sem]
              refine ⟨by kernel_rfl, ?_⟩
              exact ⟨j + 1, by omega, by omega, Ent.chk (by simp [go_sem, hwj])⟩
            · simp [go_sem, bne, e0', hlj, hlj', hjo, gE hjo, e1, e2]
              refine ⟨by kernel_rfl, ?_⟩
              exact ⟨j + 1, by omega, by omega, Ent.chk (by simp [go_sem, hwj])⟩
          · simp [go_sem, bne, e0', hlj, hlj', hjo, gE hjo, e1]
            refine ⟨by kernel_rfl, ?_⟩
            exact ⟨j + 1, by omega, by omega, Ent.chk (by simp [go_sem, hwj])⟩
      · have hjl : j = kp.length := by omega
        subst hjl
        obtain ⟨p3, p4, p2⟩ := planned_from hpl
        have fpart := Part_c x.things y1 (by omega) (by omega)
        rw [p2] at fpart
        have hbl := busyL_len A1 x.fr x.to
        have fbu := Busy_c A1 x.fr x.to (by omega) ta
        have fap := Apart_c x.things (busyL A1 x.fr x.to) (by omega) (by omega)
        rw [hap] at fap
        generalize busyL A1 x.fr x.to = bs at *
        have n3 : ¬ y5 < x.to := by omega
        have n4 : ¬ x.fr ≤ y4 := by omega
        simp [go_sem]
        refine DrawW.rd rfl ?_
        simp [go_sem, n3, n4]
        refine OpD.call false fpart rfl rfl (by simp [go_sem]) (fun h => by cases h) (by simp [go_sem]) (by simp [go_sem]) ?_
        simp [go_sem, n3, n4]
        refine OpD.call false fbu rfl rfl (by simp [go_sem]) (fun h => by cases h) (by simp [go_sem]) (by simp [go_sem]) ?_
        simp [go_sem, n3, n4]
        refine OpD.call false fap rfl rfl (by simp [go_sem]) (fun h => by cases h) (by simp [go_sem]) (by simp [go_sem]) ?_
        simp [go_sem, n3, n4]
        refine ⟨by kernel_rfl, ?_⟩
        exact ⟨i + 1, by omega, by omega, Ent.chk (by simp [go_sem, hw])⟩
    · have hil : i = kp.length := by omega
      subst hil
      by_cases hz : p = 2
      · subst hz
        have hd1 : deepI 2 (y6 % 9) = 1 := rfl
        have hk1 : ¬ 1 < (kp.length : Int) := by omega
        simp [go_sem, m5, m6, m7, hk1]
        exact ⟨3, ⟨by omega, by omega⟩, by omega, Ent.chk (by simp [go_sem])⟩
      · have hz3 : p = 3 := by omega
        subst hz3
        have hd1 : deepI 3 (y6 % 9) = y6 % 9 := rfl
        have hk1 : ¬ y6 % 9 < (kp.length : Int) := by omega
        simp [go_sem, m5, m6, m7, hk1]
        exact ⟨4, ⟨by omega, by omega⟩, by omega, Ent.chk (by simp [go_sem])⟩
end Go.Proofs.YtinhfnbmgmociaaDoor.Ab
