/- The law PickFirst. -/
import Derived.Test.YtinhfnbmgmociaaDoorPi1
namespace Go.Proofs.YtinhfnbmgmociaaDoor.Ab
open Go.RowKit
set_option linter.unusedVariables false
set_option linter.unusedSimpArgs false

set_option maxRecDepth 100000 in
set_option maxHeartbeats 8000000 in
theorem law_PickFirst (y0 : List Thing) (y1 : List Int) (y2 : List Held) (y3 : List Want) (y4 y5 y6 : Int) (G0 : y0.length * 32 ≤ 140737488351232 ∧ y0.length ≤ maxLen ∧ ∀ x ∈ y0, ThingOk x) (G1 : y1.length * 8 ≤ 140737488351232 ∧ y1.length ≤ maxLen ∧ ∀ x ∈ y1, (Lit.int .i64 x).wf = true)
    (G2 : y2.length * 48 ≤ 140737488351232 ∧ y2.length ≤ maxLen ∧ ∀ x ∈ y2, HeldOk x) (G3 : y3.length * 72 ≤ 140737488351232 ∧ y3.length ≤ maxLen ∧ ∀ x ∈ y3, WantOk x) (G4 : (Lit.int .i64 y4).wf = true) (G5 : (Lit.int .i64 y5).wf = true) (G6 : (Lit.int .u8 y6).wf = true) :
    ACalls Tryd.prog 7 [things y0, ints y1, helds y2, wants y3, iv y4, iv y5, .val (.int .u8 y6)] (· = .one (.sv (bv true))) := by
  have hl := things_len G0
  have ht := things_ok G0.2.2
  have hws := wants_ok G3.2.2
  have h8 : 0 ≤ y6 ∧ y6 < 256 := by
    have h := G6
    simp [Lit.wf] at h
    have e1 : IntKind.u8.min = 0 := by kernel_rfl
    have e2 : IntKind.u8.max = 255 := by kernel_rfl
    omega
  refine ACalls.of_bodyS (fun _ _ => Tryd.call7 _ _) Tryd.func7 rfl Tryd.ntmps7 (by simp) ?_
  refine Tr.ex ?_
  simp [go_sem]
  refine OpW.fn true awake14_c rfl rfl (by simp [go_sem]) (by rintro _ r rfl; simp [go_sem]) ?_
  rintro r rfl
  simp [go_sem]
  refine OpW.fn true (small14_c y0 y1 y2 y3 (by omega) (by have := G1.1; omega) (by have := G2.1; omega) (by have := G3.1; omega)) rfl rfl (by simp [go_sem]) (by rintro _ r rfl; simp [go_sem]) ?_
  rintro r rfl
  cases hsm : smallB y0 y1 y2 y3.length with
  | false => simp [go_sem]
  | true =>
    obtain ⟨s1, s2, s3, s4⟩ := small_len hsm
    have s5 := (small_k hsm).1
    simp [go_sem]
    have f1 := pick_c y0 y1 y2 y3 y4 y5 1 0 (by omega) ht (by omega) (by omega) s4 (by omega) hws
    have f2 := pick_c y0 y1 y2 y3 y4 y5 2 0 (by omega) ht (by omega) (by omega) s4 (by omega) hws
    have f3 := pick_c y0 y1 y2 y3 y4 y5 3 (y6 % 9) (by omega) ht (by omega) (by omega) s4 (by omega) hws
    have p2 := pick_first (g := y0) (use := y1) (l := y2) (ws := y3) (f := y4) (v := y5) (p := 2) (d := 0) (by omega) (by omega) (by omega) (by omega)
    have p3 := pick_first (g := y0) (use := y1) (l := y2) (ws := y3) (f := y4) (v := y5) (p := 3) (d := y6 % 9) (by omega) (by omega) (by omega) (by omega)
    have hb1 := pick_small y0 y1 y2 y3 y4 y5 1 0
    have hb2 := pick_small y0 y1 y2 y3 y4 y5 2 0
    have hb3 := pick_small y0 y1 y2 y3 y4 y5 3 (y6 % 9)
    have hh1 := pick_helds (g := y0) (use := y1) (l := y2) (ws := y3) (f := y4) (v := y5) (p := 1) (d := 0)
    generalize pickL y0 y1 y2 y3 y4 y5 1 0 = r1 at *
    generalize pickL y0 y1 y2 y3 y4 y5 2 0 = r2 at *
    generalize pickL y0 y1 y2 y3 y4 y5 3 (y6 % 9) = r3 at *
    obtain ⟨b1, k1, c1⟩ := r1
    obtain ⟨b2, k2, c2⟩ := r2
    obtain ⟨b3, k3, c3⟩ := r3
    simp only at f1 f2 f3 p2 p3 hb1 hb2 hb3 hh1
    have hm : IntKind.i64.wrap (y6 % 9) = y6 % 9 := by rw [i64w] <;> omega
    have hm2 : IntKind.u8.wrap (y6 % 9) = y6 % 9 := by rw [u8w] <;> omega
    have hm3 : y6.tmod 9 = y6 % 9 := by rw [Int.tmod_eq_emod_of_nonneg h8.1]
    refine OpW.fn false f1 rfl rfl (by simp [go_sem]) (fun h => by cases h) ?_
    rintro r rfl
    simp [go_sem]
    refine OpW.fn false f2 rfl rfl (by simp [go_sem]) (fun h => by cases h) ?_
    rintro r rfl
    simp [go_sem, hm, hm2, hm3]
    refine OpW.fn false f3 rfl rfl (by simp [go_sem]) (fun h => by cases h) ?_
    rintro r rfl
    by_cases q1 : c1 = 0
    case neg =>
      have e1 : (c1 == 0) = false := by simpa using q1
      have e2 : c2 = c1 := p2.1 q1
      have e3 : c3 = c1 := p3.1 q1
      simp [go_sem, bne, q1, e1, e2, e3]
    subst q1
    have hh1 := hh1 rfl
    have fs := sameH_c b1 b1 (by omega) (by omega) hh1 hh1
    have n1 : (b1.length : Int) ≤ b1.length := by omega
    have key : ∀ {b B : List Held}, b = b1 ++ B → b.take b1.length = b1 := fun h => by rw [h, List.take_left']; rfl
    by_cases q2 : c2 = 0
    · have e2 : (c2 == 0) = true := by simpa using q2
      obtain ⟨B, hB⟩ := p2.2 rfl q2
      have l2 : b1.length ≤ b2.length := by rw [hB]; simp
      have l2' : ¬ (b2.length : Int) < b1.length := by omega
      have l2'' : (b1.length : Int) ≤ b2.length := by omega
      have t2 := key hB
      have t2' : (b2.map heldSV).take b1.length = b1.map heldSV := by rw [← List.map_take, t2]
      simp [go_sem, bne, q2, e2, l2, l2', l2'', t2, t2']
      refine OpW.fn true fs rfl rfl (by simp [go_sem]) (by rintro _ r rfl; simp [go_sem]) ?_
      rintro r rfl
      by_cases q3 : c3 = 0
      · have e3 : (c3 == 0) = true := by simpa using q3
        obtain ⟨B3, hB3⟩ := p3.2 rfl q3
        have l3 : b1.length ≤ b3.length := by rw [hB3]; simp
        have l3' : ¬ (b3.length : Int) < b1.length := by omega
        have l3'' : (b1.length : Int) ≤ b3.length := by omega
        have t3 := key hB3
        have t3' : (b3.map heldSV).take b1.length = b1.map heldSV := by rw [← List.map_take, t3]
        simp [go_sem, bne, q3, e3, l3, l3', l3'', t3, t3']
        refine OpW.fn true fs rfl rfl (by simp [go_sem]) (by rintro _ r rfl; simp [go_sem]) ?_
        rintro r rfl
        simp [go_sem]
      · have e3 : (c3 == 0) = false := by simpa using q3
        simp [go_sem, bne, q3, e3]
    · have e2 : (c2 == 0) = false := by simpa using q2
      simp [go_sem, bne, q2, e2]
      by_cases q3 : c3 = 0
      · have e3 : (c3 == 0) = true := by simpa using q3
        obtain ⟨B3, hB3⟩ := p3.2 rfl q3
        have l3 : b1.length ≤ b3.length := by rw [hB3]; simp
        have l3' : ¬ (b3.length : Int) < b1.length := by omega
        have l3'' : (b1.length : Int) ≤ b3.length := by omega
        have t3 := key hB3
        have t3' : (b3.map heldSV).take b1.length = b1.map heldSV := by rw [← List.map_take, t3]
        simp [go_sem, bne, q3, e3, l3, l3', l3'', t3, t3']
        refine OpW.fn true fs rfl rfl (by simp [go_sem]) (by rintro _ r rfl; simp [go_sem]) ?_
        rintro r rfl
        simp [go_sem]
      · have e3 : (c3 == 0) = false := by simpa using q3
        simp [go_sem, bne, q3, e3]
end Go.Proofs.YtinhfnbmgmociaaDoor.Ab
