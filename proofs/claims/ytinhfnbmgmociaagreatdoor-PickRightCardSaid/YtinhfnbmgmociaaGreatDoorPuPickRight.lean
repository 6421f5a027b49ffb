/- The law PickRight. -/
import Derived.Test.YtinhfnbmgmociaaGreatDoorPi2
namespace Go.Proofs.YtinhfnbmgmociaaGreatDoor.Ab
open Go.RowKit
set_option linter.unusedVariables false
set_option linter.unusedSimpArgs false

theorem pick_good {g : List Thing} {use : List Int} {l : List Held} {ws : List Want} {f v p d : Int} : Helds (pickL g use l ws f v p d).1 ∧ Helds (pickL g use l ws f v p d).2.1 := by
  by_cases hc : (pickL g use l ws f v p d).2.2 = 0
  · exact ⟨pick_helds hc, pick_helds2 hc⟩
  · rw [(pick_err hc).1, (pick_err hc).2]
    exact ⟨fun h hh => (by cases hh), fun h hh => (by cases hh)⟩
set_option maxRecDepth 100000 in
set_option maxHeartbeats 8000000 in
theorem law_PickRight (y0 : List Thing) (y1 : List Int) (y2 y3 : List Held) (y4 : List Want) (y5 : Spec) (y6 y7 y8 y9 : Int) (G0 : y0.length * 32 ≤ 140737488351232 ∧ y0.length ≤ maxLen ∧ ∀ x ∈ y0, ThingOk x) (G1 : y1.length * 8 ≤ 140737488351232 ∧ y1.length ≤ maxLen ∧ ∀ x ∈ y1, (Lit.int .i64 x).wf = true)
    (G2 : y2.length * 48 ≤ 140737488351232 ∧ y2.length ≤ maxLen ∧ ∀ x ∈ y2, HeldOk x) (G3 : y3.length * 48 ≤ 140737488351232 ∧ y3.length ≤ maxLen ∧ ∀ x ∈ y3, HeldOk x) (G4 : y4.length * 72 ≤ 140737488351232 ∧ y4.length ≤ maxLen ∧ ∀ x ∈ y4, WantOk x) (G5 : SpecOk y5) (G6 : (Lit.int .i64 y6).wf = true) (G7 : (Lit.int .i64 y7).wf = true) (G8 : (Lit.int .i64 y8).wf = true) (G9 : (Lit.int .i64 y9).wf = true) :
    ACalls Tryz.prog 4 [things y0, ints y1, helds y2, helds y3, wants y4, specSV y5, iv y6, iv y7, iv y8, iv y9] (· = .one (.sv (bv true))) := by
  have hl := things_len G0
  have ht := things_ok G0.2.2
  have hs := G5.2.2.2.1
  have hws := wants_ok G4.2.2
  have hl3 := helds_len G3
  refine ACalls.of_bodyS (fun _ _ => Tryz.call4 _ _) Tryz.func4 rfl Tryz.ntmps4 (by simp) ?_
  refine Tr.ex ?_
  simp [go_sem]
  refine OpW.fn true awake14_c rfl rfl (by simp [go_sem]) (by rintro _ r rfl; simp [go_sem]) ?_
  rintro r rfl
  simp [go_sem]
  refine OpW.fn true (small14_c y0 y1 y2 y4 (by omega) (by have := G1.1; omega) (by have := G2.1; omega) (by have := G4.1; omega)) rfl rfl (by simp [go_sem]) (by rintro _ r rfl; simp [go_sem]) ?_
  rintro r rfl
  cases hsm : smallB y0 y1 y2 y4.length with
  | false => simp [go_sem]
  | true =>
    obtain ⟨s1, s2, s3, s4⟩ := small_len hsm
    have s5 := (small_k hsm).1
    by_cases c1 : 12 < (y3.length : Int)
    · simp [go_sem, c1]
    simp [go_sem, c1]
    refine OpW.fn true (Short_c y3 hl3) rfl rfl (by simp [go_sem]) (by rintro _ r rfl; simp [go_sem]) ?_
    rintro r rfl
    cases h3 : shortB y3 with
    | false => simp [go_sem]
    | true =>
      have t4 := (short_len h3).2
      have fp := pick_c y0 y1 y2 y4 y6 y7 y8 y9 (by omega) ht (by omega) (by omega) s4 (by omega) hws
      have fq := r14Pick_c y0 y1 y2 y4 y6 y7 y8 y9 (by omega) ht (by omega) (by omega) s4 (by omega) hws
      have hsz := pick_small y0 y1 y2 y4 y6 y7 y8 y9
      have hgd := pick_good (g := y0) (use := y1) (l := y2) (ws := y4) (f := y6) (v := y7) (p := y8) (d := y9)
      have fl := Later_c y0 y1 y2 y3 y5 y6 y7 (by omega) ht (by omega) (by omega) s4 (by omega) t4 hs
      have fm := r14Later_c y0 y1 y2 y3 y5 y6 y7 (by omega) ht (by omega) (by omega) s4 (by omega) t4 hs
      generalize pickL y0 y1 y2 y4 y6 y7 y8 y9 = r at *
      generalize laterB y0 y1 y2 y3 y5 y6 y7 = b at *
      simp [go_sem]
      refine OpW.fn false fp rfl rfl (by simp [go_sem]) (fun h => by cases h) ?_
      rintro r rfl
      simp [go_sem]
      refine OpW.fn false fq rfl rfl (by simp [go_sem]) (fun h => by cases h) ?_
      rintro r rfl
      simp [go_sem]
      refine DrawW.rd rfl ?_
      simp [go_sem]
      refine OpD.call false (sameH_c r.1 r.1 (by omega) (by omega) hgd.1 hgd.1) rfl rfl (by simp [go_sem]) (fun h => by cases h) (by simp [go_sem]) (by simp [go_sem]) ?_
      simp [go_sem]
      refine OpD.call false (sameH_c r.2.1 r.2.1 (by omega) (by omega) hgd.2 hgd.2) rfl rfl (by simp [go_sem]) (fun h => by cases h) (by simp [go_sem]) (by simp [go_sem]) ?_
      simp [go_sem]
      refine OpD.call false fl rfl rfl (by simp [go_sem]) (fun h => by cases h) (by simp [go_sem]) (by simp [go_sem]) ?_
      simp [go_sem]
      refine OpD.call false fm rfl rfl (by simp [go_sem]) (fun h => by cases h) (by simp [go_sem]) (by simp [go_sem]) ?_
      simp [go_sem]
      show _ = true
      kernel_rfl
end Go.Proofs.YtinhfnbmgmociaaGreatDoor.Ab
