/- The law SlotPlans. -/
import Derived.Test.YtinhfnbmgmociaaGreatDoorPi2
namespace Go.Proofs.YtinhfnbmgmociaaGreatDoor.Ab
open Go.RowKit
set_option linter.unusedVariables false
set_option linter.unusedSimpArgs false

theorem plan_helds {g : List Thing} {use : List Int} {l : List Held} {ws : List Want} {f v : Int} (hh : Helds l) : Helds (planL g use l ws f v).1 ∧ (planL g use l ws f v).1.length ≤ l.length + ws.length := by
  rcases plan_facts (g := g) (use := use) (l := l) (f := f) (v := v) (ws := ws) with ⟨_, h⟩ | ⟨_, h, _, _, _, h2, _⟩
  · rw [h]; exact ⟨hh, by omega⟩
  · exact ⟨tab_helds h, h2⟩
set_option maxRecDepth 100000 in
set_option maxHeartbeats 8000000 in
theorem law_SlotPlans (y0 : List Thing) (y1 : List Int) (y2 : List Held) (y3 : List Want) (y4 y5 : Int) (G0 : y0.length * 32 ≤ 140737488351232 ∧ y0.length ≤ maxLen ∧ ∀ x ∈ y0, ThingOk x) (G1 : y1.length * 8 ≤ 140737488351232 ∧ y1.length ≤ maxLen ∧ ∀ x ∈ y1, (Lit.int .i64 x).wf = true)
    (G2 : y2.length * 48 ≤ 140737488351232 ∧ y2.length ≤ maxLen ∧ ∀ x ∈ y2, HeldOk x) (G3 : y3.length * 72 ≤ 140737488351232 ∧ y3.length ≤ maxLen ∧ ∀ x ∈ y3, WantOk x) (G4 : (Lit.int .i64 y4).wf = true) (G5 : (Lit.int .i64 y5).wf = true) :
    ACalls Tryz.prog 3 [things y0, ints y1, helds y2, wants y3, iv y4, iv y5] (· = .one (.sv (bv true))) := by
  have hl := things_len G0
  have ht := things_ok G0.2.2
  have hws := wants_ok G3.2.2
  refine ACalls.of_bodyS (fun _ _ => Tryz.call3 _ _) Tryz.func3 rfl Tryz.ntmps3 (by simp) ?_
  refine Tr.ex ?_
  simp [go_sem]
  refine OpW.fn true awake13_c rfl rfl (by simp [go_sem]) (by rintro _ r rfl; simp [go_sem]) ?_
  rintro r rfl
  simp [go_sem]
  refine OpW.fn true (small_c y0 y1 y2 y3 (by omega) (by have := G1.1; omega) (by have := G2.1; omega) (by have := G3.1; omega)) rfl rfl (by simp [go_sem]) (by rintro _ r rfl; simp [go_sem]) ?_
  rintro r rfl
  cases hsm : smallB y0 y1 y2 y3.length with
  | false => simp [go_sem]
  | true =>
    obtain ⟨s1, s2, s3, s4⟩ := small_len hsm
    have s5 := (small_k hsm).1
    have fp := plan_c y0 y1 y2 y3 y4 y5 (by omega) ht (by omega) (by omega) s4 (by omega) hws
    have fq := r13Plan_c y0 y1 y2 y3 y4 y5 (by omega) ht (by omega) (by omega) s4 (by omega) hws
    have hp := plan_helds (g := y0) (use := y1) (l := y2) (ws := y3) (f := y4) (v := y5) s4
    generalize planL y0 y1 y2 y3 y4 y5 = r at *
    simp [go_sem]
    refine OpW.fn false (Lend_c y2 (by omega) s4) rfl rfl (by simp [go_sem]) (fun h => by cases h) ?_
    rintro r rfl
    simp [go_sem]
    refine OpW.fn false fp rfl rfl (by simp [go_sem]) (fun h => by cases h) ?_
    rintro r rfl
    simp [go_sem]
    refine OpW.fn false fq rfl rfl (by simp [go_sem]) (fun h => by cases h) ?_
    rintro r rfl
    simp [go_sem]
    refine OpW.fn true (sameH_c r.1 r.1 (by omega) (by omega) hp.1 hp.1) rfl rfl (by simp [go_sem]) (by rintro _ r rfl; simp [go_sem]) ?_
    rintro r rfl
    simp [go_sem]
    refine OpW.fn true (sameH_c y2 y2 (by omega) (by omega) s4 s4) rfl rfl (by simp [go_sem]) (by rintro _ r rfl; simp [go_sem]) ?_
    rintro r rfl
    simp [go_sem]
end Go.Proofs.YtinhfnbmgmociaaGreatDoor.Ab
