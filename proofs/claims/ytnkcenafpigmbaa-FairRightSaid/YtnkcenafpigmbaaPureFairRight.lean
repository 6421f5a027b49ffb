/- The law FairRight. -/
import Derived.Test.YtnkcenafpigmbaaFaJ
namespace Go.Proofs.Ytnkcenafpigmbaa.Ab
open Go.RowKit Go.Proofs.Ytnkcenafpigmbaa.Fl
set_option linter.unusedVariables false
set_option linter.unusedSimpArgs false
theorem law_FairRight (y0 : List Job) (y1 : List Owned) (y2 : List Use) (y3 : Int) (G0 : y0.length * 128 ≤ 140737488351232 ∧ y0.length ≤ maxLen ∧ ∀ x ∈ y0, JobOk x) (G1 : y1.length * 16 ≤ 140737488351232 ∧ y1.length ≤ maxLen ∧ ∀ x ∈ y1, OwnedOk x) (G2 : y2.length * 24 ≤ 140737488351232 ∧ y2.length ≤ maxLen ∧ ∀ x ∈ y2, UseOk x) (G3 : (Lit.int .i64 y3).wf = true) :
    ACalls Try.prog 7 [jobs y0, owneds y1, uses y2, iv y3] (· = .one (.sv (bv true))) := by
  refine ACalls.of_bodyS (fun _ _ => Try.call7 _ _) Try.func7 rfl Try.ntmps7 (by simp) ?_
  refine Tr.ex ?_
  simp [go_sem]
  refine OpW.fn true awake26_c rfl rfl (by simp [go_sem]) (by rintro _ r rfl; simp [go_sem]) ?_
  rintro r rfl
  simp [go_sem]
  refine OpW.fn true (short26_c y0 y1 y2 (by omega)) rfl rfl (by simp [go_sem]) (by rintro _ r rfl; simp [go_sem]) ?_
  rintro r rfl
  cases hs : short26 y0 y1 y2 with
  | false => simp [go_sem]
  | true =>
    unfold short26 at hs
    simp only [Bool.and_eq_true, decide_eq_true_eq] at hs
    obtain ⟨⟨hs1, h1⟩, h2⟩ := hs
    obtain ⟨hl, _⟩ := shortJ_len hs1
    have hh := shortJ_jobs26 hs1 G0.2.2
    have hw : UsesW y2 := fun u hu => (G2.2.2 u hu).w
    have ho := orderF_len y0 y1 y2
    have f1 := Who_c y1 y3 (by omega)
    have f2 := rWho_c y1 y3 (by omega)
    have f3 := OrderAll_c y0 y1 y2 (by omega) hh (by omega) (by omega) hw
    have f4 := r26Order_c y0 y1 y2 (by omega) hh (by omega) (by omega) hw
    have f5 := Same_c (orderF y0 y1 y2) (orderF y0 y1 y2) (by omega) (by omega)
    rw [decide_eq_true rfl] at f5
    generalize orderF y0 y1 y2 = O at *
    generalize whoO y1 y3 = x at *
    simp [go_sem]
    refine OpW.fn true f1 rfl rfl (by simp [go_sem]) (by rintro _ r rfl; simp [go_sem]) ?_
    rintro r rfl
    simp [go_sem]
    refine OpW.fn true f2 rfl rfl (by simp [go_sem]) (by rintro _ r rfl; simp [go_sem]) ?_
    rintro r rfl
    simp [go_sem]
    refine OpW.fn false f3 rfl rfl (by simp [go_sem]) (fun h => by cases h) ?_
    rintro r rfl
    simp [go_sem]
    refine OpW.fn false f4 rfl rfl (by simp [go_sem]) (fun h => by cases h) ?_
    rintro r rfl
    simp [go_sem]
    refine OpW.fn true f5 rfl rfl (by simp [go_sem]) (by rintro _ r rfl; simp [go_sem]) ?_
    rintro r rfl
    simp [go_sem]
end Go.Proofs.Ytnkcenafpigmbaa.Ab
