/- share: what is always so at first. -/
import Derived.Test.YtpjcicbohgcehaaShK
import Derived.Test.YtpjcicbohgcehaaShL
import Derived.Test.YtpjcicbohgcehaaGrE
namespace Go.Proofs.Ytpjcicbohgcehaa.Ab
open Go.RowKit Go.Proofs.Ytpjcicbohgcehaa.Fl
set_option linter.unusedVariables false
set_option linter.unusedSimpArgs false

theorem Inf1_c : ACalls Try.prog 24 [iv 1] (· = .one (.sv (fv 9218868437227405312))) := by
  refine ACalls.of_bodyS (fun _ _ => Try.call24 _ _) Try.func24 rfl Try.ntmps24 (by simp) ?_
  refine Tr.ex ?_
  simp [go_sem]
  refine OpW.ext (frombits_run 9218868437227405312) rfl (by simp [go_sem]) (by simp [go_sem]) (by simp [go_sem]) ?_
  simp [go_sem]
def aw15 : List Use := [⟨1, 4618441417868443648, 4611686018427387904⟩, ⟨2, 4607182418800017408, 4607182418800017408⟩, ⟨3, 4617315517961601024, 0⟩]
theorem aw15_w : UsesW aw15 := by
  intro u hu
  simp only [aw15, List.mem_cons, List.not_mem_nil, or_false] at hu
  rcases hu with rfl | rfl | rfl <;> exact ⟨by decide, by decide⟩
theorem aw15_k0 : keyU aw15 0 = 4613937818241073152 := by kernel_rfl
theorem aw15_k1 : keyU aw15 1 = 4607182418800017408 := by kernel_rfl
theorem aw15_k2 : keyU aw15 2 = 9218868437227405312 := by kernel_rfl
theorem aw15_1 : ordU aw15 = [1, 0, 2] := by
  refine (ordU_uniq ⟨?_, ?_⟩).symm
  · exact List.Perm.swap 0 1 [2]
  · refine List.Pairwise.cons (fun z hz => ?_) (List.Pairwise.cons (fun z hz => ?_) (List.pairwise_singleton _ _))
    · simp only [List.mem_cons, List.not_mem_nil, or_false] at hz
      rcases hz with rfl | rfl
      · left; rw [aw15_k0, aw15_k1]; decide
      · left; rw [aw15_k2, aw15_k1]; decide
    · simp only [List.mem_cons, List.not_mem_nil, or_false] at hz
      subst hz
      left; rw [aw15_k2, aw15_k0]; decide
theorem aw15_2 : fadeF 4620693217682128896 (halvesN 2) = 4611686018427387904 := by kernel_rfl
theorem aw15_3 : cl 9218868437227405312 = 9218868437227405311 := by kernel_rfl
theorem aw15_4 : bonusN aw15 2 = 2 := by kernel_rfl
set_option maxHeartbeats 4000000 in
set_option maxRecDepth 100000 in
theorem awake15_c : ACalls Try.prog 8 [] (· = .one (.sv (bv true))) := by
  refine ACalls.of_bodyS (fun _ _ => Try.call8 _ _) Try.func8 rfl Try.ntmps8 (by simp) ?_
  refine Tr.ex ?_
  have f1 := Order_c aw15 (by decide) aw15_w
  rw [aw15_1] at f1
  have f2 := Same_c [1, 0, 2] [1, 0, 2] (by decide) (by decide)
  have f3 := Fade_c 4620693217682128896 2 (by decide)
  rw [aw15_2] at f3
  have f4 := Clean_c 9218868437227405312 (by decide)
  rw [aw15_3] at f4
  have f5 := Bonus_c aw15 2 (by decide) aw15_w
  rw [aw15_4] at f5
  have e1 : fEq .f64 4611686018427387904 4611686018427387904 = true := by rw [fEq_fin (by decide) (by decide)]; rfl
  have e2 : fEq .f64 9218868437227405311 9218868437227405311 = true := by rw [fEq_fin (by decide) (by decide)]; rfl
  simp [go_sem]
  refine OpW.frz 5 ?_
  simp [go_sem]
  refine OpW.ent (st' := ⟨24, [(1, .sv (uses aw15)), (6, .sv (uses aw15))], []⟩) (Ent.chk (by simp [go_sem, aw15])) ?_
  refine OpW.fn false f1 rfl rfl (by simp [go_sem]) (fun h => by cases h) ?_
  rintro r rfl
  simp [go_sem]
  refine OpW.fn true f2 rfl rfl (by simp [go_sem]) (by rintro _ r rfl; simp [go_sem]) ?_
  rintro r rfl
  simp [go_sem]
  refine OpW.fn true f3 rfl rfl (by simp [go_sem]) (by rintro _ r rfl; simp [go_sem]) ?_
  rintro r rfl
  simp [go_sem, e1]
  refine OpW.fn true Inf1_c rfl rfl (by simp [go_sem]) (by rintro _ r rfl; simp [go_sem]) ?_
  rintro r rfl
  simp [go_sem]
  refine OpW.fn true f4 rfl rfl (by simp [go_sem]) (by rintro _ r rfl; simp [go_sem]) ?_
  rintro r rfl
  simp [go_sem, e2]
  refine OpW.fn true f5 rfl rfl (by simp [go_sem]) (by rintro _ r rfl; simp [go_sem]) ?_
  rintro r rfl
  simp [go_sem]
end Go.Proofs.Ytpjcicbohgcehaa.Ab
