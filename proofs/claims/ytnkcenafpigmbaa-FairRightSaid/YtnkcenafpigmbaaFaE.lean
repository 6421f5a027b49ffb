/- awake of chapter 26. -/
import Derived.Test.YtnkcenafpigmbaaQu7
import Derived.Test.YtnkcenafpigmbaaFaD
namespace Go.Proofs.Ytnkcenafpigmbaa.Ab
open Go.RowKit Go.Proofs.Ytnkcenafpigmbaa.Fl
set_option linter.unusedVariables false
set_option linter.unusedSimpArgs false

def bS : Spec := ⟨1, 1, 0, ⟨#[]⟩, false, 1, 0⟩
def bJ1 : Job := ⟨1, bS, [], 0, 0, 0, 0⟩
def bJ2 : Job := ⟨2, bS, [], 0, 0, 0, 0⟩
def bU1 : List Use := [⟨1, 4617315517961601024, 4607182418800017408⟩]
def bU2 : List Use := [⟨1, 4617315517961601024, 4607182418800017408⟩, ⟨2, 0, 4607182418800017408⟩]
def bO : List Owned := [⟨1, 1⟩, ⟨2, 2⟩]
attribute [go_sem] bS bJ1 bJ2 bU1 bU2 bO
theorem bw1 : addQ [] bS [] 0 = ([bJ1], 1, 0) := by kernel_rfl
theorem bw2 : addQ [bJ1] bS [] 0 = ([bJ1, bJ2], 2, 0) := by kernel_rfl
theorem bw3 : chargeU [] 1 (moreF 1 5) = bU1 := by kernel_rfl
theorem bw4 : chargeU bU1 2 (moreF 0 5) = bU2 := by kernel_rfl
theorem bw5 : readyL [bJ1, bJ2] = [1, 2] := by kernel_rfl
theorem bw6 : orderL [bJ1, bJ2] bO bU2 = [2, 1] := by kernel_rfl
theorem bw_jobs {l : List Job} (h : ∀ j ∈ l, j = bJ1 ∨ j = bJ2) : Jobs l := fun j hj => by
  rcases h j hj with rfl | rfl <;> exact ⟨by decide, by decide⟩
theorem bU1_w : UsesW bU1 := fun u hu => by
  simp only [bU1, List.mem_cons, List.not_mem_nil, or_false] at hu
  subst hu
  exact ⟨by decide, by decide⟩
theorem bU2_w : UsesW bU2 := fun u hu => by
  simp only [bU2, List.mem_cons, List.not_mem_nil, or_false] at hu
  rcases hu with rfl | rfl <;> exact ⟨by decide, by decide⟩
/-- The order of few. -/
theorem Order12_c (l : List Job) (ow : List Owned) (us : List Use) (hl : l.length ≤ 12) (hh : Jobs l) (ho : ow.length ≤ 1000000) (hu : us.length ≤ 1000000) (hw : UsesW us) (hR : (readyL l).length ≤ 12) :
    ACalls Try.prog 31 [jobs l, owneds ow, uses us] (· = .one (.sv (ints (orderL l ow us)))) :=
  OrderX l ow us (by omega) hh ho hu hw (readyL l) rfl (by omega) (rankL l ow us) (srt (fun a b => decide (cmpR a b < 0)) (rankL l ow us)) rfl (srt_len _ _)
    (sortR_c (rankL l ow us) _ [] cmpR (fun _ => True) (fun a b _ _ => cmpR_c a b) (fun _ _ => trivial) (by unfold rankL; rw [List.length_map]; exact hR))
set_option maxHeartbeats 8000000 in
set_option maxRecDepth 100000 in
theorem awake26_c : ACalls Try.prog 27 [] (· = .one (.sv (bv true))) := by
  refine ACalls.of_bodyS (fun _ _ => Try.call27 _ _) Try.func27 rfl Try.ntmps27 (by simp) ?_
  refine Tr.ex ?_
  have f1 := qAdd_c [] bS [] 0 (by simp) (fun j hj => by cases hj) (by decide) (by simp)
  have f2 := qAdd_c [bJ1] bS [] 0 (by simp) (bw_jobs (by simp)) (by decide) (by simp)
  have f3 := Charge_c [] 1 1 5 (by simp) (fun u hu => by cases hu) (by omega) (by omega)
  have f4 := Charge_c bU1 2 0 5 (by decide) bU1_w (by omega) (by omega)
  have f5 := Order12_c [bJ1, bJ2] bO bU2 (by simp) (bw_jobs (by simp)) (by decide) (by decide) bU2_w (by rw [bw5]; decide)
  have f6 := Same_c [2, 1] [2, 1] (by simp) (by simp)
  have f7 := Who_c [] 3 (by simp)
  rw [show whoO [] 3 = 0 from rfl] at f7
  rw [bw1] at f1
  rw [bw2] at f2
  rw [bw3] at f3
  rw [bw4] at f4
  rw [bw6] at f5
  have e1 : fEq .f64 4617315517961601024 4617315517961601024 = true := by rw [fEq_fin (by decide) (by decide)]; rfl
  simp [go_sem]
  refine OpW.fn false f1 rfl rfl (by simp [go_sem]) (fun h => by cases h) ?_
  rintro r rfl
  simp [go_sem]
  refine OpW.fn false f2 rfl rfl (by simp [go_sem]) (fun h => by cases h) ?_
  rintro r rfl
  simp [go_sem]
  refine OpW.fn false f3 rfl rfl (by simp [go_sem]) (fun h => by cases h) ?_
  rintro r rfl
  simp [go_sem]
  refine OpW.fn false f4 rfl rfl (by simp [go_sem]) (fun h => by cases h) ?_
  rintro r rfl
  simp [go_sem]
  refine OpW.frz 26 (OpW.go ?_)
  simp [go_sem]
  refine OpW.fn false f5 rfl rfl (by simp [go_sem]) (fun h => by cases h) ?_
  rintro r rfl
  simp [go_sem]
  refine OpW.fn true f6 rfl rfl (by simp [go_sem]) (by rintro _ r rfl; simp [go_sem]) ?_
  rintro r rfl
  simp [go_sem, e1]
  refine OpW.fn true f7 rfl rfl (by simp [go_sem]) (by rintro _ r rfl; simp [go_sem]) ?_
  rintro r rfl
  simp [go_sem]
end Go.Proofs.Ytnkcenafpigmbaa.Ab
