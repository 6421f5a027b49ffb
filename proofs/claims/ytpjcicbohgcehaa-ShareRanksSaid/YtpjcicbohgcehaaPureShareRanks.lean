/- The law ShareRanks. -/
import Derived.Test.YtpjcicbohgcehaaShM
namespace Go.Proofs.Ytpjcicbohgcehaa.Ab
open Go.RowKit Go.Proofs.Ytpjcicbohgcehaa.Fl
set_option linter.unusedVariables false
set_option linter.unusedSimpArgs false
theorem cut_at {α : Type} (g : α → SV) (l : List α) (k : Nat) : List.take (if (k : Int) < l.length then (k : Int) else (l.length : Int)).toNat (l.map g) = (l.take k).map g := by
  rw [List.map_take]
  split
  · rw [Int.toNat_natCast]
  · rename_i h
    rw [Int.toNat_natCast, List.take_of_length_le (by simp), List.take_of_length_le (by simp; omega)]
set_option maxHeartbeats 4000000 in
set_option maxRecDepth 100000 in
theorem ShareRanks_c (l : List Use) (who : Int) (hlw : UsesW l) (hl : l.length ≤ 100000000000000) :
    ACalls Try.prog 3 [uses l, iv who] (· = .one (.sv (bv true))) := by
  refine ACalls.of_bodyS (fun _ _ => Try.call3 _ _) Try.func3 rfl Try.ntmps3 (by simp) ?_
  refine Tr.ex ?_
  have hw' : UsesW (l.take 60) := fun y hy => hlw y (List.mem_of_mem_take hy)
  have htl : (l.take 60).length ≤ 60 := by rw [List.length_take]; omega
  have hmt := cut_at useSV l 60
  have hol := ordU_len (l.take 60)
  have f1 := Order_c (l.take 60) (by omega) hw'
  have f2 := rOrder_c (l.take 60) (by omega) hw'
  have f3 := Same_c (ordU (l.take 60)) (ordU (l.take 60)) (by omega) (by omega)
  rw [decide_eq_true rfl] at f3
  have f4 := Bonus_c (l.take 60) who (by omega) hw'
  have f5 := rBonus_c (l.take 60) who (by omega) hw'
  generalize ordU (l.take 60) = o at *
  generalize bonusN (l.take 60) who = b at *
  generalize l.take 60 = l' at *
  simp only [useSV, iv, fv, Int.cast_ofNat_Int] at hmt
  simp [go_sem]
  refine OpW.fn true awake15_c rfl rfl (by simp [go_sem]) (by rintro _ r rfl; simp [go_sem]) ?_
  rintro r rfl
  simp [go_sem]
  refine ⟨⟨by split <;> omega, by split <;> omega⟩, ?_⟩
  rw [hmt]
  refine OpW.fn false f1 rfl rfl (by simp [go_sem]) (fun h => by cases h) ?_
  rintro r rfl
  simp [go_sem]
  refine OpW.fn false f2 rfl rfl (by simp [go_sem]) (fun h => by cases h) ?_
  rintro r rfl
  simp [go_sem]
  refine OpW.fn true f3 rfl rfl (by simp [go_sem]) (by rintro _ r rfl; simp [go_sem]) ?_
  rintro r rfl
  simp [go_sem]
  refine OpW.fn true f4 rfl rfl (by simp [go_sem]) (by rintro _ r rfl; simp [go_sem]) ?_
  rintro r rfl
  simp [go_sem]
  refine OpW.fn true f5 rfl rfl (by simp [go_sem]) (by rintro _ r rfl; simp [go_sem]) ?_
  rintro r rfl
  simp [go_sem]
theorem law_ShareRanks (l : List Use) (who : Int) (h0 : l.length * 24 ≤ 140737488351232 ∧ l.length ≤ maxLen ∧ ∀ x ∈ l, UseOk x) (h1 : (Lit.int .i64 who).wf = true) :
    ACalls Try.prog 3 [SV.lst (l.map useSV), iv who] (· = .one (.sv (bv true))) :=
  ShareRanks_c l who (fun u hu => (h0.2.2 u hu).w) (by omega)
end Go.Proofs.Ytpjcicbohgcehaa.Ab
