/- The law FairCharges. -/
import Derived.Test.YtnkcenafpigmbaaGreatFaG
namespace Go.Proofs.YtnkcenafpigmbaaGreat.Ab
open Go.RowKit Go.Proofs.YtnkcenafpigmbaaGreat.Fl
set_option linter.unusedVariables false
set_option linter.unusedSimpArgs false
theorem cut_at {α : Type} (g : α → SV) (l : List α) (k : Nat) : List.take (if (k : Int) < l.length then (k : Int) else (l.length : Int)).toNat (l.map g) = (l.take k).map g := by
  rw [List.map_take]
  split
  · rw [Int.toNat_natCast]
  · rename_i h
    rw [Int.toNat_natCast, List.take_of_length_le (by simp), List.take_of_length_le (by simp; omega)]
set_option maxHeartbeats 8000000 in
set_option maxRecDepth 100000 in
theorem FairCharges_c (l : List Use) (who cores ticks halves : Int) (hlw : UsesW l) (hc : cores ≤ 9223372036854775807) (ht : ticks ≤ 9223372036854775807) (hl : l.length ≤ 100000000000000) :
    ACalls Tryz.prog 3 [uses l, iv who, iv cores, iv ticks, iv halves] (· = .one (.sv (bv true))) := by
  refine ACalls.of_bodyS (fun _ _ => Tryz.call3 _ _) Tryz.func3 rfl Tryz.ntmps3 (by simp) ?_
  refine Tr.ex ?_
  have hw' : UsesW (l.take 30) := fun y hy => hlw y (List.mem_of_mem_take hy)
  have htl : (l.take 30).length ≤ 30 := by rw [List.length_take]; omega
  have hmt : List.take (if (30 : Int) < l.length then (30 : Int) else (l.length : Int)).toNat (l.map useSV) = (l.take 30).map useSV := cut_at useSV l 30
  generalize l.take 30 = L at *
  have f1 := Charge_c L who cores ticks (by omega) hw' hc ht
  have f2 := rCharge_c L who cores ticks (by omega) hw' hc ht
  have hcl : (chargeU L who (moreF cores ticks)).length ≤ 31 := by
    unfold chargeU
    split
    · rw [List.length_set]; omega
    · simp; omega
  have f3 := SameU_c (chargeU L who (moreF cores ticks)) (by omega)
  have f4 := FadeU_c L halves (by omega) hw'
  have f5 := rFadeU_c L halves (by omega) hw'
  have f6 := SameU_c (L.map (fade1 halves)) (by simp; omega)
  have f7 := SameU_c L (by omega)
  generalize chargeU L who (moreF cores ticks) = C at *
  generalize L.map (fade1 halves) = F at *
  simp [go_sem]
  refine OpW.fn true awake26_c rfl rfl (by simp [go_sem]) (by rintro _ r rfl; simp [go_sem]) ?_
  rintro r rfl
  simp [go_sem, hmt]
  refine ⟨⟨by split <;> omega, by split <;> omega⟩, by omega, ?_⟩
  refine OpW.frz 21 (OpW.go ?_)
  simp [go_sem]
  refine OpW.fn false f1 rfl rfl (by simp [go_sem]) (fun h => by cases h) ?_
  rintro r rfl
  simp [go_sem]
  refine OpW.fn false f2 rfl rfl (by simp [go_sem]) (fun h => by cases h) ?_
  rintro r rfl
  simp [go_sem]
  refine OpW.fn true f3 rfl rfl (by simp [go_sem]) (by rintro _ r rfl; simp [go_sem]) ?_
  rintro r rfl
  simp [go_sem]
  refine OpW.fn false f4 rfl rfl (by simp [go_sem]) (fun h => by cases h) ?_
  rintro r rfl
  simp [go_sem]
  refine OpW.fn false f5 rfl rfl (by simp [go_sem]) (fun h => by cases h) ?_
  rintro r rfl
  simp [go_sem]
  refine OpW.fn true f6 rfl rfl (by simp [go_sem]) (by rintro _ r rfl; simp [go_sem]) ?_
  rintro r rfl
  simp [go_sem]
  refine OpW.fn true f7 rfl rfl (by simp [go_sem]) (by rintro _ r rfl; simp [go_sem]) ?_
  rintro r rfl
  simp [go_sem]
theorem i64_le {n : Int} (h : (Lit.int .i64 n).wf = true) : n ≤ 9223372036854775807 := by
  simp [Lit.wf] at h
  have e1 : IntKind.i64.max = 9223372036854775807 := by decide
  omega
theorem law_FairCharges (l : List Use) (who cores ticks halves : Int) (h0 : l.length * 24 ≤ 140737488351232 ∧ l.length ≤ maxLen ∧ ∀ x ∈ l, UseOk x) (h1 : (Lit.int .i64 who).wf = true) (h2 : (Lit.int .i64 cores).wf = true) (h3 : (Lit.int .i64 ticks).wf = true) (h4 : (Lit.int .i64 halves).wf = true) :
    ACalls Tryz.prog 3 [SV.lst (l.map useSV), iv who, iv cores, iv ticks, iv halves] (· = .one (.sv (bv true))) :=
  FairCharges_c l who cores ticks halves (fun u hu => (h0.2.2 u hu).w) (i64_le h2) (i64_le h3) (by omega)
end Go.Proofs.YtnkcenafpigmbaaGreat.Ab
