/- The law FairPlain. -/
import Derived.Test.YtnkcenafpigmbaaFaJ
namespace Go.Proofs.Ytnkcenafpigmbaa.Ab
open Go.RowKit Go.Proofs.Ytnkcenafpigmbaa.Fl
set_option linter.unusedVariables false
set_option linter.unusedSimpArgs false
set_option maxHeartbeats 4000000 in
set_option maxRecDepth 100000 in
theorem law_FairPlain (y0 : List Job) (y1 : List Owned) (y2 : List Use) (y3 : Int) (G0 : y0.length * 128 ≤ 140737488351232 ∧ y0.length ≤ maxLen ∧ ∀ x ∈ y0, JobOk x) (G1 : y1.length * 16 ≤ 140737488351232 ∧ y1.length ≤ maxLen ∧ ∀ x ∈ y1, OwnedOk x) (G2 : y2.length * 24 ≤ 140737488351232 ∧ y2.length ≤ maxLen ∧ ∀ x ∈ y2, UseOk x) (G3 : (Lit.int .i64 y3).wf = true) :
    ACalls Try.prog 9 [jobs y0, owneds y1, uses y2, iv y3] (· = .one (.sv (bv true))) := by
  refine ACalls.of_bodyS (fun _ _ => Try.call9 _ _) Try.func9 rfl Try.ntmps9 (by simp) ?_
  refine Tr.ex ?_
  simp [go_sem]
  refine OpW.fn true awake26_c rfl rfl (by simp [go_sem]) (by rintro _ r rfl; simp [go_sem]) ?_
  rintro r rfl
  simp [go_sem]
  refine OpW.fn true (short26_c y0 y1 y2 (by omega)) rfl rfl (by simp [go_sem]) (by rintro _ r rfl; simp [go_sem]) ?_
  rintro r rfl
  cases hs : short26 y0 y1 y2 with
  | false => simp [go_sem]
  | true =>
    unfold short26 at hs
    simp only [Bool.and_eq_true, decide_eq_true_eq] at hs
    obtain ⟨⟨hs1, h1⟩, h2⟩ := hs
    obtain ⟨hl, _⟩ := shortJ_len hs1
    have hh := shortJ_jobs26 hs1 G0.2.2
    have hw : UsesW y2 := fun u hu => (G2.2.2 u hu).w
    have hrl := readyL_len26 y0
    have f1 := OrderAll_c y0 y1 [] (by omega) hh (by omega) (by simp) (fun u hu => by cases hu)
    rw [order_plain (c := 0) (fun j _ => by rw [bonusN_nil]; rfl)] at f1
    have honl : (oneO y0 y3).length = y0.length := by unfold oneO; simp
    have f2 := OrderAll_c y0 (oneO y0 y3) y2 (by omega) hh (by omega) (by omega) hw
    rw [order_plain (c := (bonusN y2 y3 : Int)) (fun j hj => by rw [whoO_one hj])] at f2
    have f3 := qReady_c y0 (by omega) hh
    have f4 := Same_c (readyL y0) (readyL y0) (by omega) (by omega)
    rw [decide_eq_true rfl] at f4
    generalize readyL y0 = R at *
    have hone : ∀ {i : Nat} {j : Job}, y0[i]? = some j → (oneO y0 y3).take (i + 1) = (oneO y0 y3).take i ++ [⟨j.id, y3⟩] := fun {i j} hj => by
      have hi := (List.getElem?_eq_some_iff.1 hj).1
      have e : (oneO y0 y3)[i]? = some ⟨j.id, y3⟩ := by unfold oneO; rw [List.getElem?_map, hj]; rfl
      rw [List.take_succ_eq_append_getElem (by omega), gE e]
    generalize oneO y0 y3 = A at *
    simp [go_sem]
    refine LoopW.of (fun i : Nat => ⟨49, [(0, .sv (jobs y0)), (1, .sv (owneds y1)), (2, .sv (uses y2)), (3, .sv (iv y3)), (8, .sv (bv false)), (9, .own 9), (10, .sv (iv i))], [(9, .row 2 ((A.take i).map ownedSV))]⟩)
      (fun i => i ≤ y0.length) (fun i => y0.length - i) 0 (by omega) (Ent.thaw 9 9 2 (by simp [go_sem]) (by simp [go_sem]) (by decide) (Ent.chk (by simp [go_sem]))) ?_
    intro i hi
    by_cases hlt : i < y0.length
    case neg =>
      have hil : i = y0.length := by omega
      subst hil
      have hAll : A.take y0.length = A := by rw [← honl, List.take_length]
      rw [hAll]
      simp [go_sem]
      refine OpW.frz 9 (OpW.go ?_)
      simp [go_sem]
      refine OpW.fn false f1 rfl rfl (by simp [go_sem]) (fun h => by cases h) ?_
      rintro r rfl
      simp [go_sem]
      refine OpW.fn false f3 rfl rfl (by simp [go_sem]) (fun h => by cases h) ?_
      rintro r rfl
      simp [go_sem]
      refine OpW.fn true f4 rfl rfl (by simp [go_sem]) (by rintro _ r rfl; simp [go_sem]) ?_
      rintro r rfl
      simp [go_sem]
      refine OpW.fn false f2 rfl rfl (by simp [go_sem]) (fun h => by cases h) ?_
      rintro r rfl
      simp [go_sem]
      refine OpW.fn false f3 rfl rfl (by simp [go_sem]) (fun h => by cases h) ?_
      rintro r rfl
      simp [go_sem]
      refine OpW.fn true f4 rfl rfl (by simp [go_sem]) (by rintro _ r rfl; simp [go_sem]) ?_
      rintro r rfl
      simp [go_sem]
    case pos =>
    have hlt' : (i : Int) < y0.length := by omega
    have hwr : IntKind.i64.wrap ((i : Int) + 1) = (i : Int) + 1 := by rw [i64w] <;> omega
    obtain ⟨j, hx⟩ : ∃ h, y0[i]? = some h := ⟨_, List.getElem?_eq_getElem hlt⟩
    have hA := hone hx
    have hm := congrArg (List.map ownedSV) hA
    rw [List.map_append] at hm
    simp only [List.map_cons, List.map_nil, ownedSV, iv] at hm
    have htl : (A.take i).length = i := by rw [List.length_take]; omega
    have hm2 : List.take (i + 1) (A.map ownedSV) = (A.take i).map ownedSV ++ [SV.agg [SV.val (.int .i64 j.id), SV.val (.int .i64 y3)]] := by rw [← hm, List.map_take]
    generalize hcu : A.take i = cu at *
    simp [go_sem, hlt, hlt', hx, gE hx]
    exact ⟨by omega, i + 1, by omega, by omega, Ent.rename2 33 9 (by simp [go_sem]) (Ent.chk (by simp [go_sem, hwr, hm2]))⟩
end Go.Proofs.Ytnkcenafpigmbaa.Ab
