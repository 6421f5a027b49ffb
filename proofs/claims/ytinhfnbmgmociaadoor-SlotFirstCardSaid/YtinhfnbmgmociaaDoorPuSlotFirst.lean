/- The law SlotFirst. -/
import Derived.Test.YtinhfnbmgmociaaDoorSl2
namespace Go.Proofs.YtinhfnbmgmociaaDoor.Ab
open Go.RowKit
set_option linter.unusedVariables false
set_option linter.unusedSimpArgs false

set_option maxRecDepth 100000 in
set_option maxHeartbeats 8000000 in
theorem law_SlotFirst (y0 : List Thing) (y1 : List Int) (y2 : List Held) (y3 : Spec) (y4 y5 : Int) (G0 : y0.length * 32 ≤ 140737488351232 ∧ y0.length ≤ maxLen ∧ ∀ x ∈ y0, ThingOk x) (G1 : y1.length * 8 ≤ 140737488351232 ∧ y1.length ≤ maxLen ∧ ∀ x ∈ y1, (Lit.int .i64 x).wf = true)
    (G2 : y2.length * 48 ≤ 140737488351232 ∧ y2.length ≤ maxLen ∧ ∀ x ∈ y2, HeldOk x) (G3 : SpecOk y3) (G4 : (Lit.int .i64 y4).wf = true) (G5 : (Lit.int .i64 y5).wf = true) :
    ACalls Tryd.prog 9 [things y0, ints y1, helds y2, specSV y3, iv y4, iv y5] (· = .one (.sv (bv true))) := by
  have hl := things_len G0
  have ht := things_ok G0.2.2
  have hs := G3.2.2.2.1
  refine ACalls.of_bodyS (fun _ _ => Tryd.call9 _ _) Tryd.func9 rfl Tryd.ntmps9 (by simp) ?_
  refine Tr.ex ?_
  simp [go_sem]
  refine OpW.fn true awake13_c rfl rfl (by simp [go_sem]) (by rintro _ r rfl; simp [go_sem]) ?_
  rintro r rfl
  simp [go_sem]
  refine OpW.fn true (small_c y0 y1 y2 [] (by omega) (by have := G1.1; omega) (by have := G2.1; omega) (by simp)) rfl rfl (by simp [go_sem]) (by rintro _ r rfl; simp [go_sem]) ?_
  rintro r rfl
  cases hsm : smallB y0 y1 y2 0 with
  | false => simp [go_sem]
  | true =>
    obtain ⟨s1, s2, s3, s4⟩ := small_len hsm
    have hel := endsL_len (l := y2) (f := y4)
    have fe := Ends_c y2 y4 (by omega) s4
    have f1 := first_c y0 y1 y2 y3 y4 y5 (by omega) ht (by omega) (by omega) s4 hs
    have fat := fun x => at_c y0 y1 y2 y3 x y5 (by omega) ht (by omega) (by omega) s4 hs
    have hen := fun i x hx h => at_end (g := y0) (use := y1) (l := y2) (s := y3) (f := y4) (v := y5) (i := i) (x := x) hx h
    have hfr := at_from (g := y0) (use := y1) (l := y2) (s := y3) (f := y4) (v := y5)
    have hfa := first_facts (g := y0) (use := y1) (l := y2) (s := y3) (f := y4) (v := y5)
    have hno := first_none (g := y0) (use := y1) (l := y2) (s := y3) (f := y4) (v := y5)
    have hfl := first_len y0 y1 y2 y3 y4 y5
    have htb : (firstL y0 y1 y2 y3 y4 y5).2.2 = true → isTab y2 = true := fun h => (first_ok h).1
    generalize firstL y0 y1 y2 y3 y4 y5 = r at *
    obtain ⟨t, q, ok⟩ := r
    simp only at hen hfr hfa hno hfl htb f1
    generalize endsL y2 y4 = es at *
    simp [go_sem]
    refine OpW.fn false f1 rfl rfl (by simp [go_sem]) (fun h => by cases h) ?_
    rintro r rfl
    simp [go_sem]
    refine OpW.fn false fe rfl rfl (by simp [go_sem]) (fun h => by cases h) ?_
    rintro r rfl
    simp [go_sem]
    refine LoopW.of (fun i : Nat => ⟨165, [(0, .sv (things y0)), (1, .sv (ints y1)), (2, .sv (helds y2)), (4, .sv (iv y4)), (5, .sv (iv y5)), (9, .box 9 0), (12, .sv (bv false)), (13, .sv (iv t)), (14, .sv (ints q)), (15, .sv (bv ok)), (16, .sv (ints es)), (17, .sv (iv i))], [(9, .box ((specCells y3).map .sv))]⟩)
      (fun i => i ≤ es.length) (fun i => es.length - i) 0 (by omega) (Ent.chk (by simp [go_sem])) ?_
    intro i hi
    by_cases hlt : i < es.length
    · have hlt' : (i : Int) < es.length := by omega
      have hw : IntKind.i64.wrap ((i : Int) + 1) = (i : Int) + 1 := by rw [i64w] <;> omega
      obtain ⟨x, hx⟩ : ∃ x, es[i]? = some x := ⟨_, List.getElem?_eq_getElem hlt⟩
      have hex := hen i x hx
      have fx := fat x
      generalize atL y0 y1 y2 y3 x y5 = a at *
      simp [go_sem, hlt, hlt', hx, gE hx]
      refine DrawW.rd rfl ?_
      simp [go_sem, hlt, hlt', hx, gE hx]
      refine OpD.call false fx rfl rfl (by simp [go_sem]) (fun h => by cases h) (by simp [go_sem]) (by simp [go_sem]) ?_
      simp [go_sem]
      refine ⟨by kernel_rfl, ?_⟩
      cases ha : a.2 with
      | false =>
        simp [go_sem]
        exact ⟨i + 1, by omega, by omega, Ent.chk (by simp [go_sem, hw])⟩
      | true =>
        obtain ⟨k1, k2⟩ := hex ha
        subst k1
        simp [go_sem, hlt, hlt', hx, gE hx, k2]
        exact ⟨i + 1, by omega, by omega, Ent.chk (by simp [go_sem, hw])⟩
    · have hil : i = es.length := by omega
      subst hil
      have fa := fat y4
      generalize atL y0 y1 y2 y3 y4 y5 = a at *
      cases ok with
      | false =>
        have e := hno rfl
        obtain ⟨rfl, rfl, _⟩ : t = 0 ∧ q = [] ∧ True := by
          have e1 := congrArg (·.1) e
          have e2 := congrArg (·.2.1) e
          exact ⟨e1, e2, trivial⟩
        simp only [Bool.false_and] at hfr
        simp [go_sem]
        refine OpW.fn false fa rfl rfl (by simp [go_sem]) (fun h => by cases h) ?_
        rintro r rfl
        simp [go_sem, hfr]
      | true =>
        obtain ⟨p1, p2, p3, p4, p5, p6⟩ := hfa rfl
        have htab := htb rfl
        have hbl := busyL_len y2 t (endsAt y3 t)
        have fs := sEnds_c y3 t hs
        have hm := (p6 (-1)).1
        have hc := (p6 (-1)).2
        have hadd : (addL y2 ⟨-1, q, t, endsAt y3 t⟩).2 = 0 ∨ (addL y2 ⟨-1, q, t, endsAt y3 t⟩).2 = 7 := by
          unfold addL
          have hn : ¬ y2.length = 256 := by omega
          simp only [htab, hm, hc]
          cases isAt y2 (-1) <;> simp [hn]
        have fad := heldAdd_c y2 ⟨-1, q, t, endsAt y3 t⟩ (by omega) s4 (by show q.length ≤ _; omega)
        generalize addL y2 ⟨-1, q, t, endsAt y3 t⟩ = ad at *
        have fpart := Part_c q y1 (by omega) (by omega)
        have fap := Apart_c q (busyL y2 t (endsAt y3 t)) (by omega) (by omega)
        have fbu := Busy_c y2 t (endsAt y3 t) (by omega) s4
        rw [p3] at fpart
        rw [p4] at fap
        generalize busyL y2 t (endsAt y3 t) = bs at *
        generalize endsAt y3 t = e at *
        have fco := Could_c y0 y3 (by omega) ht hs
        rw [p5] at fco
        simp only [Bool.true_and] at hfr
        have hfr2 : a.2 = (t == y4) := by rw [hfr]; rfl
        have n1 : ¬ t < y4 := by omega
        have n2 : ¬ y5 < e := by omega
        simp [go_sem]
        refine OpW.fn false fa rfl rfl (by simp [go_sem]) (fun h => by cases h) ?_
        rintro r rfl
        simp [go_sem, hfr2]
        refine OpW.fn true fs rfl rfl (by simp [go_sem]) (by rintro _ r rfl; simp [go_sem]) ?_
        rintro r rfl
        simp [go_sem, n1, n2]
        refine OpW.fn true fpart rfl rfl (by simp [go_sem]) (by rintro _ r rfl; simp [go_sem]) ?_
        rintro r rfl
        simp [go_sem]
        refine OpW.fn false fbu rfl rfl (by simp [go_sem]) (fun h => by cases h) ?_
        rintro r rfl
        simp [go_sem]
        refine OpW.fn true fap rfl rfl (by simp [go_sem]) (by rintro _ r rfl; simp [go_sem]) ?_
        rintro r rfl
        simp [go_sem]
        refine OpW.fn true fco rfl rfl (by simp [go_sem]) (by rintro _ r rfl; simp [go_sem]) ?_
        rintro r rfl
        simp [go_sem]
        refine OpW.fn false fad rfl rfl (by simp [go_sem]) (fun h => by cases h) ?_
        rintro r rfl
        rcases hadd with h | h
        · simp [go_sem, h]
        · simp [go_sem, h]
end Go.Proofs.YtinhfnbmgmociaaDoor.Ab
