/- The law SlotKeeps. -/
import Derived.Test.YtinhfnbmgmociaaDoorSl2
namespace Go.Proofs.YtinhfnbmgmociaaDoor.Ab
open Go.RowKit
set_option linter.unusedVariables false
set_option linter.unusedSimpArgs false

set_option maxRecDepth 100000 in
set_option maxHeartbeats 8000000 in
theorem law_SlotKeeps (y0 : List Thing) (y1 : List Int) (y2 : List Held) (y3 : List Want) (y4 y5 : Int) (G0 : y0.length * 32 ≤ 140737488351232 ∧ y0.length ≤ maxLen ∧ ∀ x ∈ y0, ThingOk x) (G1 : y1.length * 8 ≤ 140737488351232 ∧ y1.length ≤ maxLen ∧ ∀ x ∈ y1, (Lit.int .i64 x).wf = true)
    (G2 : y2.length * 48 ≤ 140737488351232 ∧ y2.length ≤ maxLen ∧ ∀ x ∈ y2, HeldOk x) (G3 : y3.length * 72 ≤ 140737488351232 ∧ y3.length ≤ maxLen ∧ ∀ x ∈ y3, WantOk x) (G4 : (Lit.int .i64 y4).wf = true) (G5 : (Lit.int .i64 y5).wf = true) :
    ACalls Tryd.prog 8 [things y0, ints y1, helds y2, wants y3, iv y4, iv y5] (· = .one (.sv (bv true))) := by
  have hl := things_len G0
  have ht := things_ok G0.2.2
  have hws := wants_ok G3.2.2
  refine ACalls.of_bodyS (fun _ _ => Tryd.call8 _ _) Tryd.func8 rfl Tryd.ntmps8 (by simp) ?_
  refine Tr.ex ?_
  simp [go_sem]
  refine OpW.fn true awake13_c rfl rfl (by simp [go_sem]) (by rintro _ r rfl; simp [go_sem]) ?_
  rintro r rfl
  simp [go_sem]
  refine OpW.fn true (small_c y0 y1 y2 y3 (by omega) (by have := G1.1; omega) (by have := G2.1; omega) (by have := G3.1; omega)) rfl rfl (by simp [go_sem]) (by rintro _ r rfl; simp [go_sem]) ?_
  rintro r rfl
  cases hsm : smallB y0 y1 y2 y3.length with
  | false => simp [go_sem]
  | true =>
    obtain ⟨s1, s2, s3, s4⟩ := small_len hsm
    have s5 := (small_k hsm).1
    have fp := plan_c y0 y1 y2 y3 y4 y5 (by omega) ht (by omega) (by omega) s4 (by omega) hws
    have hpf := plan_facts (g := y0) (use := y1) (l := y2) (f := y4) (v := y5) (ws := y3)
    generalize planL y0 y1 y2 y3 y4 y5 = r at *
    obtain ⟨R, c⟩ := r
    simp only at hpf fp
    simp [go_sem]
    refine OpW.fn false fp rfl rfl (by simp [go_sem]) (fun h => by cases h) ?_
    rintro r rfl
    rcases hpf with ⟨h1, h2⟩ | ⟨h1, htR, htl, hsub, hle, hge, hpl⟩
    · subst h2
      have h1' : (c == 0) = false := by simpa using h1
      simp [go_sem, bne, h1, h1']
      refine OpW.fn true (sameH_c R R (by omega) (by omega) s4 s4) rfl rfl (by simp [go_sem]) (by rintro _ r rfl; simp [go_sem]) ?_
      rintro r rfl
      simp [go_sem]
    · subst h1
      have hR := tab_helds htR
      have hRl : R.length ≤ 20 := by omega
      have n1 : ¬ (R.length : Int) < y2.length := by omega
      have hwl : IntKind.i64.wrap ((y2.length : Int) + y3.length) = (y2.length : Int) + y3.length := by rw [i64w] <;> omega
      have n2 : ¬ (y2.length : Int) + y3.length < R.length := by omega
      have fr := heldRight_c R (by omega) hR
      rw [htR] at fr
      simp [go_sem]
      refine OpW.fn true fr rfl rfl (by simp [go_sem]) (by rintro _ r rfl; simp [go_sem]) ?_
      rintro r rfl
      simp [go_sem, n1, hwl, n2]
      refine LoopW.of (fun i : Nat => ⟨179, [(1, .sv (ints y1)), (2, .sv (helds y2)), (3, .sv (wants y3)), (4, .sv (iv y4)), (5, .sv (iv y5)), (12, .sv (bv false)), (13, .sv (helds R)), (15, .sv (iv i))], []⟩)
        (fun i => i ≤ y2.length) (fun i => y2.length - i) 0 (by omega) (Ent.chk (by simp [go_sem])) ?_
      intro i hi
      by_cases hlt : i < y2.length
      · have hlt' : (i : Int) < y2.length := by omega
        have hw : IntKind.i64.wrap ((i : Int) + 1) = (i : Int) + 1 := by rw [i64w] <;> omega
        obtain ⟨k, hk⟩ : ∃ h, y2[i]? = some h := ⟨_, List.getElem?_eq_getElem hlt⟩
        have hkm := List.mem_of_getElem? hk
        have hkl := s4 k hkm
        have fk := heldGet_c R k.id (by omega) hR
        rw [get_mem htR (hsub k hkm)] at fk
        have onek := One_c k k (by omega) (by omega)
        rw [one_same'] at onek
        simp [go_sem, hlt, hlt', hk, gE hk]
        refine OpW.fn false fk rfl rfl (by simp [go_sem]) (fun h => by cases h) ?_
        rintro r rfl
        simp [go_sem]
        refine DrawW.rd rfl ?_
        simp [go_sem, hlt, hlt', hk, gE hk]
        refine OpD.call false onek rfl rfl (by simp [go_sem]) (fun h => by cases h) (by simp [go_sem]) (by simp [go_sem]) ?_
        simp [go_sem]
        refine ⟨by kernel_rfl, ?_⟩
        exact ⟨i + 1, by omega, by omega, Ent.chk (by simp [go_sem, hw])⟩
      · have hil : i = y2.length := by omega
        subst hil
        simp [go_sem]
        refine LoopW.of (fun i : Nat => ⟨179, [(1, .sv (ints y1)), (2, .sv (helds y2)), (3, .sv (wants y3)), (4, .sv (iv y4)), (5, .sv (iv y5)), (12, .sv (bv false)), (13, .sv (helds R)), (18, .sv (iv i))], []⟩)
          (fun i => i ≤ R.length) (fun i => R.length - i) 0 (by omega) (Ent.chk (by simp [go_sem])) ?_
        intro i hi
        by_cases hlt : i < R.length
        · have hlt' : (i : Int) < R.length := by omega
          have hw : IntKind.i64.wrap ((i : Int) + 1) = (i : Int) + 1 := by rw [i64w] <;> omega
          obtain ⟨x, hx⟩ : ∃ h, R[i]? = some h := ⟨_, List.getElem?_eq_getElem hlt⟩
          have hxm := List.mem_of_getElem? hx
          have hxl := hR x hxm
          have fk := heldGet_c y2 x.id (by omega) s4
          have hoff := get_off (x := x) htl
          have hxp := hpl x hxm
          generalize getL y2 x.id = q at *
          obtain ⟨qh, qb⟩ := q
          simp only at hoff fk
          simp [go_sem, hlt, hlt', hx, gE hx]
          refine OpW.fn false fk rfl rfl (by simp [go_sem]) (fun h => by cases h) ?_
          rintro r rfl
          cases qb with
          | true =>
            simp [go_sem]
            exact ⟨i + 1, by omega, by omega, Ent.chk (by simp [go_sem, hw])⟩
          | false =>
            have hp : planned y1 y3 y4 y5 x := hxp.resolve_left (hoff rfl)
            simp [go_sem]
            refine LoopW.of (fun j : Nat => ⟨179, [(1, .sv (ints y1)), (2, .sv (helds y2)), (3, .sv (wants y3)), (4, .sv (iv y4)), (5, .sv (iv y5)), (12, .sv (bv false)), (13, .sv (helds R)), (18, .sv (iv i)), (21, .sv (bv (anyW y3 x j))), (22, .sv (iv j))], []⟩)
              (fun j => j ≤ y3.length) (fun j => y3.length - j) 0 (by omega) (Ent.chk (by simp [go_sem, anyW_zero])) ?_
            intro j hj
            by_cases hlj : j < y3.length
            · have hlj' : (j : Int) < y3.length := by omega
              have hwj : IntKind.i64.wrap ((j : Int) + 1) = (j : Int) + 1 := by rw [i64w] <;> omega
              obtain ⟨w, hjw⟩ : ∃ h, y3[j]? = some h := ⟨_, List.getElem?_eq_getElem hlj⟩
              have hwt := hws w (List.mem_of_getElem? hjw)
              have hsucc := anyW_succ (x := x) hjw
              have fe := sEnds_c w.spec x.fr hwt
              have hwb : wantB x w = (decide (w.id = x.id) && decide (endsAt w.spec x.fr = x.to)) := rfl
              rw [hwb] at hsucc
              simp [go_sem, hlj, hlj']
              refine DrawW.rd rfl ?_
              cases hb : anyW y3 x j with
              | true =>
                rw [hb, Bool.true_or] at hsucc
                simp [go_sem]
                refine ⟨by kernel_rfl, ?_⟩
                exact ⟨j + 1, by omega, by omega, Ent.chk (by simp [go_sem, hwj, hsucc])⟩
              | false =>
                rw [hb, Bool.false_or] at hsucc
                by_cases e1 : w.id = x.id
                · have e1' : (w.id == x.id) = true := by simpa using e1
                  simp [go_sem, hlj, hlj', hjw, gE hjw, hlt, hlt', hx, gE hx, e1]
                  refine OpD.call false fe rfl rfl (by simp [go_sem]) (fun h => by cases h) (by simp [go_sem]) (by simp [go_sem]) ?_
                  by_cases e2 : endsAt w.spec x.fr = x.to
                  · have hs2 : anyW y3 x (j + 1) = true := by rw [hsucc]; simp [e1, e2]
                    simp [go_sem, hlj, hlj', hjw, gE hjw, hlt, hlt', hx, gE hx, e1, e2]
                    refine ⟨by kernel_rfl, ?_⟩
                    exact ⟨j + 1, by omega, by omega, Ent.chk (by simp [go_sem, hwj, hs2])⟩
                  · have hs2 : anyW y3 x (j + 1) = false := by rw [hsucc]; simp [e1, e2]
                    have e2' : (endsAt w.spec x.fr == x.to) = false := by simpa using e2
                    simp [go_sem, hlj, hlj', hjw, gE hjw, hlt, hlt', hx, gE hx, e1, e2, e2']
                    refine ⟨by kernel_rfl, ?_⟩
                    exact ⟨j + 1, by omega, by omega, Ent.chk (by simp [go_sem, hwj, hs2])⟩
                · have hs2 : anyW y3 x (j + 1) = false := by rw [hsucc]; simp [e1]
                  have e1' : (w.id == x.id) = false := by simpa using e1
                  simp [go_sem, hlj, hlj', hjw, gE hjw, hlt, hlt', hx, gE hx, e1, e1']
                  refine ⟨by kernel_rfl, ?_⟩
                  exact ⟨j + 1, by omega, by omega, Ent.chk (by simp [go_sem, hwj, hs2])⟩
            · have hjl : j = y3.length := by omega
              subst hjl
              rw [planned_any hp]
              obtain ⟨_, p2, p3, p4⟩ := hp
              have fpart := Part_c x.things y1 (by omega) (by omega)
              rw [p2] at fpart
              have n3 : ¬ y5 < x.to := by omega
              have n4 : ¬ x.fr < y4 := by omega
              simp [go_sem, hlt, hlt', hx, gE hx]
              refine OpW.fn true fpart rfl rfl (by simp [go_sem]) (by rintro _ r rfl; simp [go_sem]) ?_
              rintro r rfl
              simp [go_sem, hlt, hlt', hx, gE hx, n3, n4]
              exact ⟨i + 1, by omega, by omega, Ent.chk (by simp [go_sem, hw])⟩
        · have hil : i = R.length := by omega
          subst hil
          simp [go_sem]
end Go.Proofs.YtinhfnbmgmociaaDoor.Ab
