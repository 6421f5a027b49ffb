/- The law PickOrder. -/
import Derived.Test.YtinhfnbmgmociaaDoorPi1
namespace Go.Proofs.YtinhfnbmgmociaaDoor.Ab
open Go.RowKit
set_option linter.unusedVariables false
set_option linter.unusedSimpArgs false

structure PickS where
  i : Nat
  n : Nat
  st : Bool
  tb : List Held
set_option maxRecDepth 100000 in
set_option maxHeartbeats 8000000 in
theorem law_PickOrder (y0 : List Thing) (y1 : List Int) (y2 : List Held) (y3 : List Want) (y4 y5 : Int) (G0 : y0.length * 32 ≤ 140737488351232 ∧ y0.length ≤ maxLen ∧ ∀ x ∈ y0, ThingOk x) (G1 : y1.length * 8 ≤ 140737488351232 ∧ y1.length ≤ maxLen ∧ ∀ x ∈ y1, (Lit.int .i64 x).wf = true)
    (G2 : y2.length * 48 ≤ 140737488351232 ∧ y2.length ≤ maxLen ∧ ∀ x ∈ y2, HeldOk x) (G3 : y3.length * 72 ≤ 140737488351232 ∧ y3.length ≤ maxLen ∧ ∀ x ∈ y3, WantOk x) (G4 : (Lit.int .i64 y4).wf = true) (G5 : (Lit.int .i64 y5).wf = true) :
    ACalls Tryd.prog 6 [things y0, ints y1, helds y2, wants y3, iv y4, iv y5] (· = .one (.sv (bv true))) := by
  have hl := things_len G0
  have ht := things_ok G0.2.2
  have hws := wants_ok G3.2.2
  refine ACalls.of_bodyS (fun _ _ => Tryd.call6 _ _) Tryd.func6 rfl Tryd.ntmps6 (by simp) ?_
  refine Tr.ex ?_
  simp [go_sem]
  refine OpW.fn true awake14_c rfl rfl (by simp [go_sem]) (by rintro _ r rfl; simp [go_sem]) ?_
  rintro r rfl
  simp [go_sem]
  refine OpW.fn true (small14_c y0 y1 y2 y3 (by omega) (by have := G1.1; omega) (by have := G2.1; omega) (by have := G3.1; omega)) rfl rfl (by simp [go_sem]) (by rintro _ r rfl; simp [go_sem]) ?_
  rintro r rfl
  cases hsm : smallB y0 y1 y2 y3.length with
  | false => simp [go_sem]
  | true =>
    obtain ⟨s1, s2, s3, s4⟩ := small_len hsm
    have s5 := (small_k hsm).1
    simp [go_sem]
    refine LoopW.of (fun j : Nat => ⟨124, [(0, .sv (things y0)), (1, .sv (ints y1)), (2, .sv (helds y2)), (3, .sv (wants y3)), (4, .sv (iv y4)), (5, .sv (iv y5)), (12, .sv (bv false)), (13, .sv (iv j))], []⟩)
      (fun j => j ≤ y3.length ∧ idsTo y3 j) (fun j => y3.length - j) 0 ⟨by omega, ids_zero y3⟩ (Ent.chk (by simp [go_sem])) ?_
    rintro j ⟨hj, hids⟩
    by_cases hlt : j < y3.length
    · have hlt' : (j : Int) < y3.length := by omega
      have hwj : IntKind.i64.wrap ((j : Int) + 1) = (j : Int) + 1 := by rw [i64w] <;> omega
      obtain ⟨w, hw⟩ : ∃ h, y3[j]? = some h := ⟨_, List.getElem?_eq_getElem hlt⟩
      simp [go_sem, hlt, hlt']
      refine LoopW.of (fun k : Nat => ⟨124, [(0, .sv (things y0)), (1, .sv (ints y1)), (2, .sv (helds y2)), (3, .sv (wants y3)), (4, .sv (iv y4)), (5, .sv (iv y5)), (12, .sv (bv false)), (13, .sv (iv j)), (14, .sv (iv k))], []⟩)
        (fun k => k ≤ j ∧ ∀ u ∈ y3.take k, u.id ≠ w.id) (fun k => j - k) 0 ⟨by omega, by simp⟩ (Ent.chk (by simp [go_sem])) ?_
      rintro k ⟨hk, hne⟩
      by_cases hlk : k < j
      · have hlk' : (k : Int) < j := by omega
        have hlk2 : k < y3.length := by omega
        have hlk3 : (k : Int) < y3.length := by omega
        have hwk : IntKind.i64.wrap ((k : Int) + 1) = (k : Int) + 1 := by rw [i64w] <;> omega
        obtain ⟨u, hu⟩ : ∃ h, y3[k]? = some h := ⟨_, List.getElem?_eq_getElem hlk2⟩
        have htk : y3.take (k + 1) = y3.take k ++ [u] := by rw [List.take_succ_eq_append_getElem hlk2, gE hu]
        simp [go_sem, hlk, hlk']
        refine DrawW.rd rfl ?_
        by_cases he : u.id = w.id
        · have he' : (u.id == w.id) = true := by simpa using he
          simp [go_sem, hlt, hlt', hlk2, hlk3, hu, gE hu, hw, gE hw, he]
          show _ = true
          kernel_rfl
        · have he' : (u.id == w.id) = false := by simpa using he
          simp [go_sem, hlt, hlt', hlk2, hlk3, hu, gE hu, hw, gE hw, he, he']
          refine ⟨by kernel_rfl, ?_⟩
          refine ⟨k + 1, ⟨by omega, fun x hx => ?_⟩, by omega, Ent.chk (by simp [go_sem, hwk])⟩
          rw [htk, List.mem_append] at hx
          rcases hx with hx | hx
          · exact hne x hx
          · rw [List.mem_singleton.1 hx]; exact he
      · have hkj : k = j := by omega
        subst hkj
        simp [go_sem]
        exact ⟨k + 1, ⟨by omega, ids_succ hw hids hne⟩, by omega, Ent.chk (by simp [go_sem, hwj])⟩
    · have hjl : j = y3.length := by omega
      subst hjl
      have fp := pick_c y0 y1 y2 y3 y4 y5 1 0 (by omega) ht (by omega) (by omega) s4 (by omega) hws
      have hrep := replay_start (g := y0) (use := y1) (l := y2) (ws := y3) (f := y4) (v := y5)
      have hbl := pick_small y0 y1 y2 y3 y4 y5 1 0
      have hbh := pick_helds (g := y0) (use := y1) (l := y2) (ws := y3) (f := y4) (v := y5) (p := 1) (d := 0)
      generalize pickL y0 y1 y2 y3 y4 y5 1 0 = r at *
      obtain ⟨bg, kp, c⟩ := r
      simp only at hrep fp hbl hbh
      simp [go_sem]
      refine OpW.fn false fp rfl rfl (by simp [go_sem]) (fun h => by cases h) ?_
      rintro r rfl
      by_cases hc : c = 0
      case neg =>
        have hc' : (c == 0) = false := by simpa using hc
        simp [go_sem, bne, hc, hc']
      subst hc
      have hrep := hrep rfl
      have hbh := hbh rfl
      simp [go_sem]
      refine LoopW.of (fun z : PickS => ⟨124, [(0, .sv (things y0)), (1, .sv (ints y1)), (3, .sv (wants y3)), (4, .sv (iv y4)), (5, .sv (iv y5)), (12, .sv (bv false)), (15, .sv (helds bg)), (18, .sv (iv z.n)), (19, .sv (bv z.st)), (20, .sv (helds z.tb)), (21, .sv (iv z.i))], []⟩)
        (fun z => z.i ≤ y3.length ∧ replayI y0 y1 y4 y5 bg (y3.drop z.i) z.n z.st z.tb ∧ z.n ≤ z.i ∧ z.tb.length ≤ y2.length + z.i ∧ Helds z.tb) (fun z => y3.length - z.i) ⟨0, 0, false, y2⟩ ⟨by simp, by simpa using hrep, by simp, by simp, s4⟩ (Ent.chk (by simp [go_sem])) ?_
      rintro ⟨i, n, st, tb⟩ ⟨hi, hr, hn, htl, hth⟩
      simp only at hi hr hn htl hth ⊢
      by_cases hlt : i < y3.length
      · have hlt' : (i : Int) < y3.length := by omega
        have hwi : IntKind.i64.wrap ((i : Int) + 1) = (i : Int) + 1 := by rw [i64w] <;> omega
        have hwn : IntKind.i64.wrap ((n : Int) + 1) = (n : Int) + 1 := by rw [i64w] <;> omega
        obtain ⟨w, hw⟩ : ∃ h, y3[i]? = some h := ⟨_, List.getElem?_eq_getElem hlt⟩
        have hwt := hws w (List.mem_of_getElem? hw)
        have hdr : y3.drop i = w :: y3.drop (i + 1) := by rw [List.drop_eq_getElem_cons hlt, gE hw]
        rw [hdr] at hr
        have hstep := replay_step (ids_later hw hids) hr
        have ff := first_c y0 y1 tb w.spec y4 y5 (by omega) ht (by omega) (by omega) hth hwt
        generalize firstL y0 y1 tb w.spec y4 y5 = a at *
        by_cases d1 : n < bg.length
        · have d1' : (n : Int) < bg.length := by omega
          obtain ⟨h, hh⟩ : ∃ h, bg[n]? = some h := ⟨_, List.getElem?_eq_getElem d1⟩
          have hbn : bg[n] = h := (List.getElem?_eq_some_iff.1 hh).2
          have hhl := hbh h (List.mem_of_getElem? hh)
          simp only [hbn] at hstep
          simp [go_sem, hlt, hlt']
          refine DrawW.rd rfl ?_
          by_cases d2 : h.id = w.id
          · have d2' : (h.id == w.id) = true := by simpa using d2
            obtain ⟨k1, k2⟩ := hstep.1 d1 d2
            subst k1
            have hgood := add_good (h := h) htl hth hhl
            have fad := heldAdd_c tb h (by omega) hth hhl
            generalize addL tb h = ad at *
            simp [go_sem, hlt, hlt', d1, d1', hh, gE hh, hw, gE hw, d2']
            refine ⟨by kernel_rfl, ?_⟩
            try simp [go_sem, hlt, hlt', d1, d1', hh, gE hh]
            refine OpW.fn false fad rfl rfl (by simp [go_sem]) (fun h => by cases h) ?_
            rintro r rfl
            simp [go_sem]
            exact ⟨⟨i + 1, n + 1, false, ad.1⟩, ⟨Nat.succ_le_of_lt hlt, k2, (by first | omega | (simp only; omega)), (by have := hgood.1; first | omega | (simp only; omega)), hgood.2⟩, (by first | omega | (simp only; omega)), Ent.chk (by simp [go_sem, hwi, hwn])⟩
          · have d2' : (h.id == w.id) = false := by simpa using d2
            have k2 := hstep.2 (fun _ => d2)
            simp [go_sem, hlt, hlt', d1, d1', hh, gE hh, hw, gE hw, d2, d2']
            refine ⟨by kernel_rfl, ?_⟩
            try simp [go_sem, hlt, hlt', hw, gE hw]
            refine OpW.fn false ff rfl rfl (by simp [go_sem]) (fun h => by cases h) ?_
            rintro r rfl
            cases ha : a.2.2 with
            | true =>
              rw [ha, if_pos rfl] at k2
              simp [go_sem]
              exact ⟨⟨i + 1, n, true, tb⟩, ⟨Nat.succ_le_of_lt hlt, k2, (by first | omega | (simp only; omega)), (by first | omega | (simp only; omega)), hth⟩, (by first | omega | (simp only; omega)), Ent.chk (by simp [go_sem, hwi])⟩
            | false =>
              rw [ha, if_neg (by simp)] at k2
              simp [go_sem]
              exact ⟨⟨i + 1, n, st, tb⟩, ⟨Nat.succ_le_of_lt hlt, k2, (by first | omega | (simp only; omega)), (by first | omega | (simp only; omega)), hth⟩, (by first | omega | (simp only; omega)), Ent.chk (by simp [go_sem, hwi])⟩
        · have d1' : ¬ (n : Int) < bg.length := by omega
          have k2 := hstep.2 (fun hc => absurd hc d1)
          simp [go_sem, hlt, hlt']
          refine DrawW.rd rfl ?_
          simp [go_sem, d1, d1']
          refine ⟨by kernel_rfl, ?_⟩
          simp [go_sem, hlt, hlt', hw, gE hw]
          refine OpW.fn false ff rfl rfl (by simp [go_sem]) (fun h => by cases h) ?_
          rintro r rfl
          cases ha : a.2.2 with
          | true =>
            rw [ha, if_pos rfl] at k2
            simp [go_sem]
            exact ⟨⟨i + 1, n, true, tb⟩, ⟨Nat.succ_le_of_lt hlt, k2, (by first | omega | (simp only; omega)), (by first | omega | (simp only; omega)), hth⟩, (by first | omega | (simp only; omega)), Ent.chk (by simp [go_sem, hwi])⟩
          | false =>
            rw [ha, if_neg (by simp)] at k2
            simp [go_sem]
            exact ⟨⟨i + 1, n, st, tb⟩, ⟨Nat.succ_le_of_lt hlt, k2, (by first | omega | (simp only; omega)), (by first | omega | (simp only; omega)), hth⟩, (by first | omega | (simp only; omega)), Ent.chk (by simp [go_sem, hwi])⟩
      · have hil : i = y3.length := by omega
        subst hil
        rw [List.drop_length] at hr
        have he := replay_end hr
        subst he
        simp [go_sem]
end Go.Proofs.YtinhfnbmgmociaaDoor.Ab
