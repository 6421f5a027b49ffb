/- ref13.Plan, ref14.Pick; Later. -/
import Derived.Test.YtinhfnbmgmociaaGreatDoorPi1
namespace Go.Proofs.YtinhfnbmgmociaaGreatDoor.Ab
open Go.RowKit
set_option linter.unusedVariables false
set_option linter.unusedSimpArgs false

set_option maxHeartbeats 8000000 in
set_option maxRecDepth 100000 in
theorem r13Plan_c (g : List Thing) (use : List Int) (l : List Held) (ws : List Want) (f v : Int) (hg : g.length ≤ 140737488355328) (ht : Things g) (hu : use.length ≤ 140737488355328) (hl : l.length ≤ 100000000) (hh : Helds l) (hwl : ws.length ≤ 100000000) (hws : Wants ws) :
    ACalls Tryz.prog 9 [things g, ints use, helds l, wants ws, iv f, iv v] (· = .many [.sv (helds (planL g use l ws f v).1), .sv (iv (planL g use l ws f v).2)]) := by
  refine ACalls.of_bodyS (fun _ _ => Tryz.call9 _ _) Tryz.func9 rfl Tryz.ntmps9 (by simp) ?_
  refine Tr.ex ?_
  unfold planL
  simp [go_sem]
  refine OpW.fn true (r10Right_c l (by omega) hh) rfl rfl (by simp [go_sem]) (by rintro _ r rfl; simp [go_sem]) ?_
  rintro r rfl
  cases hq : isTab l with
  | false => simp [go_sem]
  | true =>
    simp [go_sem]
    refine LoopW.of (fun z : Nat × List Held => ⟨74, [(0, .sv (things g)), (1, .sv (ints use)), (2, .sv (helds l)), (3, .sv (wants ws)), (4, .sv (iv f)), (5, .sv (iv v)), (12, .nil), (13, .sv (iv 0)), (14, .sv (helds z.2)), (15, .sv (iv z.1))], []⟩)
      (fun z => z.1 ≤ ws.length ∧ planTo g use l f v z.2 (ws.drop z.1) = planTo g use l f v l ws ∧ z.2.length ≤ l.length + z.1 ∧ Helds z.2) (fun z => ws.length - z.1) (0, l) ⟨by simp, by simp, by simp, hh⟩ (Ent.chk (by simp [go_sem])) ?_
    rintro ⟨i, out⟩ ⟨hi, hp, hol, hoh⟩
    simp only at hi hp hol hoh ⊢
    by_cases hlt : i < ws.length
    · have hlt' : (i : Int) < ws.length := by omega
      have hw : IntKind.i64.wrap ((i : Int) + 1) = (i : Int) + 1 := by rw [i64w] <;> omega
      obtain ⟨w, hx⟩ : ∃ w, ws[i]? = some w := ⟨_, List.getElem?_eq_getElem hlt⟩
      have hwt := hws w (List.mem_of_getElem? hx)
      have hdr : ws.drop i = w :: ws.drop (i + 1) := by rw [List.drop_eq_getElem_cons hlt, gE hx]
      rw [hdr, planTo_cons] at hp
      have ff := r13First_c g use out w.spec f v hg ht hu (by omega) hoh hwt
      have fe := r7Ends_c w.spec (firstL g use out w.spec f v).1 hwt
      have hql := first_len g use out w.spec f v
      have fad := r10Add_c out (wantH g use out w f v) (by omega) hoh (by unfold wantH; simp only; omega)
      have hgood := add_good (h := wantH g use out w f v) hol hoh (by unfold wantH; simp only; omega)
      generalize addL out (wantH g use out w f v) = a at *
      unfold wantH at fad
      generalize firstL g use out w.spec f v = r at *
      obtain ⟨t, q, ok⟩ := r
      simp only at hp fe fad ff
      generalize endsAt w.spec t = e at *
      simp [go_sem, hlt, hlt', hx, gE hx]
      refine OpW.fn false ff rfl rfl (by simp [go_sem]) (fun h => by cases h) ?_
      rintro r rfl
      cases ok with
      | false =>
        simp only [Bool.false_eq_true, if_false] at hp
        simp [go_sem]
        exact ⟨i + 1, out, ⟨by omega, hp, by omega, hoh⟩, by omega, Ent.chk (by simp [go_sem, hw])⟩
      | true =>
        simp only [if_true] at hp
        simp [go_sem]
        refine DrawW.rd rfl ?_
        simp [go_sem, hlt, hlt', hx, gE hx]
        refine OpD.call false fe rfl rfl (by simp [go_sem]) (fun h => by cases h) (by simp [go_sem]) (by simp [go_sem]) ?_
        simp [go_sem]
        refine OpD.buildS rfl rfl (by simp [go_sem]) (by simp [go_sem]; rfl) (by simp [go_sem]; rfl) (by simp [go_sem]; rfl) (by simp [go_sem]) ?_
        simp [go_sem]
        refine OpD.call false fad rfl rfl (by simp [go_sem]) (fun h => by cases h) (by simp [go_sem]) (by simp [go_sem]) ?_
        simp [go_sem]
        refine ⟨by kernel_rfl, ?_⟩
        by_cases he : a.2 = 0
        · rw [if_pos he] at hp
          have he' : (a.2 == 0) = true := by simpa using he
          simp [go_sem, bne, he, he']
          exact ⟨i + 1, a.1, ⟨by omega, hp, by omega, hgood.2⟩, by omega, Ent.chk (by simp [go_sem, hw])⟩
        · rw [if_neg he] at hp
          have he' : (a.2 == 0) = false := by simpa using he
          rw [← hp]
          simp [go_sem, bne, he, he']
    · have hil : i = ws.length := by omega
      subst hil
      rw [List.drop_length, planTo_nil] at hp
      rw [← hp]
      simp [go_sem]
set_option maxHeartbeats 16000000 in
set_option maxRecDepth 100000 in
theorem r14Pick1_c (g : List Thing) (use : List Int) (l : List Held) (ws : List Want) (f v d : Int) (hg : g.length ≤ 140737488355328) (ht : Things g) (hu : use.length ≤ 140737488355328) (hl : l.length ≤ 100000000) (hh : Helds l) (hwl : ws.length ≤ 100000000) (hws : Wants ws) :
    ACalls Tryz.prog 15 [things g, ints use, helds l, wants ws, iv f, iv v, iv 1, iv d] (· = .many [.sv (helds (pickL g use l ws f v 1 d).1), .sv (helds (pickL g use l ws f v 1 d).2.1), .sv (iv (pickL g use l ws f v 1 d).2.2)]) := by
  refine ACalls.of_bodyS (fun _ _ => Tryz.call15 _ _) Tryz.func15 rfl Tryz.ntmps15 (by simp) ?_
  refine Tr.ex ?_
  have hdp : deepI 1 d = 0 := rfl
  unfold pickL pickOk
  have hpc : True := trivial
  by_cases c3 : d < 0
  · have n : ¬ 0 ≤ d := by omega
    simp [go_sem, bne, c3, n]
  by_cases c4 : 64 < d
  · have n : ¬ d ≤ 64 := by omega
    simp [go_sem, bne, c3, c4, n]
  have n3 : 0 ≤ d := by omega
  have n4 : d ≤ 64 := by omega
  simp [go_sem, bne, c3, c4, n3, n4]
  refine OpW.fn true (r10Right_c l (by omega) hh) rfl rfl (by simp [go_sem]) (by rintro _ r rfl; simp [go_sem]) ?_
  rintro r rfl
  cases hq : isTab l with
  | false => simp [go_sem]
  | true =>
    simp [go_sem]
    refine LoopW.of (fun z : Nat × List Held × List Held × List Held => ⟨136, [(0, .sv (things g)), (1, .sv (ints use)), (2, .sv (helds z.2.1)), (3, .sv (wants ws)), (4, .sv (iv f)), (5, .sv (iv v)), (6, .sv (iv 1)), (7, .sv (iv d)), (16, .nil), (17, .nil), (18, .sv (iv 0)), (19, .own 19), (20, .own 20), (21, .sv (iv z.1))],
        [(19, .row 4 (z.2.2.1.map heldSV)), (20, .row 4 (z.2.2.2.map heldSV))]⟩)
      (fun z => z.1 ≤ ws.length ∧ pickTo g use f v 1 d z.2.1 z.2.2.1 z.2.2.2 (ws.drop z.1) = pickTo g use f v 1 d l [] [] ws ∧ z.2.1.length ≤ l.length + z.1 ∧ Helds z.2.1 ∧ z.2.2.1.length ≤ z.1 ∧ z.2.2.2.length ≤ z.1 ∧ (z.2.2.2.length : Int) ≤ deepI 1 d) (fun z => ws.length - z.1) (0, l, [], []) ⟨by simp, by simp, by simp, hh, by simp, by simp, by simp only [List.length_nil]; rw [hdp]; omega⟩
      (Ent.thaw 19 19 4 (by simp [go_sem]) (by simp [go_sem]) (by decide) (Ent.thaw 20 20 4 (by simp [go_sem]) (by simp [go_sem]) (by decide) (Ent.chk (by simp [go_sem])))) ?_
    rintro ⟨i, out, bg, kp⟩ ⟨hi, hp, hol, hoh, hbl, hkl, hkd⟩
    simp only at hi hp hol hoh hbl hkl hkd ⊢
    rw [hdp] at hkd
    simp only [hdp]
    by_cases hlt : i < ws.length
    · have hlt' : (i : Int) < ws.length := by omega
      have hw : IntKind.i64.wrap ((i : Int) + 1) = (i : Int) + 1 := by rw [i64w] <;> omega
      obtain ⟨w, hx⟩ : ∃ w, ws[i]? = some w := ⟨_, List.getElem?_eq_getElem hlt⟩
      have hwt := hws w (List.mem_of_getElem? hx)
      have hdr : ws.drop i = w :: ws.drop (i + 1) := by rw [List.drop_eq_getElem_cons hlt, gE hx]
      rw [hdr, pickTo_cons, hdp] at hp
      have ff := r13First_c g use out w.spec f v hg ht hu (by omega) hoh hwt
      have hfrom := first_from (g := g) (use := use) (l := out) (s := w.spec) (f := f) (v := v)
      have fe := r7Ends_c w.spec (firstL g use out w.spec f v).1 hwt
      have hql := first_len g use out w.spec f v
      have fad := r10Add_c out (wantH g use out w f v) (by omega) hoh (by unfold wantH; simp only; omega)
      have hgood := add_good (h := wantH g use out w f v) hol hoh (by unfold wantH; simp only; omega)
      have hH : wantH g use out w f v = ⟨w.id, (firstL g use out w.spec f v).2.1, (firstL g use out w.spec f v).1, endsAt w.spec (firstL g use out w.spec f v).1⟩ := rfl
      generalize wantH g use out w f v = h at *
      subst hH
      generalize addL out _ = a at *
      generalize firstL g use out w.spec f v = r at *
      obtain ⟨t, q, ok⟩ := r
      simp only at hp fe fad ff hfrom
      generalize endsAt w.spec t = e at *
      simp [go_sem, hlt, hlt', hx, gE hx]
      refine OpW.fn false ff rfl rfl (by simp [go_sem]) (fun h => by cases h) ?_
      rintro r rfl
      cases ok with
      | false =>
        simp only [Bool.false_eq_true, if_false] at hp
        simp [go_sem]
        exact ⟨i + 1, out, bg, kp, ⟨by omega, hp, by omega, hoh, by omega, by omega, by first | omega | exact List.length_eq_zero_iff.1 (by omega)⟩, by omega, Ent.chk (by simp [go_sem, hw])⟩
      | true =>
        have hfrom := hfrom rfl
        simp only [if_true] at hp
        by_cases d1 : t = f
        · subst d1
          rw [if_neg (fun hc => hc.1 rfl), if_neg (fun hc => hc.1 rfl)] at hp
          simp [go_sem, bne]
          refine DrawW.rdN [25] (by simp [go_sem]) rfl ?_
          simp [go_sem, hlt, hlt', hx, gE hx]
          refine OpD.call false fe rfl rfl (by simp [go_sem]) (fun h => by cases h) (by simp [go_sem]) (by simp [go_sem]) ?_
          simp [go_sem]
          refine OpD.buildS rfl rfl (by simp [go_sem]) (by simp [go_sem]; rfl) (by simp [go_sem]; rfl) (by simp [go_sem]; rfl) (by simp [go_sem]) ?_
          simp [go_sem]
          refine OpD.alloc rfl rfl (by simp [go_sem]) (by simp [go_sem]) (by simp [go_sem]; rfl) (by simp [go_sem]; rfl) ?_
          simp [go_sem]
          refine ⟨by kernel_rfl, ?_⟩
          try simp [go_sem]
          refine OpW.fn false fad rfl rfl (by simp [go_sem]) (fun h => by cases h) ?_
          rintro r rfl
          by_cases he : a.2 = 0
          · rw [if_pos he, if_pos rfl] at hp
            have he' : (a.2 == 0) = true := by simpa using he
            simp [go_sem, bne, he, he']
            exact ⟨by omega, i + 1, a.1, bg ++ [_], kp, ⟨by omega, hp, by omega, hgood.2, by first | omega | (simp; omega), by first | omega | (simp; omega), by first | omega | exact List.length_eq_zero_iff.1 (by omega)⟩, by omega, Ent.rename2 133 19 (by simp [go_sem]) (Ent.chk (by simp [go_sem, hw]))⟩
          · rw [if_neg he] at hp
            have he' : (a.2 == 0) = false := by simpa using he
            rw [← hp]
            simp [go_sem, bne, he, he']
        · have d2 : f < t := by omega
          rw [if_pos ⟨d1, by first | rfl | trivial⟩] at hp
          rw [← hp]
          simp [go_sem, bne, d2, hpc]
    · have hil : i = ws.length := by omega
      subst hil
      rw [List.drop_length, pickTo_nil] at hp
      rw [← hp]
      simp [go_sem]
set_option maxHeartbeats 16000000 in
set_option maxRecDepth 100000 in
theorem r14Pick2_c (g : List Thing) (use : List Int) (l : List Held) (ws : List Want) (f v d : Int) (hg : g.length ≤ 140737488355328) (ht : Things g) (hu : use.length ≤ 140737488355328) (hl : l.length ≤ 100000000) (hh : Helds l) (hwl : ws.length ≤ 100000000) (hws : Wants ws) :
    ACalls Tryz.prog 15 [things g, ints use, helds l, wants ws, iv f, iv v, iv 2, iv d] (· = .many [.sv (helds (pickL g use l ws f v 2 d).1), .sv (helds (pickL g use l ws f v 2 d).2.1), .sv (iv (pickL g use l ws f v 2 d).2.2)]) := by
  refine ACalls.of_bodyS (fun _ _ => Tryz.call15 _ _) Tryz.func15 rfl Tryz.ntmps15 (by simp) ?_
  refine Tr.ex ?_
  have hdp : deepI 2 d = 1 := rfl
  unfold pickL pickOk
  have hpc : True := trivial
  by_cases c3 : d < 0
  · have n : ¬ 0 ≤ d := by omega
    simp [go_sem, bne, c3, n]
  by_cases c4 : 64 < d
  · have n : ¬ d ≤ 64 := by omega
    simp [go_sem, bne, c3, c4, n]
  have n3 : 0 ≤ d := by omega
  have n4 : d ≤ 64 := by omega
  simp [go_sem, bne, c3, c4, n3, n4]
  refine OpW.fn true (r10Right_c l (by omega) hh) rfl rfl (by simp [go_sem]) (by rintro _ r rfl; simp [go_sem]) ?_
  rintro r rfl
  cases hq : isTab l with
  | false => simp [go_sem]
  | true =>
    simp [go_sem]
    refine LoopW.of (fun z : Nat × List Held × List Held × List Held => ⟨136, [(0, .sv (things g)), (1, .sv (ints use)), (2, .sv (helds z.2.1)), (3, .sv (wants ws)), (4, .sv (iv f)), (5, .sv (iv v)), (6, .sv (iv 2)), (7, .sv (iv d)), (16, .nil), (17, .nil), (18, .sv (iv 0)), (19, .own 19), (20, .own 20), (21, .sv (iv z.1))],
        [(19, .row 4 (z.2.2.1.map heldSV)), (20, .row 4 (z.2.2.2.map heldSV))]⟩)
      (fun z => z.1 ≤ ws.length ∧ pickTo g use f v 2 d z.2.1 z.2.2.1 z.2.2.2 (ws.drop z.1) = pickTo g use f v 2 d l [] [] ws ∧ z.2.1.length ≤ l.length + z.1 ∧ Helds z.2.1 ∧ z.2.2.1.length ≤ z.1 ∧ z.2.2.2.length ≤ z.1 ∧ (z.2.2.2.length : Int) ≤ deepI 2 d) (fun z => ws.length - z.1) (0, l, [], []) ⟨by simp, by simp, by simp, hh, by simp, by simp, by simp only [List.length_nil]; rw [hdp]; omega⟩
      (Ent.thaw 19 19 4 (by simp [go_sem]) (by simp [go_sem]) (by decide) (Ent.thaw 20 20 4 (by simp [go_sem]) (by simp [go_sem]) (by decide) (Ent.chk (by simp [go_sem])))) ?_
    rintro ⟨i, out, bg, kp⟩ ⟨hi, hp, hol, hoh, hbl, hkl, hkd⟩
    simp only at hi hp hol hoh hbl hkl hkd ⊢
    rw [hdp] at hkd
    simp only [hdp]
    by_cases hlt : i < ws.length
    · have hlt' : (i : Int) < ws.length := by omega
      have hw : IntKind.i64.wrap ((i : Int) + 1) = (i : Int) + 1 := by rw [i64w] <;> omega
      obtain ⟨w, hx⟩ : ∃ w, ws[i]? = some w := ⟨_, List.getElem?_eq_getElem hlt⟩
      have hwt := hws w (List.mem_of_getElem? hx)
      have hdr : ws.drop i = w :: ws.drop (i + 1) := by rw [List.drop_eq_getElem_cons hlt, gE hx]
      rw [hdr, pickTo_cons, hdp] at hp
      have ff := r13First_c g use out w.spec f v hg ht hu (by omega) hoh hwt
      have hfrom := first_from (g := g) (use := use) (l := out) (s := w.spec) (f := f) (v := v)
      have fe := r7Ends_c w.spec (firstL g use out w.spec f v).1 hwt
      have hql := first_len g use out w.spec f v
      have fad := r10Add_c out (wantH g use out w f v) (by omega) hoh (by unfold wantH; simp only; omega)
      have hgood := add_good (h := wantH g use out w f v) hol hoh (by unfold wantH; simp only; omega)
      have hH : wantH g use out w f v = ⟨w.id, (firstL g use out w.spec f v).2.1, (firstL g use out w.spec f v).1, endsAt w.spec (firstL g use out w.spec f v).1⟩ := rfl
      generalize wantH g use out w f v = h at *
      subst hH
      generalize addL out _ = a at *
      generalize firstL g use out w.spec f v = r at *
      obtain ⟨t, q, ok⟩ := r
      simp only at hp fe fad ff hfrom
      generalize endsAt w.spec t = e at *
      simp [go_sem, hlt, hlt', hx, gE hx]
      refine OpW.fn false ff rfl rfl (by simp [go_sem]) (fun h => by cases h) ?_
      rintro r rfl
      cases ok with
      | false =>
        simp only [Bool.false_eq_true, if_false] at hp
        simp [go_sem]
        exact ⟨i + 1, out, bg, kp, ⟨by omega, hp, by omega, hoh, by omega, by omega, by first | omega | exact List.length_eq_zero_iff.1 (by omega)⟩, by omega, Ent.chk (by simp [go_sem, hw])⟩
      | true =>
        have hfrom := hfrom rfl
        simp only [if_true] at hp
        by_cases d1 : t = f
        · subst d1
          rw [if_neg (fun hc => hc.1 rfl), if_neg (fun hc => hc.1 rfl)] at hp
          simp [go_sem, bne]
          refine DrawW.rdN [25] (by simp [go_sem]) rfl ?_
          simp [go_sem, hlt, hlt', hx, gE hx]
          refine OpD.call false fe rfl rfl (by simp [go_sem]) (fun h => by cases h) (by simp [go_sem]) (by simp [go_sem]) ?_
          simp [go_sem]
          refine OpD.buildS rfl rfl (by simp [go_sem]) (by simp [go_sem]; rfl) (by simp [go_sem]; rfl) (by simp [go_sem]; rfl) (by simp [go_sem]) ?_
          simp [go_sem]
          refine OpD.alloc rfl rfl (by simp [go_sem]) (by simp [go_sem]) (by simp [go_sem]; rfl) (by simp [go_sem]; rfl) ?_
          simp [go_sem]
          refine ⟨by kernel_rfl, ?_⟩
          try simp [go_sem]
          refine OpW.fn false fad rfl rfl (by simp [go_sem]) (fun h => by cases h) ?_
          rintro r rfl
          by_cases he : a.2 = 0
          · rw [if_pos he, if_pos rfl] at hp
            have he' : (a.2 == 0) = true := by simpa using he
            simp [go_sem, bne, he, he']
            exact ⟨by omega, i + 1, a.1, bg ++ [_], kp, ⟨by omega, hp, by omega, hgood.2, by first | omega | (simp; omega), by first | omega | (simp; omega), by first | omega | exact List.length_eq_zero_iff.1 (by omega)⟩, by omega, Ent.rename2 133 19 (by simp [go_sem]) (Ent.chk (by simp [go_sem, hw]))⟩
          · rw [if_neg he] at hp
            have he' : (a.2 == 0) = false := by simpa using he
            rw [← hp]
            simp [go_sem, bne, he, he']
        · have d2 : f < t := by omega
          rw [if_neg (fun hc => absurd hc.2 (by decide))] at hp
          by_cases d3 : (kp.length : Int) = 1
          · have d3' : ((kp.length : Int) == 1) = true := by simpa using d3
            rw [if_pos ⟨d1, by omega⟩] at hp
            simp [go_sem, bne, d2, hpc, d3, d3']
            exact ⟨i + 1, out, bg, kp, ⟨by omega, hp, by omega, hoh, by omega, by omega, by first | omega | exact List.length_eq_zero_iff.1 (by omega)⟩, by omega, Ent.chk (by simp [go_sem, hw])⟩
          · have d3' : ((kp.length : Int) == 1) = false := by simpa using d3
            rw [if_neg (fun hc => d3 (by have := hc.2; omega))] at hp
            simp [go_sem, bne, d2, hpc, d3, d3']
            refine DrawW.rdN [25] (by simp [go_sem]) rfl ?_
            simp [go_sem, hlt, hlt', hx, gE hx]
            refine OpD.call false fe rfl rfl (by simp [go_sem]) (fun h => by cases h) (by simp [go_sem]) (by simp [go_sem]) ?_
            simp [go_sem]
            refine OpD.buildS rfl rfl (by simp [go_sem]) (by simp [go_sem]; rfl) (by simp [go_sem]; rfl) (by simp [go_sem]; rfl) (by simp [go_sem]) ?_
            simp [go_sem]
            refine OpD.alloc rfl rfl (by simp [go_sem]) (by simp [go_sem]) (by simp [go_sem]; rfl) (by simp [go_sem]; rfl) ?_
            simp [go_sem]
            refine ⟨by kernel_rfl, ?_⟩
            try simp [go_sem]
            refine OpW.fn false fad rfl rfl (by simp [go_sem]) (fun h => by cases h) ?_
            rintro r rfl
            by_cases he : a.2 = 0
            · rw [if_pos he, if_neg d1] at hp
              have he' : (a.2 == 0) = true := by simpa using he
              simp [go_sem, bne, he, he', d2]
              exact ⟨by omega, i + 1, a.1, bg, kp ++ [_], ⟨by omega, hp, by omega, hgood.2, by first | omega | (simp; omega), by first | omega | (simp; omega), by rw [List.length_append]; simp only [List.length_singleton]; omega⟩, by omega, Ent.rename2 129 20 (by simp [go_sem]) (Ent.chk (by simp [go_sem, hw]))⟩
            · rw [if_neg he] at hp
              have he' : (a.2 == 0) = false := by simpa using he
              rw [← hp]
              simp [go_sem, bne, he, he', d2]
    · have hil : i = ws.length := by omega
      subst hil
      rw [List.drop_length, pickTo_nil] at hp
      rw [← hp]
      simp [go_sem]
set_option maxHeartbeats 16000000 in
set_option maxRecDepth 100000 in
theorem r14Pick3_c (g : List Thing) (use : List Int) (l : List Held) (ws : List Want) (f v d : Int) (hg : g.length ≤ 140737488355328) (ht : Things g) (hu : use.length ≤ 140737488355328) (hl : l.length ≤ 100000000) (hh : Helds l) (hwl : ws.length ≤ 100000000) (hws : Wants ws) :
    ACalls Tryz.prog 15 [things g, ints use, helds l, wants ws, iv f, iv v, iv 3, iv d] (· = .many [.sv (helds (pickL g use l ws f v 3 d).1), .sv (helds (pickL g use l ws f v 3 d).2.1), .sv (iv (pickL g use l ws f v 3 d).2.2)]) := by
  refine ACalls.of_bodyS (fun _ _ => Tryz.call15 _ _) Tryz.func15 rfl Tryz.ntmps15 (by simp) ?_
  refine Tr.ex ?_
  have hdp : deepI 3 d = d := rfl
  unfold pickL pickOk
  have hpc : True := trivial
  by_cases c3 : d < 0
  · have n : ¬ 0 ≤ d := by omega
    simp [go_sem, bne, c3, n]
  by_cases c4 : 64 < d
  · have n : ¬ d ≤ 64 := by omega
    simp [go_sem, bne, c3, c4, n]
  have n3 : 0 ≤ d := by omega
  have n4 : d ≤ 64 := by omega
  simp [go_sem, bne, c3, c4, n3, n4]
  refine OpW.fn true (r10Right_c l (by omega) hh) rfl rfl (by simp [go_sem]) (by rintro _ r rfl; simp [go_sem]) ?_
  rintro r rfl
  cases hq : isTab l with
  | false => simp [go_sem]
  | true =>
    simp [go_sem]
    refine LoopW.of (fun z : Nat × List Held × List Held × List Held => ⟨136, [(0, .sv (things g)), (1, .sv (ints use)), (2, .sv (helds z.2.1)), (3, .sv (wants ws)), (4, .sv (iv f)), (5, .sv (iv v)), (6, .sv (iv 3)), (7, .sv (iv d)), (16, .nil), (17, .nil), (18, .sv (iv 0)), (19, .own 19), (20, .own 20), (21, .sv (iv z.1))],
        [(19, .row 4 (z.2.2.1.map heldSV)), (20, .row 4 (z.2.2.2.map heldSV))]⟩)
      (fun z => z.1 ≤ ws.length ∧ pickTo g use f v 3 d z.2.1 z.2.2.1 z.2.2.2 (ws.drop z.1) = pickTo g use f v 3 d l [] [] ws ∧ z.2.1.length ≤ l.length + z.1 ∧ Helds z.2.1 ∧ z.2.2.1.length ≤ z.1 ∧ z.2.2.2.length ≤ z.1 ∧ (z.2.2.2.length : Int) ≤ deepI 3 d) (fun z => ws.length - z.1) (0, l, [], []) ⟨by simp, by simp, by simp, hh, by simp, by simp, by simp only [List.length_nil]; rw [hdp]; omega⟩
      (Ent.thaw 19 19 4 (by simp [go_sem]) (by simp [go_sem]) (by decide) (Ent.thaw 20 20 4 (by simp [go_sem]) (by simp [go_sem]) (by decide) (Ent.chk (by simp [go_sem])))) ?_
    rintro ⟨i, out, bg, kp⟩ ⟨hi, hp, hol, hoh, hbl, hkl, hkd⟩
    simp only at hi hp hol hoh hbl hkl hkd ⊢
    rw [hdp] at hkd
    simp only [hdp]
    by_cases hlt : i < ws.length
    · have hlt' : (i : Int) < ws.length := by omega
      have hw : IntKind.i64.wrap ((i : Int) + 1) = (i : Int) + 1 := by rw [i64w] <;> omega
      obtain ⟨w, hx⟩ : ∃ w, ws[i]? = some w := ⟨_, List.getElem?_eq_getElem hlt⟩
      have hwt := hws w (List.mem_of_getElem? hx)
      have hdr : ws.drop i = w :: ws.drop (i + 1) := by rw [List.drop_eq_getElem_cons hlt, gE hx]
      rw [hdr, pickTo_cons, hdp] at hp
      have ff := r13First_c g use out w.spec f v hg ht hu (by omega) hoh hwt
      have hfrom := first_from (g := g) (use := use) (l := out) (s := w.spec) (f := f) (v := v)
      have fe := r7Ends_c w.spec (firstL g use out w.spec f v).1 hwt
      have hql := first_len g use out w.spec f v
      have fad := r10Add_c out (wantH g use out w f v) (by omega) hoh (by unfold wantH; simp only; omega)
      have hgood := add_good (h := wantH g use out w f v) hol hoh (by unfold wantH; simp only; omega)
      have hH : wantH g use out w f v = ⟨w.id, (firstL g use out w.spec f v).2.1, (firstL g use out w.spec f v).1, endsAt w.spec (firstL g use out w.spec f v).1⟩ := rfl
      generalize wantH g use out w f v = h at *
      subst hH
      generalize addL out _ = a at *
      generalize firstL g use out w.spec f v = r at *
      obtain ⟨t, q, ok⟩ := r
      simp only at hp fe fad ff hfrom
      generalize endsAt w.spec t = e at *
      simp [go_sem, hlt, hlt', hx, gE hx]
      refine OpW.fn false ff rfl rfl (by simp [go_sem]) (fun h => by cases h) ?_
      rintro r rfl
      cases ok with
      | false =>
        simp only [Bool.false_eq_true, if_false] at hp
        simp [go_sem]
        exact ⟨i + 1, out, bg, kp, ⟨by omega, hp, by omega, hoh, by omega, by omega, by first | omega | exact List.length_eq_zero_iff.1 (by omega)⟩, by omega, Ent.chk (by simp [go_sem, hw])⟩
      | true =>
        have hfrom := hfrom rfl
        simp only [if_true] at hp
        by_cases d1 : t = f
        · subst d1
          rw [if_neg (fun hc => hc.1 rfl), if_neg (fun hc => hc.1 rfl)] at hp
          simp [go_sem, bne]
          refine DrawW.rdN [25] (by simp [go_sem]) rfl ?_
          simp [go_sem, hlt, hlt', hx, gE hx]
          refine OpD.call false fe rfl rfl (by simp [go_sem]) (fun h => by cases h) (by simp [go_sem]) (by simp [go_sem]) ?_
          simp [go_sem]
          refine OpD.buildS rfl rfl (by simp [go_sem]) (by simp [go_sem]; rfl) (by simp [go_sem]; rfl) (by simp [go_sem]; rfl) (by simp [go_sem]) ?_
          simp [go_sem]
          refine OpD.alloc rfl rfl (by simp [go_sem]) (by simp [go_sem]) (by simp [go_sem]; rfl) (by simp [go_sem]; rfl) ?_
          simp [go_sem]
          refine ⟨by kernel_rfl, ?_⟩
          try simp [go_sem]
          refine OpW.fn false fad rfl rfl (by simp [go_sem]) (fun h => by cases h) ?_
          rintro r rfl
          by_cases he : a.2 = 0
          · rw [if_pos he, if_pos rfl] at hp
            have he' : (a.2 == 0) = true := by simpa using he
            simp [go_sem, bne, he, he']
            exact ⟨by omega, i + 1, a.1, bg ++ [_], kp, ⟨by omega, hp, by omega, hgood.2, by first | omega | (simp; omega), by first | omega | (simp; omega), by first | omega | exact List.length_eq_zero_iff.1 (by omega)⟩, by omega, Ent.rename2 133 19 (by simp [go_sem]) (Ent.chk (by simp [go_sem, hw]))⟩
          · rw [if_neg he] at hp
            have he' : (a.2 == 0) = false := by simpa using he
            rw [← hp]
            simp [go_sem, bne, he, he']
        · have d2 : f < t := by omega
          rw [if_neg (fun hc => absurd hc.2 (by decide))] at hp
          by_cases d3 : (kp.length : Int) = d
          · have d3' : ((kp.length : Int) == d) = true := by simpa using d3
            rw [if_pos ⟨d1, by omega⟩] at hp
            simp [go_sem, bne, d2, hpc, d3, d3']
            exact ⟨i + 1, out, bg, kp, ⟨by omega, hp, by omega, hoh, by omega, by omega, by first | omega | exact List.length_eq_zero_iff.1 (by omega)⟩, by omega, Ent.chk (by simp [go_sem, hw])⟩
          · have d3' : ((kp.length : Int) == d) = false := by simpa using d3
            rw [if_neg (fun hc => d3 (by have := hc.2; omega))] at hp
            simp [go_sem, bne, d2, hpc, d3, d3']
            refine DrawW.rdN [25] (by simp [go_sem]) rfl ?_
            simp [go_sem, hlt, hlt', hx, gE hx]
            refine OpD.call false fe rfl rfl (by simp [go_sem]) (fun h => by cases h) (by simp [go_sem]) (by simp [go_sem]) ?_
            simp [go_sem]
            refine OpD.buildS rfl rfl (by simp [go_sem]) (by simp [go_sem]; rfl) (by simp [go_sem]; rfl) (by simp [go_sem]; rfl) (by simp [go_sem]) ?_
            simp [go_sem]
            refine OpD.alloc rfl rfl (by simp [go_sem]) (by simp [go_sem]) (by simp [go_sem]; rfl) (by simp [go_sem]; rfl) ?_
            simp [go_sem]
            refine ⟨by kernel_rfl, ?_⟩
            try simp [go_sem]
            refine OpW.fn false fad rfl rfl (by simp [go_sem]) (fun h => by cases h) ?_
            rintro r rfl
            by_cases he : a.2 = 0
            · rw [if_pos he, if_neg d1] at hp
              have he' : (a.2 == 0) = true := by simpa using he
              simp [go_sem, bne, he, he', d2]
              exact ⟨by omega, i + 1, a.1, bg, kp ++ [_], ⟨by omega, hp, by omega, hgood.2, by first | omega | (simp; omega), by first | omega | (simp; omega), by rw [List.length_append]; simp only [List.length_singleton]; omega⟩, by omega, Ent.rename2 129 20 (by simp [go_sem]) (Ent.chk (by simp [go_sem, hw]))⟩
            · rw [if_neg he] at hp
              have he' : (a.2 == 0) = false := by simpa using he
              rw [← hp]
              simp [go_sem, bne, he, he', d2]
    · have hil : i = ws.length := by omega
      subst hil
      rw [List.drop_length, pickTo_nil] at hp
      rw [← hp]
      simp [go_sem]
theorem r14Pick_c (g : List Thing) (use : List Int) (l : List Held) (ws : List Want) (f v p d : Int) (hg : g.length ≤ 140737488355328) (ht : Things g) (hu : use.length ≤ 140737488355328) (hl : l.length ≤ 100000000) (hh : Helds l) (hwl : ws.length ≤ 100000000) (hws : Wants ws) :
    ACalls Tryz.prog 15 [things g, ints use, helds l, wants ws, iv f, iv v, iv p, iv d] (· = .many [.sv (helds (pickL g use l ws f v p d).1), .sv (helds (pickL g use l ws f v p d).2.1), .sv (iv (pickL g use l ws f v p d).2.2)]) := by
  by_cases e1 : p = 1
  · subst e1; exact r14Pick1_c g use l ws f v d hg ht hu hl hh hwl hws
  by_cases e2 : p = 2
  · subst e2; exact r14Pick2_c g use l ws f v d hg ht hu hl hh hwl hws
  by_cases e3 : p = 3
  · subst e3; exact r14Pick3_c g use l ws f v d hg ht hu hl hh hwl hws
  have q1 : (p == 1) = false := by simpa using e1
  have q2 : (p == 2) = false := by simpa using e2
  have q3 : (p == 3) = false := by simpa using e3
  have hno : pickL g use l ws f v p d = ([], [], 1) := by
    unfold pickL
    rw [if_neg (fun h => by have := pickOk_iff.1 h; omega)]
  rw [hno]
  refine ACalls.of_bodyS (fun _ _ => Tryz.call15 _ _) Tryz.func15 rfl Tryz.ntmps15 (by simp) ?_
  refine Tr.ex ?_
  simp [go_sem, bne, q1, q2, q3]
set_option maxHeartbeats 8000000 in
theorem Later_c (g : List Thing) (use : List Int) (l m : List Held) (s : Spec) (f v : Int) (hg : g.length ≤ 140737488355328) (ht : Things g) (hu : use.length ≤ 140737488355328) (hl : l.length ≤ 1000000000) (hh : Helds l) (hml : m.length ≤ 1000000000) (hm : Helds m) (hs : s.tag.size ≤ 140737488351232) :
    ACalls Tryz.prog 16 [things g, ints use, helds l, helds m, specSV s, iv f, iv v] (· = .one (.sv (bv (laterB g use l m s f v)))) := by
  refine ACalls.of_bodyS (fun _ _ => Tryz.call16 _ _) Tryz.func16 rfl Tryz.ntmps16 (by simp) ?_
  refine Tr.ex ?_
  have f1 := first_c g use l s f v hg ht hu (by omega) hh hs
  have f2 := first_c g use m s f v hg ht hu (by omega) hm hs
  unfold laterB
  generalize firstL g use l s f v = a at *
  generalize firstL g use m s f v = b at *
  simp [go_sem]
  refine OpW.fn false f1 rfl rfl (by simp [go_sem]) (fun h => by cases h) ?_
  rintro r rfl
  simp [go_sem]
  refine OpW.fn false f2 rfl rfl (by simp [go_sem]) (fun h => by cases h) ?_
  rintro r rfl
  cases ha : a.2.2 with
  | false => simp [go_sem]
  | true =>
    cases hb : b.2.2 with
    | false => simp [go_sem]
    | true => simp [go_sem]
set_option maxHeartbeats 8000000 in
theorem r14Later_c (g : List Thing) (use : List Int) (l m : List Held) (s : Spec) (f v : Int) (hg : g.length ≤ 140737488355328) (ht : Things g) (hu : use.length ≤ 140737488355328) (hl : l.length ≤ 1000000000) (hh : Helds l) (hml : m.length ≤ 1000000000) (hm : Helds m) (hs : s.tag.size ≤ 140737488351232) :
    ACalls Tryz.prog 17 [things g, ints use, helds l, helds m, specSV s, iv f, iv v] (· = .one (.sv (bv (laterB g use l m s f v)))) := by
  refine ACalls.of_bodyS (fun _ _ => Tryz.call17 _ _) Tryz.func17 rfl Tryz.ntmps17 (by simp) ?_
  refine Tr.ex ?_
  have f1 := r13First_c g use l s f v hg ht hu (by omega) hh hs
  have f2 := r13First_c g use m s f v hg ht hu (by omega) hm hs
  unfold laterB
  generalize firstL g use l s f v = a at *
  generalize firstL g use m s f v = b at *
  simp [go_sem]
  refine OpW.fn false f1 rfl rfl (by simp [go_sem]) (fun h => by cases h) ?_
  rintro r rfl
  simp [go_sem]
  refine OpW.fn false f2 rfl rfl (by simp [go_sem]) (fun h => by cases h) ?_
  rintro r rfl
  cases ha : a.2.2 with
  | false => simp [go_sem]
  | true =>
    cases hb : b.2.2 with
    | false => simp [go_sem]
    | true => simp [go_sem]
end Go.Proofs.YtinhfnbmgmociaaGreatDoor.Ab
