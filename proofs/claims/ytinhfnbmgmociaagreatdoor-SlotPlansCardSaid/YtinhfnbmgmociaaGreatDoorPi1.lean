/- Picks in plain words. pick.deep, Pick; all. Picks: plain facts for the laws. pick: all; what is always so at first. -/
import Derived.Test.YtinhfnbmgmociaaGreatDoorSl2
namespace Go.Proofs.YtinhfnbmgmociaaGreatDoor.Ab
open Go.RowKit
set_option linter.unusedVariables false
set_option linter.unusedSimpArgs false

def deepI (p d : Int) : Int := if p = 2 then 1 else if p = 3 then d else 0
def pickTo (g : List Thing) (use : List Int) (f v p d : Int) : List Held → List Held → List Held → List Want → List Held × List Held × Int
  | _, bg, kp, [] => (bg, kp, 0)
  | l, bg, kp, w :: ws =>
    if (firstL g use l w.spec f v).2.2 = true then
      (if ¬ (firstL g use l w.spec f v).1 = f ∧ p = 1 then (bg, kp, 0)
      else if ¬ (firstL g use l w.spec f v).1 = f ∧ deepI p d ≤ kp.length then pickTo g use f v p d l bg kp ws
      else if (addL l (wantH g use l w f v)).2 = 0 then
        (if (firstL g use l w.spec f v).1 = f then pickTo g use f v p d (addL l (wantH g use l w f v)).1 (bg ++ [wantH g use l w f v]) kp ws
        else pickTo g use f v p d (addL l (wantH g use l w f v)).1 bg (kp ++ [wantH g use l w f v]) ws)
      else ([], [], (addL l (wantH g use l w f v)).2))
    else pickTo g use f v p d l bg kp ws
theorem pickTo_nil (g : List Thing) (use : List Int) (f v p d : Int) (l bg kp : List Held) : pickTo g use f v p d l bg kp [] = (bg, kp, 0) := by rw [pickTo]
theorem pickTo_cons (g : List Thing) (use : List Int) (f v p d : Int) (l bg kp : List Held) (w : Want) (ws : List Want) : pickTo g use f v p d l bg kp (w :: ws) =
    if (firstL g use l w.spec f v).2.2 = true then
      (if ¬ (firstL g use l w.spec f v).1 = f ∧ p = 1 then (bg, kp, 0)
      else if ¬ (firstL g use l w.spec f v).1 = f ∧ deepI p d ≤ kp.length then pickTo g use f v p d l bg kp ws
      else if (addL l (wantH g use l w f v)).2 = 0 then
        (if (firstL g use l w.spec f v).1 = f then pickTo g use f v p d (addL l (wantH g use l w f v)).1 (bg ++ [wantH g use l w f v]) kp ws
        else pickTo g use f v p d (addL l (wantH g use l w f v)).1 bg (kp ++ [wantH g use l w f v]) ws)
      else ([], [], (addL l (wantH g use l w f v)).2))
    else pickTo g use f v p d l bg kp ws := by rw [pickTo]
def pickOk (l : List Held) (p d : Int) : Bool := decide (1 ≤ p) && decide (p ≤ 3) && decide (0 ≤ d) && decide (d ≤ 64) && isTab l
def pickL (g : List Thing) (use : List Int) (l : List Held) (ws : List Want) (f v p d : Int) : List Held × List Held × Int :=
  if pickOk l p d = true then pickTo g use f v p d l [] [] ws else ([], [], 1)
def laterB (g : List Thing) (use : List Int) (l m : List Held) (s : Spec) (f v : Int) : Bool := (firstL g use l s f v).2.2 && (!(firstL g use m s f v).2.2 || decide ((firstL g use l s f v).1 < (firstL g use m s f v).1))
theorem nodup_le : ∀ {a b : List Int}, a.Nodup → (∀ x ∈ a, x ∈ b) → a.length ≤ b.length
  | [], b, _, _ => by simp
  | x :: a, b, hn, hs => by
    have h1 := List.nodup_cons.1 hn
    have hx : x ∈ b := hs x List.mem_cons_self
    have := nodup_le (b := b.erase x) h1.2 fun y hy => (List.mem_erase_of_ne (fun e : y = x => h1.1 (by rw [← e]; exact hy))).2 (hs y (List.mem_cons_of_mem _ hy))
    rw [List.length_erase_of_mem hx] at this
    have := List.length_pos_of_mem hx
    simp only [List.length_cons]; omega
/-- A holding of a right table may be added to any part of it. -/
theorem sub_add {l T : List Held} {h : Held} (hT : isTab T = true) (hl : isTab l = true) (hsub : ∀ x ∈ l, x ∈ T) (hh : h ∈ T) (hn : h ∉ l) : (addL l h).2 = 0 := by
  have hp := (isTab_iff.1 hT)
  have hpair : ∀ {a b : Held}, a ∈ T → b ∈ T → a ≠ b → a.id ≠ b.id ∧ clashB a b = false := fun {a b} ha hb hab => by
    obtain ⟨i, hi⟩ := List.getElem?_of_mem ha
    obtain ⟨j, hj⟩ := List.getElem?_of_mem hb
    obtain ⟨h1, e1⟩ := List.getElem?_eq_some_iff.1 hi
    obtain ⟨h2, e2⟩ := List.getElem?_eq_some_iff.1 hj
    have hij : i ≠ j := fun e => hab (by subst e; rw [← e1, e2])
    rcases Nat.lt_or_gt_of_ne hij with q | q
    · have := List.pairwise_iff_getElem.1 hp.2.2 i j h1 h2 q
      rw [e1, e2] at this
      exact ⟨by have := this.1; omega, this.2⟩
    · have := List.pairwise_iff_getElem.1 hp.2.2 j i h2 h1 q
      rw [e1, e2] at this
      exact ⟨by have := this.1; omega, by rw [clash_comm]; exact this.2⟩
  have hlt : l.length < T.length := by
    have hnd : ((h :: l).map Held.id).Nodup := by
      rw [List.map_cons, List.nodup_cons]
      refine ⟨fun hm => ?_, ?_⟩
      · obtain ⟨x, hx, e⟩ := List.mem_map.1 hm
        exact (hpair (hsub x hx) hh (fun e => hn (e ▸ hx))).1 e
      · rw [List.nodup_iff_pairwise_ne, List.pairwise_map]
        exact (tab_sorted hl).imp (fun hab e => by omega)
    have := nodup_le hnd (b := T.map Held.id) (fun x hx => by
      obtain ⟨y, hy, rfl⟩ := List.mem_map.1 hx
      refine List.mem_map.2 ⟨y, ?_, rfl⟩
      rcases List.mem_cons.1 hy with rfl | hy
      · exact hh
      · exact hsub y hy)
    simp only [List.length_map, List.length_cons] at this
    omega
  refine add_ok.2 ⟨hl, hp.2.1 h hh, ?_, by have := hp.1; omega, ?_⟩
  · cases hq : isAt l h.id with
    | false => rfl
    | true =>
      obtain ⟨x, hx, e⟩ := isAt_iff.1 hq
      exact absurd e (hpair (hsub x hx) hh (fun e => hn (e ▸ hx))).1
  · cases hq : anyClash l h with
    | false => rfl
    | true =>
      obtain ⟨x, hx, e⟩ := anyClash_iff.1 hq
      rw [(hpair (hsub x hx) hh (fun e => hn (e ▸ hx))).2] at e; cases e
end Go.Proofs.YtinhfnbmgmociaaGreatDoor.Ab

namespace Go.Proofs.YtinhfnbmgmociaaGreatDoor.Ab
open Go.RowKit
set_option linter.unusedVariables false
set_option linter.unusedSimpArgs false

theorem OpD.alloc {P : Program} {Q : Exit → St → Prop} {D : List Nat} {ops : Array Oper} {o : Oper} {l : List Oper} {fs : List Ft} {k : List Fr} {st : St} {e : TypeId} {d : Nat} {z : Value} {cs : List AV} (ho : o.op = .alloc e) (hd : o.dst = some d) (hg : grd ops st o = some true) (hn : d < st.n) (hz : tzero P e = some z) (hc : z.cells.toList.map avC = cs)
    (h : Ab.rd P Q D ops l (ftN ops o [] d (.box d 0) (.box cs) (AV.tagsL cs) :: fs) k { st with t := up st.t d (.box d 0), m := up st.m d (.box cs) }) : OpD P Q D ops o l fs k st :=
  OpD.heavy (locH (d := d) hg rfl rfl rfl (ftN_box fun d' hh => holdsL_tags hh) fun s hs hT hM hf => by
    subst hc
    exact does_alloc ho hd hf (by omega) hz) h
theorem deep_c (p d : Int) : ACalls Tryz.prog 28 [iv p, iv d] (· = .one (.sv (iv (deepI p d)))) := by
  refine ACalls.of_bodyS (fun _ _ => Tryz.call28 _ _) Tryz.func28 rfl Tryz.ntmps28 (by simp) ?_
  refine Tr.ex ?_
  unfold deepI
  by_cases h2 : p = 2
  · simp [go_sem, h2]
  · have e2 : (p == 2) = false := by simpa using h2
    by_cases h3 : p = 3
    · simp [go_sem, h2, e2, h3]
    · have e3 : (p == 3) = false := by simpa using h3
      simp [go_sem, h2, e2, h3, e3]
set_option maxHeartbeats 16000000 in
set_option maxRecDepth 100000 in
theorem pick_c (g : List Thing) (use : List Int) (l : List Held) (ws : List Want) (f v p d : Int) (hg : g.length ≤ 140737488355328) (ht : Things g) (hu : use.length ≤ 140737488355328) (hl : l.length ≤ 100000000) (hh : Helds l) (hwl : ws.length ≤ 100000000) (hws : Wants ws) :
    ACalls Tryz.prog 14 [things g, ints use, helds l, wants ws, iv f, iv v, iv p, iv d] (· = .many [.sv (helds (pickL g use l ws f v p d).1), .sv (helds (pickL g use l ws f v p d).2.1), .sv (iv (pickL g use l ws f v p d).2.2)]) := by
  refine ACalls.of_bodyS (fun _ _ => Tryz.call14 _ _) Tryz.func14 rfl Tryz.ntmps14 (by simp) ?_
  refine Tr.ex ?_
  unfold pickL pickOk
  by_cases c1 : p < 1
  · have n : ¬ 1 ≤ p := by omega
    simp [go_sem, c1, n]
  by_cases c2 : 3 < p
  · have n : ¬ p ≤ 3 := by omega
    simp [go_sem, c1, c2, n]
  by_cases c3 : d < 0
  · have n : ¬ 0 ≤ d := by omega
    simp [go_sem, c1, c2, c3, n]
  by_cases c4 : 64 < d
  · have n : ¬ d ≤ 64 := by omega
    simp [go_sem, c1, c2, c3, c4, n]
  have n1 : 1 ≤ p := by omega
  have n2 : p ≤ 3 := by omega
  have n3 : 0 ≤ d := by omega
  have n4 : d ≤ 64 := by omega
  simp [go_sem, c1, c2, c3, c4, n1, n2, n3, n4]
  refine OpW.fn true (heldRight_c l (by omega) hh) rfl rfl (by simp [go_sem]) (by rintro _ r rfl; simp [go_sem]) ?_
  rintro r rfl
  cases hq : isTab l with
  | false => simp [go_sem]
  | true =>
    simp [go_sem]
    refine LoopW.of (fun z : Nat × List Held × List Held × List Held => ⟨119, [(0, .sv (things g)), (1, .sv (ints use)), (2, .sv (helds z.2.1)), (4, .sv (iv f)), (5, .sv (iv v)), (6, .sv (iv p)), (7, .sv (iv d)), (16, .nil), (17, .nil), (18, .sv (iv 0)), (19, .own 19), (20, .own 20), (48, .sv (wants ws)), (49, .sv (iv ws.length)), (50, .sv (iv z.1))],
        [(19, .row 4 (z.2.2.1.map heldSV)), (20, .row 4 (z.2.2.2.map heldSV))]⟩)
      (fun z => z.1 ≤ ws.length ∧ pickTo g use f v p d z.2.1 z.2.2.1 z.2.2.2 (ws.drop z.1) = pickTo g use f v p d l [] [] ws ∧ z.2.1.length ≤ l.length + z.1 ∧ Helds z.2.1 ∧ z.2.2.1.length ≤ z.1 ∧ z.2.2.2.length ≤ z.1) (fun z => ws.length - z.1) (0, l, [], []) ⟨by simp, by simp, by simp, hh, by simp, by simp⟩
      (Ent.thaw 19 19 4 (by simp [go_sem]) (by simp [go_sem]) (by decide) (Ent.thaw 20 20 4 (by simp [go_sem]) (by simp [go_sem]) (by decide) (Ent.chk (by simp [go_sem])))) ?_
    rintro ⟨i, out, bg, kp⟩ ⟨hi, hp, hol, hoh, hbl, hkl⟩
    simp only at hi hp hol hoh hbl hkl ⊢
    by_cases hlt : i < ws.length
    · have hlt' : (i : Int) < ws.length := by omega
      have hw : IntKind.i64.wrap ((i : Int) + 1) = (i : Int) + 1 := by rw [i64w] <;> omega
      obtain ⟨w, hx⟩ : ∃ w, ws[i]? = some w := ⟨_, List.getElem?_eq_getElem hlt⟩
      have hwt := hws w (List.mem_of_getElem? hx)
      have hdr : ws.drop i = w :: ws.drop (i + 1) := by rw [List.drop_eq_getElem_cons hlt, gE hx]
      rw [hdr, pickTo_cons] at hp
      have ff := first_c g use out w.spec f v hg ht hu (by omega) hoh hwt
      have fe := sEnds_c w.spec (firstL g use out w.spec f v).1 hwt
      have hql := first_len g use out w.spec f v
      have fad := heldAdd_c out (wantH g use out w f v) (by omega) hoh (by unfold wantH; simp only; omega)
      have hgood := add_good (h := wantH g use out w f v) hol hoh (by unfold wantH; simp only; omega)
      have hH : wantH g use out w f v = ⟨w.id, (firstL g use out w.spec f v).2.1, (firstL g use out w.spec f v).1, endsAt w.spec (firstL g use out w.spec f v).1⟩ := rfl
      generalize wantH g use out w f v = h at *
      subst hH
      generalize addL out _ = a at *
      generalize firstL g use out w.spec f v = r at *
      obtain ⟨t, q, ok⟩ := r
      simp only at hp fe fad ff
      generalize endsAt w.spec t = e at *
      simp [go_sem, hlt, hlt', hx, gE hx]
      refine OpW.fn false ff rfl rfl (by simp [go_sem]) (fun h => by cases h) ?_
      rintro r rfl
      cases ok with
      | false =>
        simp only [Bool.false_eq_true, if_false] at hp
        simp [go_sem]
        exact ⟨i + 1, out, bg, kp, ⟨by omega, hp, by omega, hoh, by omega, by omega⟩, by omega, Ent.chk (by simp [go_sem, hw])⟩
      | true =>
        simp only [if_true] at hp
        by_cases d1 : t = f
        · subst d1
          rw [if_neg (fun hc => hc.1 rfl), if_neg (fun hc => hc.1 rfl)] at hp
          simp [go_sem, bne]
          refine DrawW.rdN [26] (by simp [go_sem]) rfl ?_
          simp [go_sem]
          refine OpD.call false fe rfl rfl (by simp [go_sem]) (fun h => by cases h) (by simp [go_sem]) (by simp [go_sem]) ?_
          simp [go_sem]
          refine OpD.buildS rfl rfl (by simp [go_sem]) (by simp [go_sem]; rfl) (by simp [go_sem]; rfl) (by simp [go_sem]; rfl) (by simp [go_sem]) ?_
          simp [go_sem]
          refine OpD.alloc rfl rfl (by simp [go_sem]) (by simp [go_sem]) (by simp [go_sem]; rfl) (by simp [go_sem]; rfl) ?_
          simp [go_sem]
          refine ⟨by kernel_rfl, ?_⟩
          try simp [go_sem]
          refine OpW.fn false fad rfl rfl (by simp [go_sem]) (fun h => by cases h) ?_
          rintro r rfl
          by_cases he : a.2 = 0
          · rw [if_pos he, if_pos rfl] at hp
            have he' : (a.2 == 0) = true := by simpa using he
            simp [go_sem, bne, he, he']
            exact ⟨by omega, i + 1, a.1, bg ++ [_], kp, ⟨by omega, hp, by omega, hgood.2, by first | omega | (simp; omega), by first | omega | (simp; omega)⟩, by omega, Ent.rename2 111 19 (by simp [go_sem]) (Ent.chk (by simp [go_sem, hw]))⟩
          · rw [if_neg he] at hp
            have he' : (a.2 == 0) = false := by simpa using he
            rw [← hp]
            simp [go_sem, bne, he, he']
        · have d1' : (t == f) = false := by simpa using d1
          by_cases d2 : p = 1
          · rw [if_pos ⟨d1, d2⟩] at hp
            rw [← hp]
            simp [go_sem, bne, d1, d1', d2]
          · have d2' : (p == 1) = false := by simpa using d2
            rw [if_neg (fun hc => d2 hc.2)] at hp
            simp [go_sem, bne, d1, d1', d2, d2']
            refine OpW.fn true (deep_c p d) rfl rfl (by simp [go_sem]) (by rintro _ r rfl; simp [go_sem]) ?_
            rintro r rfl
            by_cases d3 : deepI p d ≤ kp.length
            · rw [if_pos ⟨d1, d3⟩] at hp
              simp [go_sem, d3]
              exact ⟨i + 1, out, bg, kp, ⟨by omega, hp, by omega, hoh, by omega, by omega⟩, by omega, Ent.chk (by simp [go_sem, hw])⟩
            · rw [if_neg (fun hc => d3 hc.2)] at hp
              simp [go_sem, d3]
              refine DrawW.rdN [26] (by simp [go_sem]) rfl ?_
              simp [go_sem]
              refine OpD.call false fe rfl rfl (by simp [go_sem]) (fun h => by cases h) (by simp [go_sem]) (by simp [go_sem]) ?_
              simp [go_sem]
              refine OpD.buildS rfl rfl (by simp [go_sem]) (by simp [go_sem]; rfl) (by simp [go_sem]; rfl) (by simp [go_sem]; rfl) (by simp [go_sem]) ?_
              simp [go_sem]
              refine OpD.alloc rfl rfl (by simp [go_sem]) (by simp [go_sem]) (by simp [go_sem]; rfl) (by simp [go_sem]; rfl) ?_
              simp [go_sem]
              refine ⟨by kernel_rfl, ?_⟩
              try simp [go_sem]
              refine OpW.fn false fad rfl rfl (by simp [go_sem]) (fun h => by cases h) ?_
              rintro r rfl
              by_cases he : a.2 = 0
              · rw [if_pos he, if_neg d1] at hp
                have he' : (a.2 == 0) = true := by simpa using he
                simp [go_sem, bne, he, he', d1, d1']
                exact ⟨by omega, i + 1, a.1, bg, kp ++ [_], ⟨by omega, hp, by omega, hgood.2, by first | omega | (simp; omega), by first | omega | (simp; omega)⟩, by omega, Ent.rename2 115 20 (by simp [go_sem]) (Ent.chk (by simp [go_sem, hw]))⟩
              · rw [if_neg he] at hp
                have he' : (a.2 == 0) = false := by simpa using he
                rw [← hp]
                simp [go_sem, bne, he, he']
    · have hil : i = ws.length := by omega
      subst hil
      rw [List.drop_length, pickTo_nil] at hp
      rw [← hp]
      simp [go_sem]
end Go.Proofs.YtinhfnbmgmociaaGreatDoor.Ab

namespace Go.Proofs.YtinhfnbmgmociaaGreatDoor.Ab
open Go.RowKit
set_option linter.unusedVariables false
set_option linter.unusedSimpArgs false

section
variable {g : List Thing} {use : List Int} {f v p d : Int}
theorem pick_grow : ∀ (ws : List Want) (l bg kp : List Held), (pickTo g use f v p d l bg kp ws).2.2 = 0 →
    ∃ B K, (pickTo g use f v p d l bg kp ws).1 = bg ++ B ∧ (pickTo g use f v p d l bg kp ws).2.1 = kp ++ K ∧ ∀ x ∈ B, ∃ w ∈ ws, w.id = x.id
  | [], l, bg, kp, _ => by
    rw [pickTo_nil]
    exact ⟨[], [], by simp, by simp, fun x hx => by cases hx⟩
  | w :: ws, l, bg, kp, h => by
    have up : ∀ {B : List Held}, (∀ x ∈ B, ∃ u ∈ ws, u.id = x.id) → ∀ x ∈ B, ∃ u ∈ w :: ws, u.id = x.id := fun hB x hx => by
      obtain ⟨u, h1, h2⟩ := hB x hx; exact ⟨u, List.mem_cons_of_mem _ h1, h2⟩
    rw [pickTo_cons] at h ⊢
    by_cases h1 : (firstL g use l w.spec f v).2.2 = true
    · rw [if_pos h1] at h ⊢
      by_cases h2 : ¬ (firstL g use l w.spec f v).1 = f ∧ p = 1
      · rw [if_pos h2]
        exact ⟨[], [], by simp, by simp, fun x hx => by cases hx⟩
      · rw [if_neg h2] at h ⊢
        by_cases h3 : ¬ (firstL g use l w.spec f v).1 = f ∧ deepI p d ≤ kp.length
        · rw [if_pos h3] at h ⊢
          obtain ⟨B, K, e1, e2, e3⟩ := pick_grow ws l bg kp h
          exact ⟨B, K, e1, e2, up e3⟩
        · rw [if_neg h3] at h ⊢
          by_cases h4 : (addL l (wantH g use l w f v)).2 = 0
          · rw [if_pos h4] at h ⊢
            by_cases h5 : (firstL g use l w.spec f v).1 = f
            · rw [if_pos h5] at h ⊢
              obtain ⟨B, K, e1, e2, e3⟩ := pick_grow ws _ _ kp h
              refine ⟨wantH g use l w f v :: B, K, by rw [e1]; simp, e2, fun x hx => ?_⟩
              rcases List.mem_cons.1 hx with rfl | hx
              · exact ⟨w, List.mem_cons_self, rfl⟩
              · exact up e3 x hx
            · rw [if_neg h5] at h ⊢
              obtain ⟨B, K, e1, e2, e3⟩ := pick_grow ws _ bg _ h
              exact ⟨B, wantH g use l w f v :: K, e1, by rw [e2]; simp, up e3⟩
          · rw [if_neg h4] at h
            exact absurd h h4
    · rw [if_neg h1] at h ⊢
      obtain ⟨B, K, e1, e2, e3⟩ := pick_grow ws l bg kp h
      exact ⟨B, K, e1, e2, up e3⟩
theorem pickTo_now {l bg kp : List Held} {w : Want} {ws : List Want} (h1 : (firstL g use l w.spec f v).2.2 = true) (h2 : (firstL g use l w.spec f v).1 = f) : pickTo g use f v p d l bg kp (w :: ws) =
    if (addL l (wantH g use l w f v)).2 = 0 then pickTo g use f v p d (addL l (wantH g use l w f v)).1 (bg ++ [wantH g use l w f v]) kp ws else ([], [], (addL l (wantH g use l w f v)).2) := by
  rw [pickTo_cons, if_pos h1, if_neg (fun hc => hc.1 h2), if_neg (fun hc => hc.1 h2)]
  simp only [if_pos h2]
/-- Policy 1 beside another. -/
theorem pick_one (hp : ¬ p = 1) : ∀ (ws : List Want) (l bg : List Held), (¬ (pickTo g use f v 1 0 l bg [] ws).2.2 = 0 → (pickTo g use f v p d l bg [] ws).2.2 = (pickTo g use f v 1 0 l bg [] ws).2.2) ∧
    ((pickTo g use f v 1 0 l bg [] ws).2.2 = 0 → (pickTo g use f v p d l bg [] ws).2.2 = 0 → ∃ B, (pickTo g use f v p d l bg [] ws).1 = (pickTo g use f v 1 0 l bg [] ws).1 ++ B)
  | [], l, bg => by
    rw [pickTo_nil, pickTo_nil]
    exact ⟨fun h => absurd rfl h, fun _ _ => ⟨[], by simp⟩⟩
  | w :: ws, l, bg => by
    by_cases h1 : (firstL g use l w.spec f v).2.2 = true
    · by_cases h2 : (firstL g use l w.spec f v).1 = f
      · rw [pickTo_now h1 h2, pickTo_now h1 h2]
        by_cases h4 : (addL l (wantH g use l w f v)).2 = 0
        · simp only [if_pos h4]
          exact pick_one hp ws _ _
        · simp only [if_neg h4]
          exact ⟨fun _ => by simp, fun h => absurd h h4⟩
      · have e : pickTo g use f v 1 0 l bg [] (w :: ws) = (bg, [], 0) := by rw [pickTo_cons, if_pos h1, if_pos ⟨h2, rfl⟩]
        rw [e]
        refine ⟨fun h => absurd rfl h, fun _ h => ?_⟩
        obtain ⟨B, K, e1, _⟩ := pick_grow (w :: ws) l bg [] h
        exact ⟨B, e1⟩
    · rw [pickTo_cons, if_neg h1, pickTo_cons, if_neg h1]
      exact pick_one hp ws l bg
/-- The replay of policy 1. -/
def replayI (g : List Thing) (use : List Int) (f v : Int) (bg : List Held) (ws : List Want) (n : Nat) (stopped : Bool) (table : List Held) : Prop :=
  (stopped = false ∧ n ≤ bg.length ∧ (pickTo g use f v 1 0 table (bg.take n) [] ws).1 = bg ∧ (pickTo g use f v 1 0 table (bg.take n) [] ws).2.2 = 0) ∨ n = bg.length
theorem replay_step {bg : List Held} {w : Want} {ws : List Want} {n : Nat} {stopped : Bool} {table : List Held} (hid : ∀ u ∈ ws, u.id ≠ w.id) (h : replayI g use f v bg (w :: ws) n stopped table) :
    ((hn : n < bg.length) → bg[n].id = w.id → stopped = false ∧ replayI g use f v bg ws (n + 1) false (addL table bg[n]).1) ∧
    (((hn : n < bg.length) → bg[n].id ≠ w.id) → replayI g use f v bg ws n (if (firstL g use table w.spec f v).2.2 = true then true else stopped) table) := by
  rcases h with ⟨h1, h2, h3, h4⟩ | h
  case inr => exact ⟨fun hn => by omega, fun _ => .inr h⟩
  subst h1
  rw [pickTo_cons] at h3 h4
  by_cases c1 : (firstL g use table w.spec f v).2.2 = true
  · rw [if_pos c1] at h3 h4
    rw [if_pos c1]
    by_cases c2 : (firstL g use table w.spec f v).1 = f
    · rw [if_neg (fun hc => hc.1 c2), if_neg (fun hc => hc.1 c2)] at h3 h4
      by_cases c3 : (addL table (wantH g use table w f v)).2 = 0
      · rw [if_pos c3, if_pos c2] at h3 h4
        obtain ⟨B, K, e1, _, _⟩ := pick_grow ws _ _ _ h4
        rw [h3] at e1
        have hlen : n < bg.length := by
          have := congrArg List.length e1
          simp only [List.length_append, List.length_take, List.length_cons, List.length_nil] at this
          omega
        have hget : bg[n]? = some (wantH g use table w f v) := by
          rw [e1, List.append_assoc, List.getElem?_append_right (by rw [List.length_take]; omega), List.length_take]
          have : n - min n bg.length = 0 := by omega
          rw [this]; rfl
        have hg : bg[n] = wantH g use table w f v := (List.getElem?_eq_some_iff.1 hget).2
        refine ⟨fun _ _ => ⟨rfl, .inl ⟨rfl, hlen, ?_⟩⟩, fun hc => (hc hlen (by rw [hg]; rfl)).elim⟩
        rw [List.take_succ_eq_append_getElem hlen, hg]
        exact ⟨h3, h4⟩
      · rw [if_neg c3] at h4
        exact absurd h4 c3
    · rw [if_pos ⟨c2, rfl⟩] at h3
      have hl := congrArg List.length h3
      simp only [List.length_take] at hl
      exact ⟨fun hn => by omega, fun _ => .inr (by omega)⟩
  · rw [if_neg c1] at h3 h4
    rw [if_neg c1]
    refine ⟨fun hn he => ?_, fun _ => .inl ⟨rfl, h2, h3, h4⟩⟩
    obtain ⟨B, K, e1, _, e3⟩ := pick_grow ws _ _ _ h4
    rw [h3] at e1
    have hm : bg[n] ∈ B := by
      have hget : bg[n]? = some bg[n] := List.getElem?_eq_getElem hn
      have : bg[n]? = B[0]? := by
        conv => lhs; rw [e1]
        rw [List.getElem?_append_right (by rw [List.length_take]; omega), List.length_take]
        have : n - min n bg.length = 0 := by omega
        rw [this]
      rw [hget] at this
      exact List.mem_of_getElem? this.symm
    obtain ⟨u, hu, e⟩ := e3 _ hm
    exact (hid u hu (e.trans he)).elim
theorem replay_end {bg : List Held} {n : Nat} {stopped : Bool} {table : List Held} (h : replayI g use f v bg [] n stopped table) : n = bg.length := by
  rcases h with ⟨_, h2, h3, _⟩ | h
  · rw [pickTo_nil] at h3
    have hl := congrArg List.length h3
    simp only [List.length_take] at hl
    omega
  · exact h
/-- What was picked: with the table it makes one right table. -/
theorem add_perm {l : List Held} {h : Held} (hk : (addL l h).2 = 0) : (addL l h).1.Perm (h :: l) := by
  rw [add_res hk]
  unfold insH
  have h1 : (l.take (lowAt l h.id) ++ h :: l.drop (lowAt l h.id)).Perm (h :: (l.take (lowAt l h.id) ++ l.drop (lowAt l h.id))) := List.perm_middle
  rw [List.take_append_drop] at h1
  simpa using h1
theorem pick_tab (all : List Want) (l0 : List Held) : ∀ (ws : List Want) (l bg kp : List Held), (∀ w ∈ ws, w ∈ all) → isTab l = true → l.Perm (l0 ++ (bg ++ kp)) → (∀ x ∈ bg, planned use all f v x ∧ x.fr = f) → (∀ x ∈ kp, planned use all f v x ∧ ¬ x.fr = f) → (kp.length : Int) ≤ deepI p d →
    (pickTo g use f v p d l bg kp ws).2.2 = 0 → ∃ T, isTab T = true ∧ T.Perm (l0 ++ ((pickTo g use f v p d l bg kp ws).1 ++ (pickTo g use f v p d l bg kp ws).2.1)) ∧ (∀ x ∈ (pickTo g use f v p d l bg kp ws).1, planned use all f v x ∧ x.fr = f) ∧
      (∀ x ∈ (pickTo g use f v p d l bg kp ws).2.1, planned use all f v x ∧ ¬ x.fr = f) ∧ ((pickTo g use f v p d l bg kp ws).2.1.length : Int) ≤ deepI p d
  | [], l, bg, kp, _, h1, h2, h3, h4, h5, h => by
    rw [pickTo_nil]
    exact ⟨l, h1, h2, h3, h4, h5⟩
  | w :: ws, l, bg, kp, hw, h1, h2, h3, h4, h5, h => by
    have hws : ∀ w ∈ ws, w ∈ all := fun x hx => hw x (List.mem_cons_of_mem _ hx)
    rw [pickTo_cons] at h ⊢
    by_cases c1 : (firstL g use l w.spec f v).2.2 = true
    · rw [if_pos c1] at h ⊢
      have hff := first_facts c1
      have hnew : planned use all f v (wantH g use l w f v) := ⟨⟨w, hw w List.mem_cons_self, rfl, rfl⟩, hff.2.2.1, hff.2.1, hff.1⟩
      by_cases c2 : ¬ (firstL g use l w.spec f v).1 = f ∧ p = 1
      · rw [if_pos c2]
        exact ⟨l, h1, h2, h3, h4, h5⟩
      · rw [if_neg c2] at h ⊢
        by_cases c3 : ¬ (firstL g use l w.spec f v).1 = f ∧ deepI p d ≤ kp.length
        · rw [if_pos c3] at h ⊢
          exact pick_tab all l0 ws l bg kp hws h1 h2 h3 h4 h5 h
        · rw [if_neg c3] at h ⊢
          by_cases c4 : (addL l (wantH g use l w f v)).2 = 0
          · rw [if_pos c4] at h ⊢
            have hp1 : (addL l (wantH g use l w f v)).1.Perm (wantH g use l w f v :: (l0 ++ (bg ++ kp))) := (add_perm c4).trans (List.Perm.cons _ h2)
            by_cases c5 : (firstL g use l w.spec f v).1 = f
            · rw [if_pos c5] at h ⊢
              refine pick_tab all l0 ws _ _ kp hws (add_tab c4) (hp1.trans ?_) (fun x hx => ?_) h4 h5 h
              · have : (l0 ++ (bg ++ [wantH g use l w f v] ++ kp)) = (l0 ++ bg) ++ wantH g use l w f v :: kp := by simp
                rw [this]
                have h9 : (l0 ++ (bg ++ kp)) = (l0 ++ bg) ++ kp := by simp
                rw [h9]
                exact List.perm_middle.symm
              · rcases List.mem_append.1 hx with hx | hx
                · exact h3 x hx
                · rw [List.mem_singleton.1 hx]; exact ⟨hnew, c5⟩
            · rw [if_neg c5] at h ⊢
              refine pick_tab all l0 ws _ bg _ hws (add_tab c4) (hp1.trans ?_) h3 (fun x hx => ?_) ?_ h
              · have : (l0 ++ (bg ++ (kp ++ [wantH g use l w f v]))) = (l0 ++ (bg ++ kp)) ++ wantH g use l w f v :: [] := by simp
                rw [this]
                exact (List.perm_middle.trans (by simp)).symm
              · rcases List.mem_append.1 hx with hx | hx
                · exact h4 x hx
                · rw [List.mem_singleton.1 hx]; exact ⟨hnew, c5⟩
              · rw [List.length_append, List.length_singleton]
                have : ¬ deepI p d ≤ kp.length := fun hc => c3 ⟨c5, hc⟩
                omega
          · rw [if_neg c4] at h
            exact absurd h c4
    · rw [if_neg c1] at h ⊢
      exact pick_tab all l0 ws l bg kp hws h1 h2 h3 h4 h5 h
end
/-! ### All of them added -/
def allL (l xs : List Held) : List Held := xs.foldl (fun l x => (addL l x).1) l
theorem allL_snoc (l xs : List Held) (x : Held) : allL l (xs ++ [x]) = (addL (allL l xs) x).1 := by unfold allL; rw [List.foldl_append]; rfl
theorem allL_cons (l xs : List Held) (x : Held) : allL l (x :: xs) = allL (addL l x).1 xs := rfl
theorem all_ok {T : List Held} (hT : isTab T = true) : ∀ (xs l : List Held), isTab l = true → (∀ x ∈ l, x ∈ T) → (∀ x ∈ xs, x ∈ T) → (l ++ xs).Nodup → isTab (allL l xs) = true ∧ (allL l xs).Perm (l ++ xs)
  | [], l, h1, h2, h3, h4 => ⟨h1, by simp [allL]⟩
  | x :: xs, l, h1, h2, h3, h4 => by
    rw [allL_cons]
    have hperm : (l ++ x :: xs).Perm (x :: (l ++ xs)) := List.perm_middle
    have hnd := List.nodup_cons.1 (hperm.nodup_iff.1 h4)
    have hx : x ∉ l := fun hm => hnd.1 (List.mem_append_left _ hm)
    have hk := sub_add hT h1 h2 (h3 x List.mem_cons_self) hx
    have hp := add_perm hk
    have hp2 : ((addL l x).1 ++ xs).Perm (x :: (l ++ xs)) := by
      have := hp.append_right xs
      simpa using this
    obtain ⟨k1, k2⟩ := all_ok hT xs (addL l x).1 (add_tab hk) (fun y hy => by
      rcases (add_mem hk).1 hy with hy | rfl
      · exact h2 y hy
      · exact h3 _ List.mem_cons_self) (fun y hy => h3 y (List.mem_cons_of_mem _ hy)) (hp2.nodup_iff.2 (hperm.nodup_iff.1 h4))
    exact ⟨k1, k2.trans (hp2.trans hperm.symm)⟩
theorem tab_nodup {l : List Held} (h : isTab l = true) : l.Nodup := (tab_sorted h).imp (fun hab e => by subst e; omega)
theorem tab_pair {T : List Held} (hT : isTab T = true) {a b : Held} (ha : a ∈ T) (hb : b ∈ T) (hab : a ≠ b) : a.id ≠ b.id ∧ clashB a b = false := by
  have hp := (isTab_iff.1 hT)
  obtain ⟨i, hi⟩ := List.getElem?_of_mem ha
  obtain ⟨j, hj⟩ := List.getElem?_of_mem hb
  obtain ⟨h1, e1⟩ := List.getElem?_eq_some_iff.1 hi
  obtain ⟨h2, e2⟩ := List.getElem?_eq_some_iff.1 hj
  have hij : i ≠ j := fun e => hab (by subst e; rw [← e1, e2])
  rcases Nat.lt_or_gt_of_ne hij with q | q
  · have := List.pairwise_iff_getElem.1 hp.2.2 i j h1 h2 q
    rw [e1, e2] at this
    exact ⟨by have := this.1; omega, this.2⟩
  · have := List.pairwise_iff_getElem.1 hp.2.2 j i h2 h1 q
    rw [e1, e2] at this
    exact ⟨by have := this.1; omega, by rw [clash_comm]; exact this.2⟩
/-- A holding of a right table is apart from what the rest of it holds in its span. -/
theorem tab_apart {T l : List Held} (hT : isTab T = true) (hl : isTab l = true) (hs : ∀ x ∈ l, x ∈ T) {h : Held} (hh : h ∈ T) (hn : h ∉ l) : apartB h.things (busyL l h.fr h.to) = true := by
  rw [apart_comm, clash_busy hl (tab_may hT hh)]
  cases hc : anyClash l h with
  | false => rfl
  | true =>
    obtain ⟨x, hx, e⟩ := anyClash_iff.1 hc
    rw [(tab_pair hT (hs x hx) hh (fun e => hn (e ▸ hx))).2] at e; cases e
/-! ### For the walks -/
def idsTo (ws : List Want) (j : Nat) : Prop := ∀ b < j, ∀ a < b, ∀ x y, ws[a]? = some x → ws[b]? = some y → x.id ≠ y.id
theorem ids_zero (ws : List Want) : idsTo ws 0 := fun b hb => by omega
theorem ids_succ {ws : List Want} {j : Nat} {w : Want} (hw : ws[j]? = some w) (h : idsTo ws j) (hn : ∀ u ∈ ws.take j, u.id ≠ w.id) : idsTo ws (j + 1) := fun b hb a ha x y hx hy => by
  by_cases hbj : b = j
  · subst hbj
    rw [hw] at hy
    cases hy
    exact hn x (List.mem_of_getElem? (i := a) (by rw [List.getElem?_take_of_lt ha]; exact hx))
  · exact h b (by omega) a ha x y hx hy
theorem ids_later {ws : List Want} {i : Nat} {w : Want} (hw : ws[i]? = some w) (h : idsTo ws ws.length) : ∀ u ∈ ws.drop (i + 1), u.id ≠ w.id := fun u hu => by
  obtain ⟨k, hk⟩ := List.getElem?_of_mem hu
  rw [List.getElem?_drop] at hk
  have hlt := (List.getElem?_eq_some_iff.1 hk).1
  exact fun e => h (i + 1 + k) hlt i (by omega) w u hw hk e.symm
section
variable {g : List Thing} {use : List Int} {l : List Held} {ws : List Want} {f v p d : Int}
theorem pick_ok (h : (pickL g use l ws f v p d).2.2 = 0) : pickOk l p d = true ∧ pickL g use l ws f v p d = pickTo g use f v p d l [] [] ws := by
  unfold pickL at h ⊢
  by_cases hk : pickOk l p d = true
  · rw [if_pos hk]; exact ⟨hk, rfl⟩
  · rw [if_neg hk] at h; cases h
theorem pickOk_iff : pickOk l p d = true ↔ 1 ≤ p ∧ p ≤ 3 ∧ 0 ≤ d ∧ d ≤ 64 ∧ isTab l = true := by
  unfold pickOk; simp only [Bool.and_eq_true, decide_eq_true_eq, and_assoc]
theorem deep_nn (h : pickOk l p d = true) : 0 ≤ deepI p d := by
  have := pickOk_iff.1 h
  unfold deepI; repeat' split
  all_goals omega
theorem pick_all (h : (pickL g use l ws f v p d).2.2 = 0) : ∃ T, isTab T = true ∧ T.Perm (l ++ ((pickL g use l ws f v p d).1 ++ (pickL g use l ws f v p d).2.1)) ∧ (∀ x ∈ (pickL g use l ws f v p d).1, planned use ws f v x ∧ x.fr = f) ∧
      (∀ x ∈ (pickL g use l ws f v p d).2.1, planned use ws f v x ∧ ¬ x.fr = f) ∧ ((pickL g use l ws f v p d).2.1.length : Int) ≤ deepI p d := by
  obtain ⟨h1, h2⟩ := pick_ok h
  rw [h2] at h ⊢
  exact pick_tab ws l ws l [] [] (fun _ h => h) (pickOk_iff.1 h1).2.2.2.2 (by simp) (fun x hx => by cases hx) (fun x hx => by cases hx) (by simpa using deep_nn h1) h
theorem pick_helds (h : (pickL g use l ws f v p d).2.2 = 0) : ∀ x ∈ (pickL g use l ws f v p d).1, x.things.length ≤ 140737488355 := fun x hx => by
  obtain ⟨T, h1, h2, _⟩ := pick_all h
  exact tab_helds h1 x (h2.mem_iff.2 (List.mem_append_right _ (List.mem_append_left _ hx)))
theorem pick_helds2 (h : (pickL g use l ws f v p d).2.2 = 0) : ∀ x ∈ (pickL g use l ws f v p d).2.1, x.things.length ≤ 140737488355 := fun x hx => by
  obtain ⟨T, h1, h2, _⟩ := pick_all h
  exact tab_helds h1 x (h2.mem_iff.2 (List.mem_append_right _ (List.mem_append_right _ hx)))
end
theorem pickTo_small (g : List Thing) (use : List Int) (f v p d : Int) : ∀ (ws : List Want) (l bg kp : List Held), (pickTo g use f v p d l bg kp ws).1.length ≤ bg.length + ws.length ∧ (pickTo g use f v p d l bg kp ws).2.1.length ≤ kp.length + ws.length
  | [], l, bg, kp => by rw [pickTo_nil]; simp
  | w :: ws, l, bg, kp => by
    rw [pickTo_cons]
    have h1 := pickTo_small g use f v p d ws l bg kp
    have h2 := pickTo_small g use f v p d ws (addL l (wantH g use l w f v)).1 (bg ++ [wantH g use l w f v]) kp
    have h3 := pickTo_small g use f v p d ws (addL l (wantH g use l w f v)).1 bg (kp ++ [wantH g use l w f v])
    simp only [List.length_append, List.length_cons, List.length_nil] at h1 h2 h3 ⊢
    split
    · split
      · simp only; omega
      · split
        · omega
        · split
          · split
            · omega
            · omega
          · simp only [List.length_nil]; omega
    · omega
theorem pick_small (g : List Thing) (use : List Int) (l : List Held) (ws : List Want) (f v p d : Int) : (pickL g use l ws f v p d).1.length ≤ ws.length ∧ (pickL g use l ws f v p d).2.1.length ≤ ws.length := by
  unfold pickL
  split
  · have := pickTo_small g use f v p d ws l [] []
    simpa using this
  · simp
theorem replay_start {g : List Thing} {use : List Int} {l : List Held} {ws : List Want} {f v : Int} (h : (pickL g use l ws f v 1 0).2.2 = 0) : replayI g use f v (pickL g use l ws f v 1 0).1 ws 0 false l := by
  obtain ⟨h1, h2⟩ := pick_ok h
  rw [h2] at h ⊢
  exact .inl ⟨rfl, by omega, by rw [List.take_zero], by rw [List.take_zero]; exact h⟩
theorem pick_first {g : List Thing} {use : List Int} {l : List Held} {ws : List Want} {f v p d : Int} (h1 : ¬ p = 1) (h2 : 1 ≤ p ∧ p ≤ 3) (h3 : 0 ≤ d) (h4 : d ≤ 64) : (¬ (pickL g use l ws f v 1 0).2.2 = 0 → (pickL g use l ws f v p d).2.2 = (pickL g use l ws f v 1 0).2.2) ∧
    ((pickL g use l ws f v 1 0).2.2 = 0 → (pickL g use l ws f v p d).2.2 = 0 → ∃ B, (pickL g use l ws f v p d).1 = (pickL g use l ws f v 1 0).1 ++ B) := by
  unfold pickL
  by_cases ht : isTab l = true
  · rw [if_pos (pickOk_iff.2 ⟨by omega, by omega, by omega, by omega, ht⟩), if_pos (pickOk_iff.2 ⟨h2.1, h2.2, h3, h4, ht⟩)]
    exact pick_one h1 ws l []
  · rw [if_neg (fun h => ht (pickOk_iff.1 h).2.2.2.2), if_neg (fun h => ht (pickOk_iff.1 h).2.2.2.2)]
    exact ⟨fun _ => rfl, fun h => by simp at h⟩
theorem pickTo_err (g : List Thing) (use : List Int) (f v p d : Int) : ∀ (ws : List Want) (l bg kp : List Held), ¬ (pickTo g use f v p d l bg kp ws).2.2 = 0 → (pickTo g use f v p d l bg kp ws).1 = [] ∧ (pickTo g use f v p d l bg kp ws).2.1 = []
  | [], l, bg, kp, h => by rw [pickTo_nil] at h; exact absurd rfl h
  | w :: ws, l, bg, kp, h => by
    rw [pickTo_cons] at h ⊢
    split
    · rename_i c1
      rw [if_pos c1] at h
      split
      · rename_i c2; rw [if_pos c2] at h; exact absurd rfl h
      · rename_i c2
        rw [if_neg c2] at h
        split
        · rename_i c3; rw [if_pos c3] at h; exact pickTo_err g use f v p d ws l bg kp h
        · rename_i c3
          rw [if_neg c3] at h
          split
          · rename_i c4
            rw [if_pos c4] at h
            split
            · rename_i c5; rw [if_pos c5] at h; exact pickTo_err g use f v p d ws _ _ _ h
            · rename_i c5; rw [if_neg c5] at h; exact pickTo_err g use f v p d ws _ _ _ h
          · exact ⟨rfl, rfl⟩
    · rename_i c1; rw [if_neg c1] at h; exact pickTo_err g use f v p d ws l bg kp h
theorem pick_err {g : List Thing} {use : List Int} {l : List Held} {ws : List Want} {f v p d : Int} (h : ¬ (pickL g use l ws f v p d).2.2 = 0) : (pickL g use l ws f v p d).1 = [] ∧ (pickL g use l ws f v p d).2.1 = [] := by
  unfold pickL at h ⊢
  split
  · rename_i c; rw [if_pos c] at h; exact pickTo_err g use f v p d ws l [] [] h
  · exact ⟨rfl, rfl⟩
theorem planned_from {use : List Int} {ws : List Want} {f v : Int} {x : Held} (h : planned use ws f v x) : x.to ≤ v ∧ f ≤ x.fr ∧ partB x.things use = true := ⟨h.2.2.1, h.2.2.2, h.2.1⟩
/-- All that the laws ask of a pick. -/
theorem pick_table {g : List Thing} {use : List Int} {l : List Held} {ws : List Want} {f v p d : Int} (h : (pickL g use l ws f v p d).2.2 = 0) :
    (Helds (allL l (pickL g use l ws f v p d).1) ∧ (allL l (pickL g use l ws f v p d).1).length = l.length + (pickL g use l ws f v p d).1.length ∧ (allL (allL l (pickL g use l ws f v p d).1) (pickL g use l ws f v p d).2.1).length = l.length + (pickL g use l ws f v p d).1.length + (pickL g use l ws f v p d).2.1.length) ∧
    (∀ x ∈ (pickL g use l ws f v p d).1, planned use ws f v x ∧ x.fr = f ∧ apartB x.things (busyL l f x.to) = true) ∧
    (∀ x ∈ (pickL g use l ws f v p d).2.1, planned use ws f v x ∧ f < x.fr ∧ apartB x.things (busyL (allL l (pickL g use l ws f v p d).1) x.fr x.to) = true) ∧
    (∀ (i j : Nat) (x y : Held), i ≠ j → (pickL g use l ws f v p d).2.1[i]? = some x → (pickL g use l ws f v p d).2.1[j]? = some y → x.fr < y.to → y.fr < x.to → apartB x.things y.things = true) ∧
    ((pickL g use l ws f v p d).2.1.length : Int) ≤ deepI p d := by
  have hl := (pickOk_iff.1 (pick_ok h).1).2.2.2.2
  obtain ⟨T, hT, hperm, hb, hk, hd⟩ := pick_all h
  generalize (pickL g use l ws f v p d).1 = bg at *
  generalize (pickL g use l ws f v p d).2.1 = kp at *
  have hnd : (l ++ (bg ++ kp)).Nodup := hperm.nodup_iff.1 (tab_nodup hT)
  have hin : ∀ x, x ∈ l ∨ x ∈ bg ∨ x ∈ kp → x ∈ T := fun x hx => hperm.mem_iff.2 (by simpa [List.mem_append] using hx)
  have hnd2 := List.nodup_append.1 hnd
  have hnd3 := List.nodup_append.1 hnd2.2.1
  obtain ⟨a1, a2⟩ := all_ok hT bg l hl (fun x hx => hin x (.inl hx)) (fun x hx => hin x (.inr (.inl hx))) (List.nodup_append.2 ⟨hnd2.1, hnd3.1, fun a ha b hb => hnd2.2.2 a ha b (List.mem_append_left _ hb)⟩)
  have a3 : ∀ x ∈ allL l bg, x ∈ T := fun x hx => by
    rcases List.mem_append.1 (a2.mem_iff.1 hx) with hx | hx
    · exact hin x (.inl hx)
    · exact hin x (.inr (.inl hx))
  have hnd4 : (allL l bg ++ kp).Nodup := by
    have : (allL l bg ++ kp).Perm (l ++ (bg ++ kp)) := by
      have := a2.append_right kp
      rwa [List.append_assoc] at this
    exact this.nodup_iff.2 hnd
  obtain ⟨b1, b2⟩ := all_ok hT kp (allL l bg) a1 a3 (fun x hx => hin x (.inr (.inr hx))) hnd4
  have len1 := a2.length_eq
  have len2 := b2.length_eq
  rw [List.length_append] at len1 len2
  refine ⟨⟨tab_helds a1, len1, by omega⟩, fun x hx => ?_, fun x hx => ?_, fun i j x y hij hx hy m1 m2 => ?_, hd⟩
  · have hxT := hin x (.inr (.inl hx))
    have := tab_apart hT hl (fun y hy => hin y (.inl hy)) hxT (fun hm => hnd2.2.2 x hm x (List.mem_append_left _ hx) rfl)
    rw [(hb x hx).2] at this
    exact ⟨(hb x hx).1, (hb x hx).2, this⟩
  · have hxT := hin x (.inr (.inr hx))
    refine ⟨(hk x hx).1, by have := planned_from (hk x hx).1; have := (hk x hx).2; omega, tab_apart hT a1 a3 hxT (fun hm => ?_)⟩
    exact (List.nodup_append.1 hnd4).2.2 x hm x hx rfl
  · have hxT := hin x (.inr (.inr (List.mem_of_getElem? hx)))
    have hyT := hin y (.inr (.inr (List.mem_of_getElem? hy)))
    have hne : x ≠ y := fun e => by
      subst e
      obtain ⟨h1, e1⟩ := List.getElem?_eq_some_iff.1 hx
      obtain ⟨h2, e2⟩ := List.getElem?_eq_some_iff.1 hy
      have hp := List.pairwise_iff_getElem.1 (List.nodup_iff_pairwise_ne.1 hnd3.2.1)
      rcases Nat.lt_or_gt_of_ne hij with q | q
      · exact hp i j h1 h2 q (e1.trans e2.symm)
      · exact hp j i h2 h1 q (e2.trans e1.symm)
    have hc := (tab_pair hT hxT hyT hne).2
    have hx1 := may_to (tab_may hT hxT)
    have hy1 := may_to (tab_may hT hyT)
    unfold clashB meetsB at hc
    have : decide (max x.fr y.fr < min x.to y.to) = true := by simp only [decide_eq_true_eq]; omega
    rw [this] at hc
    simpa using hc
def keepB (p d : Int) : Bool := decide (p = 2) || (decide (p = 3) && decide (0 < d))
/-- One job alone. -/
theorem pick_alone {g : List Thing} {use : List Int} {l : List Held} {w : Want} {f v p d : Int} (h2 : 1 ≤ p ∧ p ≤ 3) (h3 : 0 ≤ d) (h4 : d ≤ 64) (hl : l.length ≤ 30) :
    (isTab l = false → pickL g use l [w] f v p d = ([], [], 1)) ∧ (isTab l = true →
      ((firstL g use l w.spec f v).2.2 = false ∨ (¬ (firstL g use l w.spec f v).1 = f ∧ keepB p d = false) → pickL g use l [w] f v p d = ([], [], 0)) ∧
      ((firstL g use l w.spec f v).2.2 = true → ((firstL g use l w.spec f v).1 = f ∨ keepB p d = true) → ((getL l w.id).2 = true → pickL g use l [w] f v p d = ([], [], 7)) ∧
        ((getL l w.id).2 = false → ((firstL g use l w.spec f v).1 = f → pickL g use l [w] f v p d = ([wantH g use l w f v], [], 0)) ∧ (¬ (firstL g use l w.spec f v).1 = f → pickL g use l [w] f v p d = ([], [wantH g use l w f v], 0))))) := by
  have hdeep : keepB p d = true ↔ ¬ p = 1 ∧ 0 < deepI p d := by
    unfold keepB deepI
    simp only [Bool.or_eq_true, Bool.and_eq_true, decide_eq_true_eq]
    split
    · rename_i e; subst e; simp
    · split
      · rename_i e; subst e; simp
      · constructor
        · intro hc; omega
        · intro hc; omega
  refine ⟨fun ht => ?_, fun ht => ?_⟩
  · unfold pickL
    rw [if_neg (fun h => by rw [(pickOk_iff.1 h).2.2.2.2] at ht; cases ht)]
  · have e : pickL g use l [w] f v p d = pickTo g use f v p d l [] [] [w] := by
      unfold pickL
      rw [if_pos (pickOk_iff.2 ⟨h2.1, h2.2, h3, h4, ht⟩)]
    rw [e, pickTo_cons]
    simp only [pickTo_nil, List.nil_append, List.length_nil]
    refine ⟨fun hc => ?_, fun hok hc => ?_⟩
    · rcases hc with hc | ⟨hc, hk⟩
      · rw [if_neg (by rw [hc]; simp)]
      · by_cases hp : p = 1
        · split
          · rw [if_pos ⟨hc, hp⟩]
          · rfl
        · have hz : deepI p d ≤ ((0 : Nat) : Int) := by
            refine Int.not_lt.1 fun q => ?_
            rw [hdeep.2 ⟨hp, by omega⟩] at hk; cases hk
          split
          · rw [if_neg (fun q => hp q.2), if_pos ⟨hc, hz⟩]
          · rfl
    · rw [if_pos hok, if_neg ?_, if_neg ?_]
      rotate_left
      · rintro ⟨q1, q2⟩
        rcases hc with hc | hc
        · exact q1 hc
        · have := (hdeep.1 hc).2
          omega
      · rintro ⟨q1, q2⟩
        rcases hc with hc | hc
        · exact q1 hc
        · exact (hdeep.1 hc).1 q2
      have hff := (first_facts hok).2.2.2.2.2 w.id
      have hm : mayH (wantH g use l w f v) = true := hff.1
      have hcl : anyClash l (wantH g use l w f v) = false := hff.2
      have hg : (getL l w.id).2 = isAt l w.id := by
        unfold getL
        rw [ht]
        cases isAt l w.id <;> simp
      have hn : ¬ l.length = 256 := by omega
      refine ⟨fun hgt => ?_, fun hgf => ?_⟩
      · rw [hg] at hgt
        have : (addL l (wantH g use l w f v)).2 = 7 := by
          unfold addL
          have hi : isAt l (wantH g use l w f v).id = true := hgt
          simp only [ht, hm, hi]; simp
        rw [this]; simp
      · rw [hg] at hgf
        have : (addL l (wantH g use l w f v)).2 = 0 := add_ok.2 ⟨ht, hm, hgf, hn, hcl⟩
        rw [if_pos this]
        exact ⟨fun ht => by rw [if_pos ht], fun ht => by rw [if_neg ht]⟩
end Go.Proofs.YtinhfnbmgmociaaGreatDoor.Ab

namespace Go.Proofs.YtinhfnbmgmociaaGreatDoor.Ab
open Go.RowKit
set_option linter.unusedVariables false
set_option linter.unusedSimpArgs false

def aw14a : List Held := [⟨1, [2], 0, 5⟩, ⟨2, [2, 3], 5, 8⟩]
def aw14b : List Held := [⟨1, [2], 0, 5⟩, ⟨2, [2, 3], 5, 8⟩, ⟨3, [3], 1, 5⟩]
def aw14u : Spec := ⟨1, 1, 0, ⟨#[]⟩, false, 4, 0⟩
def aw14v : Spec := ⟨1, 1, 0, ⟨#[]⟩, false, 9, 0⟩
def aw14w : List Want := [⟨2, aw13s⟩, ⟨3, aw14u⟩, ⟨4, aw14v⟩]
theorem aw14_at : isTab aw14a = true := by kernel_rfl
theorem aw14_bt : isTab aw14b = true := by kernel_rfl
theorem aw14_ea : endsL aw14a 1 = [5, 8] := by
  have h1 : tosOf aw14a 1 = [5, 8] := by kernel_rfl
  have h := cmp_sort [5, 8]
  unfold endsL
  rw [if_pos aw14_at, h1]
  exact sorted_ext h.1 (by decide) (fun n => h.2 n)
theorem aw14_eb : endsL aw14b 1 = [5, 8] := by
  have h1 : tosOf aw14b 1 = [5, 8, 5] := by kernel_rfl
  have h := cmp_sort [5, 8, 5]
  unfold endsL
  rw [if_pos aw14_bt, h1]
  exact sorted_ext h.1 (by decide) (fun n => by rw [h.2 n]; simp; omega)
theorem aw14_k1 : firstOf (fun t => fitsL aw13g [0, 1, 2, 3] aw14a aw14u t 100) [1, 5, 8] = (1, [3], true) := by kernel_rfl
theorem aw14_k2 : firstOf (fun t => fitsL aw13g [0, 1, 2, 3] aw14b aw14v t 100) [1, 5, 8] = (8, [2], true) := by kernel_rfl
theorem aw14_1 : firstL aw13g [0, 1, 2, 3] aw14a aw14u 1 100 = (1, [3], true) := by
  unfold firstL
  rw [if_pos aw14_at, aw14_ea]
  exact aw14_k1
theorem aw14_2 : firstL aw13g [0, 1, 2, 3] aw14b aw14v 1 100 = (8, [2], true) := by
  unfold firstL
  rw [if_pos aw14_bt, aw14_eb]
  exact aw14_k2
theorem aw14_h1 : wantH aw13g [0, 1, 2, 3] aw13l ⟨2, aw13s⟩ 1 100 = ⟨2, [2, 3], 5, 8⟩ := by unfold wantH; simp only [aw13_1]; kernel_rfl
theorem aw14_h2 : wantH aw13g [0, 1, 2, 3] aw14a ⟨3, aw14u⟩ 1 100 = ⟨3, [3], 1, 5⟩ := by unfold wantH; simp only [aw14_1]; kernel_rfl
theorem aw14_a1 : addL aw13l ⟨2, [2, 3], 5, 8⟩ = (aw14a, 0) := by kernel_rfl
theorem aw14_a2 : addL aw14a ⟨3, [3], 1, 5⟩ = (aw14b, 0) := by kernel_rfl
theorem aw14_p2 : pickL aw13g [0, 1, 2, 3] aw13l aw14w 1 100 2 0 = ([⟨3, [3], 1, 5⟩], [⟨2, [2, 3], 5, 8⟩], 0) := by
  unfold pickL pickOk aw14w
  rw [aw13_t0]
  simp [pickTo_cons, pickTo_nil, aw13_1, aw14_h1, aw14_a1, aw14_1, aw14_h2, aw14_a2, aw14_2, deepI]
theorem aw14_p1 : pickL aw13g [0, 1, 2, 3] aw13l aw14w 1 100 1 0 = ([], [], 0) := by
  unfold pickL pickOk aw14w
  rw [aw13_t0]
  simp [pickTo_cons, pickTo_nil, aw13_1]
theorem aw14_ws : Wants aw14w := by intro w hw; simp [aw14w] at hw; rcases hw with rfl | rfl | rfl <;> decide
set_option maxHeartbeats 8000000 in
set_option maxRecDepth 100000 in
theorem awake14_c : ACalls Tryz.prog 11 [] (· = .one (.sv (bv true))) := by
  refine ACalls.of_bodyS (fun _ _ => Tryz.call11 _ _) Tryz.func11 rfl Tryz.ntmps11 (by simp) ?_
  refine Tr.ex ?_
  have f1 := pick_c aw13g [0, 1, 2, 3] aw13l aw14w 1 100 2 0 (by decide) aw13_t (by decide) (by decide) aw13_h (by decide) aw14_ws
  rw [aw14_p2] at f1
  have f2 := pick_c aw13g [0, 1, 2, 3] aw13l aw14w 1 100 1 0 (by decide) aw13_t (by decide) (by decide) aw13_h (by decide) aw14_ws
  rw [aw14_p1] at f2
  simp [go_sem]
  refine OpW.frz 15 (OpW.go ?_)
  simp [go_sem]
  refine OpW.frz 14 (OpW.go ?_)
  simp [go_sem]
  refine OpW.frz 17 (OpW.go ?_)
  simp [go_sem]
  refine OpW.frz 24 (OpW.go ?_)
  simp [go_sem]
  refine OpW.frz 27 (OpW.go ?_)
  simp [go_sem]
  refine OpW.fn false f1 rfl rfl (by simp [go_sem, aw13g, aw13l, aw14w, aw13s, aw14u, aw14v]) (fun h => by cases h) ?_
  rintro r rfl
  simp [go_sem]
  refine OpW.frz 36 (OpW.go ?_)
  simp [go_sem]
  refine OpW.fn false f2 rfl rfl (by simp [go_sem, aw13g, aw13l, aw14w, aw13s, aw14u, aw14v]) (fun h => by cases h) ?_
  rintro r rfl
  simp [go_sem]
end Go.Proofs.YtinhfnbmgmociaaGreatDoor.Ab
