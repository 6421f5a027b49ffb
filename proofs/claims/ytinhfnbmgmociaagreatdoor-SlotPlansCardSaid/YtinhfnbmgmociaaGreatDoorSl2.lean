/- when.near, Plus; spec.Ends; the reference's. Wants. slot.busy, fits, At, First. slot: small; what is always so at first. ref13: At, First. slot: the program's and the reference's, together. slot.copied, Plan. slot: small facts for the laws of plans. -/
import Derived.Test.YtinhfnbmgmociaaGreatDoorSl1
namespace Go.Proofs.YtinhfnbmgmociaaGreatDoor.Ab
open Go.RowKit
set_option linter.unusedVariables false
set_option linter.unusedSimpArgs false

def wantSV (w : Want) : SV := .agg (iv w.id :: specCells w.spec)
def wants (l : List Want) : SV := .lst (l.map wantSV)
attribute [go_sem] wantSV wants
theorem firstOf_at {f : Int → List Int × Bool} : ∀ {c : List Int} {i : Nat} {t : Int}, c[i]? = some t → (∀ x ∈ c.take i, (f x).2 = false) → (f t).2 = true → firstOf f c = (t, (f t).1, true)
  | [], i, t, h, _, _ => by simp at h
  | x :: c, 0, t, h, _, hf => by
    have e : x = t := by simpa using h
    subst e
    rw [firstOf_cons, if_pos hf]
  | x :: c, i + 1, t, h, hn, hf => by
    have hx : (f x).2 = false := hn x (by simp)
    rw [firstOf_cons, hx]
    simp only [Bool.false_eq_true, if_false]
    exact firstOf_at (i := i) (by simpa using h) (fun y hy => hn y (by rw [List.take_succ_cons]; exact List.mem_cons_of_mem _ hy)) hf
theorem at_nn {g : List Thing} {use : List Int} {l : List Held} {s : Spec} {t v : Int} (h : (atL g use l s t v).2 = true) : 0 ≤ t := by
  unfold atL at h
  split at h
  · exact (fits_ok.1 h).1.1
  · cases h
theorem near_c (t : Int) : ACalls Tryz.prog 68 [iv t] (· = .one (.sv (iv (nearI t)))) := by
  refine ACalls.of_bodyS (fun _ _ => Tryz.call68 _ _) Tryz.func68 rfl Tryz.ntmps68 (by simp) ?_
  refine Tr.ex ?_
  unfold nearI
  simp [go_sem]
  repeat' split
  all_goals omega
theorem nearI_rng (t : Int) : 0 ≤ nearI t ∧ nearI t ≤ 4611686018427387904 := by unfold nearI; omega
theorem Plus_c (t long : Int) : ACalls Tryz.prog 42 [iv t, iv long] (· = .one (.sv (iv (plusI t long)))) := by
  refine ACalls.of_bodyS (fun _ _ => Tryz.call42 _ _) Tryz.func42 rfl Tryz.ntmps42 (by simp) ?_
  refine Tr.ex ?_
  have h1 := nearI_rng t
  have h2 := nearI_rng long
  have hw : IntKind.i64.wrap (4611686018427387904 - nearI t) = 4611686018427387904 - nearI t := by rw [i64w] <;> omega
  have hw2 : IntKind.i64.wrap (nearI t + min (nearI long) (4611686018427387904 - nearI t)) = nearI t + min (nearI long) (4611686018427387904 - nearI t) := by rw [i64w] <;> omega
  unfold plusI
  simp [go_sem]
  refine OpW.fn true (near_c t) rfl rfl (by simp [go_sem]) (by rintro _ r rfl; simp [go_sem]) ?_
  rintro r rfl
  simp [go_sem]
  refine OpW.fn true (near_c long) rfl rfl (by simp [go_sem]) (by rintro _ r rfl; simp [go_sem]) ?_
  rintro r rfl
  simp [go_sem]
  refine OpW.fn true (near_c t) rfl rfl (by simp [go_sem]) (by rintro _ r rfl; simp [go_sem]) ?_
  rintro r rfl
  simp [go_sem, hw]
  have hm : (if 4611686018427387904 - nearI t < nearI long then 4611686018427387904 - nearI t else nearI long) = min (nearI long) (4611686018427387904 - nearI t) := by split <;> omega
  rw [hm, hw2]
theorem sEnds_c (s : Spec) (t : Int) (hs : s.tag.size ≤ 140737488351232) : ACalls Tryz.prog 22 [specSV s, iv t] (· = .one (.sv (iv (endsAt s t)))) := by
  refine ACalls.of_bodyS (fun _ _ => Tryz.call22 _ _) Tryz.func22 rfl Tryz.ntmps22 (by simp) ?_
  refine Tr.ex ?_
  unfold endsAt longOf
  simp [go_sem]
  refine OpW.fn true (sRight_c s hs) rfl rfl (by simp [go_sem]) (by rintro _ r rfl; simp [go_sem]) ?_
  rintro r rfl
  cases hq : isSpec s with
  | false =>
    simp [go_sem]
    refine OpW.fn true (Plus_c t 0) rfl rfl (by simp [go_sem]) (by rintro _ r rfl; simp [go_sem]) ?_
    rintro r rfl
    simp [go_sem]
  | true =>
    simp [go_sem]
    refine OpW.fn true (Plus_c t s.long) rfl rfl (by simp [go_sem]) (by rintro _ r rfl; simp [go_sem]) ?_
    rintro r rfl
    simp [go_sem]
theorem rNear_c (t : Int) : ACalls Tryz.prog 75 [iv t] (· = .one (.sv (.val (.int .u64 (nearI t))))) := by
  refine ACalls.of_bodyS (fun _ _ => Tryz.call75 _ _) Tryz.func75 rfl Tryz.ntmps75 (by simp) ?_
  refine Tr.ex ?_
  by_cases h1 : t < 0
  · have e : nearI t = 0 := by unfold nearI; omega
    rw [e]
    simp [go_sem, h1]
  · by_cases h2 : 4611686018427387904 < t
    · have e : nearI t = 4611686018427387904 := by unfold nearI; omega
      rw [e]
      simp [go_sem, h1, h2]
    · have e : nearI t = t := by unfold nearI; omega
      have hw : IntKind.u64.wrap t = t := u64w _ (by omega) (by omega)
      rw [e]
      simp [go_sem, h1, h2, hw]
theorem rPlus_c (t long : Int) : ACalls Tryz.prog 48 [iv t, iv long] (· = .one (.sv (iv (plusI t long)))) := by
  refine ACalls.of_bodyS (fun _ _ => Tryz.call48 _ _) Tryz.func48 rfl Tryz.ntmps48 (by simp) ?_
  refine Tr.ex ?_
  have h1 := nearI_rng t
  have h2 := nearI_rng long
  have hw : IntKind.u64.wrap (nearI t + nearI long) = nearI t + nearI long := u64w _ (by omega) (by omega)
  simp [go_sem]
  refine OpW.fn true (rNear_c t) rfl rfl (by simp [go_sem]) (by rintro _ r rfl; simp [go_sem]) ?_
  rintro r rfl
  simp [go_sem]
  refine OpW.fn true (rNear_c long) rfl rfl (by simp [go_sem]) (by rintro _ r rfl; simp [go_sem]) ?_
  rintro r rfl
  by_cases hc : 4611686018427387904 < nearI t + nearI long
  · have e : plusI t long = 4611686018427387904 := by unfold plusI; omega
    rw [e]
    have hw3 : IntKind.i64.wrap 4611686018427387904 = 4611686018427387904 := by rw [i64w] <;> omega
    simp [go_sem, hw, hc, hw3]
  · have e : plusI t long = nearI t + nearI long := by unfold plusI; omega
    rw [e]
    have hw3 : IntKind.i64.wrap (nearI t + nearI long) = nearI t + nearI long := by rw [i64w] <;> omega
    simp [go_sem, hw, hc, hw3]
theorem r7Ends_c (s : Spec) (t : Int) (hs : s.tag.size ≤ 140737488351232) : ACalls Tryz.prog 26 [specSV s, iv t] (· = .one (.sv (iv (endsAt s t)))) := by
  refine ACalls.of_bodyS (fun _ _ => Tryz.call26 _ _) Tryz.func26 rfl Tryz.ntmps26 (by simp) ?_
  refine Tr.ex ?_
  unfold endsAt longOf
  simp [go_sem]
  refine OpW.fn true (rSpec_c s hs) rfl rfl (by simp [go_sem]) (by rintro _ r rfl; simp [go_sem]) ?_
  rintro r rfl
  cases hq : isSpec s with
  | false =>
    simp [go_sem]
    refine OpW.fn true (rPlus_c t 0) rfl rfl (by simp [go_sem]) (by rintro _ r rfl; simp [go_sem]) ?_
    rintro r rfl
    simp [go_sem]
  | true =>
    simp [go_sem]
    refine OpW.fn true (rPlus_c t s.long) rfl rfl (by simp [go_sem]) (by rintro _ r rfl; simp [go_sem]) ?_
    rintro r rfl
    simp [go_sem]
end Go.Proofs.YtinhfnbmgmociaaGreatDoor.Ab

namespace Go.Proofs.YtinhfnbmgmociaaGreatDoor.Ab
open Go.RowKit
set_option linter.unusedVariables false
set_option linter.unusedSimpArgs false

set_option maxHeartbeats 4000000 in
set_option maxRecDepth 100000 in
theorem busy_c (l : List Held) (a b : Int) (hl : l.length ≤ 140737488355328) (hh : Helds l) : ACalls Tryz.prog 55 [helds l, iv a, iv b] (· = .one (.sv (ints (busyOf a b l)))) := by
  refine ACalls.of_bodyS (fun _ _ => Tryz.call55 _ _) Tryz.func55 rfl Tryz.ntmps55 (by simp) ?_
  refine Tr.ex ?_
  simp [go_sem]
  refine LoopW.of (fun i : Nat => ⟨29, [(1, .sv (iv a)), (2, .sv (iv b)), (6, .nil), (7, .sv (ints (busyOf a b (l.take i)))), (10, .sv (helds l)), (11, .sv (iv l.length)), (12, .sv (iv i))], []⟩)
    (fun i => i ≤ l.length) (fun i => l.length - i) 0 (by omega) (Ent.trans (Ent.nilS (d := 7) (by simp [go_sem])) (Ent.chk (by simp [go_sem, busyOf]))) ?_
  intro i hi
  by_cases hlt : i < l.length
  · have hlt' : (i : Int) < l.length := by omega
    have hw : IntKind.i64.wrap ((i : Int) + 1) = (i : Int) + 1 := by rw [i64w] <;> omega
    obtain ⟨h, hx⟩ : ∃ h, l[i]? = some h := ⟨_, List.getElem?_eq_getElem hlt⟩
    have hhl := hh h (List.mem_of_getElem? hx)
    have htk : l.take (i + 1) = l.take i ++ [h] := by rw [List.take_succ_eq_append_getElem hlt, gE hx]
    have hb := busyOf_snoc a b (l.take i) h
    have hbl := set_len (busyOf_set a b (l.take i))
    rw [← htk] at hb
    simp [go_sem, hlt, hlt', hx, gE hx]
    refine OpW.fn true (Meets_c h.fr h.to a b) rfl rfl (by simp [go_sem]) (by rintro _ r rfl; simp [go_sem]) ?_
    rintro r rfl
    cases hm : meetsB h.fr h.to a b with
    | true =>
      rw [hm, if_pos rfl] at hb
      simp [go_sem]
      refine OpW.fn false (Join_c (busyOf a b (l.take i)) h.things (by omega) (by omega)) rfl rfl (by simp [go_sem]) (fun h => by cases h) ?_
      rintro r rfl
      simp [go_sem]
      exact ⟨i + 1, by omega, by omega, Ent.chk (by simp [go_sem, hw, hb])⟩
    | false =>
      rw [hm, if_neg (by simp)] at hb
      simp [go_sem]
      exact ⟨i + 1, by omega, by omega, Ent.chk (by simp [go_sem, hw, hb])⟩
  · have hil : i = l.length := by omega
    subst hil
    simp [go_sem]
theorem busyOf_len (a b : Int) (l : List Held) : (busyOf a b l).length ≤ 256 := set_len (busyOf_set a b l)
set_option maxHeartbeats 4000000 in
set_option maxRecDepth 100000 in
theorem fits_c (g : List Thing) (use : List Int) (l : List Held) (s : Spec) (t v : Int) (hg : g.length ≤ 140737488355328) (ht : Things g) (hu : use.length ≤ 140737488355328) (hl : l.length ≤ 140737488355328) (hh : Helds l) (hs : s.tag.size ≤ 140737488351232) :
    ACalls Tryz.prog 30 [things g, ints use, helds l, specSV s, iv t, iv v] (· = .many [.sv (ints (fitsL g use l s t v).1), .sv (bv (fitsL g use l s t v).2)]) := by
  refine ACalls.of_bodyS (fun _ _ => Tryz.call30 _ _) Tryz.func30 rfl Tryz.ntmps30 (by simp) ?_
  refine Tr.ex ?_
  have hbl := busyOf_len t (endsAt s t) l
  have hfl := set_len (free_set use l t (endsAt s t))
  have fb := busy_c l t (endsAt s t) hl hh
  have fe := sEnds_c s t hs
  have fl : ACalls Tryz.prog 54 [ints use, ints (busyOf t (endsAt s t) l)] (· = .one (.sv (ints (freeAt use l t (endsAt s t))))) := Less_c use (busyOf t (endsAt s t) l) (by omega) (by omega)
  have ff := Find_c g (freeAt use l t (endsAt s t)) s hg ht (by omega) hs
  unfold fitsL
  generalize freeAt use l t (endsAt s t) = fr at *
  generalize endsAt s t = e at *
  simp [go_sem]
  refine OpW.fn true fe rfl rfl (by simp [go_sem]) (by rintro _ r rfl; simp [go_sem]) ?_
  rintro r rfl
  simp [go_sem]
  refine OpW.fn true (wRight_c t) rfl rfl (by simp [go_sem]) (by rintro _ r rfl; simp [go_sem]) ?_
  rintro r rfl
  cases hw : isWhen t with
  | false => simp [go_sem]
  | true =>
    by_cases h1 : t = 4611686018427387904
    · have e1 : (t == 4611686018427387904) = true := by simpa using h1
      simp [go_sem, e1, h1]
    · have e1 : (t == 4611686018427387904) = false := by simpa using h1
      by_cases h2 : e ≤ v
      · have h2' : ¬ v < e := by omega
        simp [go_sem, e1, h1, h2, h2']
        refine DrawW.rd rfl ?_
        simp [go_sem]
        refine OpD.call false fb rfl rfl (by simp [go_sem]) (fun h => by cases h) (by simp [go_sem]) (by simp [go_sem]) ?_
        simp [go_sem]
        refine OpD.call false fl rfl rfl (by simp [go_sem]) (fun h => by cases h) (by simp [go_sem]) (by simp [go_sem]) ?_
        simp [go_sem]
        refine OpD.call false ff rfl rfl (by simp [go_sem]) (fun h => by cases h) (by simp [go_sem]) (by simp [go_sem]) ?_
        simp [go_sem]
        show _ = true
        kernel_rfl
      · have h2' : v < e := by omega
        simp [go_sem, e1, h1, h2, h2']
theorem at_len (g : List Thing) (use : List Int) (l : List Held) (s : Spec) (t v : Int) : (atL g use l s t v).1.length ≤ 256 := by
  unfold atL; split
  · exact fits_len _ _ _ _ _ _
  · simp
set_option maxHeartbeats 8000000 in
set_option maxRecDepth 100000 in
theorem first_c (g : List Thing) (use : List Int) (l : List Held) (s : Spec) (f v : Int) (hg : g.length ≤ 140737488355328) (ht : Things g) (hu : use.length ≤ 140737488355328) (hl : l.length ≤ 140737488355328) (hh : Helds l) (hs : s.tag.size ≤ 140737488351232) :
    ACalls Tryz.prog 18 [things g, ints use, helds l, specSV s, iv f, iv v] (· = .many [.sv (iv (firstL g use l s f v).1), .sv (ints (firstL g use l s f v).2.1), .sv (bv (firstL g use l s f v).2.2)]) := by
  refine ACalls.of_bodyS (fun _ _ => Tryz.call18 _ _) Tryz.func18 rfl Tryz.ntmps18 (by simp) ?_
  refine Tr.ex ?_
  have hel := endsL_len (l := l) (f := f)
  unfold firstL
  simp [go_sem]
  refine OpW.fn true (heldRight_c l hl hh) rfl rfl (by simp [go_sem]) (by rintro _ r rfl; simp [go_sem]) ?_
  rintro r rfl
  cases hq : isTab l with
  | false => simp [go_sem]
  | true =>
    have fe := Ends_c l f hl hh
    simp [go_sem]
    refine OpW.fn false fe rfl rfl (by simp [go_sem]) (fun h => by cases h) ?_
    rintro r rfl
    generalize endsL l f = es at *
    simp [go_sem]
    refine ⟨by omega, ?_⟩
    have hcl : (f :: es).length = es.length + 1 := rfl
    refine LoopW.ent (Ent.freeze 27 (Ent.refl _)) ?_
    refine LoopW.of (fun i : Nat => ⟨47, [(0, .sv (things g)), (1, .sv (ints use)), (2, .sv (helds l)), (5, .sv (iv v)), (9, .box 9 0), (12, .sv (iv 0)), (13, .nil), (14, .sv (bv false)), (27, .sv (ints (f :: es))), (28, .sv (iv ((es.length : Int) + 1))), (29, .sv (iv i))], [(9, .box ((specCells s).map .sv))]⟩)
      (fun i => i ≤ es.length + 1 ∧ ∀ x ∈ (f :: es).take i, (fitsL g use l s x v).2 = false) (fun i => es.length + 1 - i) 0 ⟨by omega, by simp⟩ (Ent.chk (by simp [go_sem])) ?_
    rintro i ⟨hi, hno⟩
    by_cases hlt : i < es.length + 1
    · have hlt' : (i : Int) < (es.length : Int) + 1 := by omega
      have hw : IntKind.i64.wrap ((i : Int) + 1) = (i : Int) + 1 := by rw [i64w] <;> omega
      obtain ⟨t, hx⟩ : ∃ t, (f :: es)[i]? = some t := ⟨_, List.getElem?_eq_getElem (by rw [hcl]; exact hlt)⟩
      have htk : (f :: es).take (i + 1) = (f :: es).take i ++ [t] := by rw [List.take_succ_eq_append_getElem (by rw [hcl]; exact hlt), gE hx]
      have hat := firstOf_at (f := fun t => fitsL g use l s t v) hx hno
      have ff := fits_c g use l s t v hg ht hu hl hh hs
      generalize f :: es = c at *
      generalize hfr : fitsL g use l s t v = r at *
      simp [go_sem, hlt, hlt', hx, gE hx, hcl]
      refine OpW.fn false ff rfl rfl (by simp [go_sem]) (fun h => by cases h) ?_
      rintro r rfl
      cases hr : r.2 with
      | true =>
        rw [hat hr]
        simp [go_sem]
      | false =>
        simp [go_sem]
        refine ⟨i + 1, ⟨by omega, ?_⟩, by omega, Ent.chk (by simp [go_sem, hw])⟩
        intro x hx2
        rw [htk, List.mem_append] at hx2
        rcases hx2 with hx2 | hx2
        · exact hno x hx2
        · rw [List.mem_singleton.1 hx2, hfr]; exact hr
    · have hil : i = es.length + 1 := by omega
      subst hil
      rw [← hcl, List.take_length] at hno
      have e := firstOf_none (f := fun t => fitsL g use l s t v) (firstOf_no.2 hno)
      rw [e]
      simp [go_sem]
end Go.Proofs.YtinhfnbmgmociaaGreatDoor.Ab

namespace Go.Proofs.YtinhfnbmgmociaaGreatDoor.Ab
open Go.RowKit
set_option linter.unusedVariables false
set_option linter.unusedSimpArgs false

def smallB (g : List Thing) (use : List Int) (l : List Held) (k : Nat) : Bool := decide (g.length ≤ 40) && decide (use.length ≤ 60) && decide (l.length ≤ 12) && shortB l && decide (k ≤ 8)
theorem small_len {g : List Thing} {use : List Int} {l : List Held} {k : Nat} (h : smallB g use l k = true) : g.length ≤ 40 ∧ use.length ≤ 60 ∧ l.length ≤ 12 ∧ Helds l := by
  unfold smallB at h
  simp only [Bool.and_eq_true, decide_eq_true_eq] at h
  exact ⟨h.1.1.1.1, h.1.1.1.2, h.1.1.2, (short_len h.1.2).2⟩
theorem small_k {g : List Thing} {use : List Int} {l : List Held} {k : Nat} (h : smallB g use l k = true) : k ≤ 8 ∧ l.length ≤ 30 := by
  unfold smallB at h
  simp only [Bool.and_eq_true, decide_eq_true_eq] at h
  exact ⟨h.2, by have := h.1.1.2; omega⟩
theorem small_c (g : List Thing) (use : List Int) (l : List Held) (ws : List Want) (hg : g.length ≤ 140737488355328) (hu : use.length ≤ 140737488355328) (hl : l.length ≤ 140737488355328) (hw : ws.length ≤ 140737488355328) :
    ACalls Tryz.prog 6 [things g, ints use, helds l, wants ws] (· = .one (.sv (bv (smallB g use l ws.length)))) := by
  refine ACalls.of_bodyS (fun _ _ => Tryz.call6 _ _) Tryz.func6 rfl Tryz.ntmps6 (by simp) ?_
  refine Tr.ex ?_
  unfold smallB
  by_cases h1 : g.length ≤ 40
  case neg =>
    have h1' : ¬ (g.length : Int) ≤ 40 := by omega
    simp [go_sem, h1, h1']
  have h1' : (g.length : Int) ≤ 40 := by omega
  by_cases h2 : use.length ≤ 60
  case neg =>
    have h2' : ¬ (use.length : Int) ≤ 60 := by omega
    simp [go_sem, h1, h1', h2, h2']
  have h2' : (use.length : Int) ≤ 60 := by omega
  by_cases h3 : l.length ≤ 12
  case neg =>
    have h3' : ¬ (l.length : Int) ≤ 12 := by omega
    simp [go_sem, h1, h1', h2, h2', h3, h3']
  have h3' : (l.length : Int) ≤ 12 := by omega
  simp [go_sem, h1, h1', h2, h2', h3, h3']
  refine OpW.fn true (Short_c l hl) rfl rfl (by simp [go_sem]) (by rintro _ r rfl; simp [go_sem]) ?_
  rintro r rfl
  cases h4 : shortB l with
  | false => simp [go_sem]
  | true =>
    by_cases h5 : ws.length ≤ 8
    · have h5' : (ws.length : Int) ≤ 8 := by omega
      simp [go_sem, h5, h5']
    · have h5' : ¬ (ws.length : Int) ≤ 8 := by omega
      simp [go_sem, h5, h5']
theorem small14_c (g : List Thing) (use : List Int) (l : List Held) (ws : List Want) (hg : g.length ≤ 140737488355328) (hu : use.length ≤ 140737488355328) (hl : l.length ≤ 140737488355328) (hw : ws.length ≤ 140737488355328) :
    ACalls Tryz.prog 12 [things g, ints use, helds l, wants ws] (· = .one (.sv (bv (smallB g use l ws.length)))) := by
  refine ACalls.of_bodyS (fun _ _ => Tryz.call12 _ _) Tryz.func12 rfl Tryz.ntmps12 (by simp) ?_
  refine Tr.ex ?_
  unfold smallB
  by_cases h1 : g.length ≤ 40
  case neg =>
    have h1' : ¬ (g.length : Int) ≤ 40 := by omega
    simp [go_sem, h1, h1']
  have h1' : (g.length : Int) ≤ 40 := by omega
  by_cases h2 : use.length ≤ 60
  case neg =>
    have h2' : ¬ (use.length : Int) ≤ 60 := by omega
    simp [go_sem, h1, h1', h2, h2']
  have h2' : (use.length : Int) ≤ 60 := by omega
  by_cases h3 : l.length ≤ 12
  case neg =>
    have h3' : ¬ (l.length : Int) ≤ 12 := by omega
    simp [go_sem, h1, h1', h2, h2', h3, h3']
  have h3' : (l.length : Int) ≤ 12 := by omega
  simp [go_sem, h1, h1', h2, h2', h3, h3']
  refine OpW.fn true (Short_c l hl) rfl rfl (by simp [go_sem]) (by rintro _ r rfl; simp [go_sem]) ?_
  rintro r rfl
  cases h4 : shortB l with
  | false => simp [go_sem]
  | true =>
    by_cases h5 : ws.length ≤ 8
    · have h5' : (ws.length : Int) ≤ 8 := by omega
      simp [go_sem, h5, h5']
    · have h5' : ¬ (ws.length : Int) ≤ 8 := by omega
      simp [go_sem, h5, h5']
def aw13g : List Thing := [⟨0, -1, ⟨#[]⟩⟩, ⟨2, 0, ⟨#[]⟩⟩, ⟨3, 1, ⟨#[]⟩⟩, ⟨3, 1, ⟨#[]⟩⟩]
theorem aw13_t : Things aw13g := by
  intro t ht
  simp only [aw13g, List.mem_cons, List.not_mem_nil, or_false] at ht
  rcases ht with rfl | rfl | rfl | rfl <;> decide
def aw13l : List Held := [⟨1, [2], 0, 5⟩]
theorem aw13_h : Helds aw13l := by intro h hh; simp [aw13l] at hh; subst hh; decide
def aw13s : Spec := ⟨1, 2, 0, ⟨#[]⟩, false, 3, 0⟩
def aw13u : Spec := ⟨1, 1, 0, ⟨#[]⟩, false, 3, 0⟩
theorem aw13_e : endsL aw13l 1 = [5] := by
  have h0 : isTab aw13l = true := by kernel_rfl
  have h1 : tosOf aw13l 1 = [5] := by kernel_rfl
  have h := cmp_sort [5]
  unfold endsL
  rw [if_pos h0, h1]
  exact sorted_ext h.1 (by decide) (fun n => h.2 n)
theorem aw13_t0 : isTab aw13l = true := by kernel_rfl
theorem aw13_k1 : firstOf (fun t => fitsL aw13g [0, 1, 2, 3] aw13l aw13s t 100) [1, 5] = (5, [2, 3], true) := by kernel_rfl
theorem aw13_k2 : firstOf (fun t => fitsL aw13g [0, 1, 2, 3] aw13l aw13u t 100) [1, 5] = (1, [3], true) := by kernel_rfl
theorem aw13_1 : firstL aw13g [0, 1, 2, 3] aw13l aw13s 1 100 = (5, [2, 3], true) := by
  unfold firstL
  rw [if_pos aw13_t0, aw13_e]
  exact aw13_k1
theorem aw13_2 : firstL aw13g [0, 1, 2, 3] aw13l aw13u 1 100 = (1, [3], true) := by
  unfold firstL
  rw [if_pos aw13_t0, aw13_e]
  exact aw13_k2
set_option maxHeartbeats 8000000 in
set_option maxRecDepth 100000 in
theorem awake13_c : ACalls Tryz.prog 5 [] (· = .one (.sv (bv true))) := by
  refine ACalls.of_bodyS (fun _ _ => Tryz.call5 _ _) Tryz.func5 rfl Tryz.ntmps5 (by simp) ?_
  refine Tr.ex ?_
  have f1 := first_c aw13g [0, 1, 2, 3] aw13l aw13s 1 100 (by decide) aw13_t (by decide) (by decide) aw13_h (by decide)
  rw [aw13_1] at f1
  have f2 := first_c aw13g [0, 1, 2, 3] aw13l aw13u 1 100 (by decide) aw13_t (by decide) (by decide) aw13_h (by decide)
  rw [aw13_2] at f2
  simp [go_sem]
  refine OpW.frz 16 (OpW.go ?_)
  simp [go_sem]
  refine OpW.frz 14 (OpW.go ?_)
  simp [go_sem]
  refine OpW.frz 15 (OpW.go ?_)
  simp [go_sem]
  refine OpW.frz 18 (OpW.go ?_)
  simp [go_sem]
  refine OpW.fn false f1 rfl rfl (by simp [go_sem, aw13g, aw13l, aw13s]) (fun h => by cases h) ?_
  rintro r rfl
  simp [go_sem]
  refine OpW.fn false f2 rfl rfl (by simp [go_sem, aw13g, aw13l, aw13u]) (fun h => by cases h) ?_
  rintro r rfl
  simp [go_sem]
end Go.Proofs.YtinhfnbmgmociaaGreatDoor.Ab

namespace Go.Proofs.YtinhfnbmgmociaaGreatDoor.Ab
open Go.RowKit
set_option linter.unusedVariables false
set_option linter.unusedSimpArgs false

def hit (t e n : Int) (h : Held) : Bool := decide (h.fr < e) && decide (t < h.to) && hasB h.things n
theorem heldAt_hit (l : List Held) (t e n : Int) : heldAt l t e n = l.any (hit t e n) := rfl
def freeTo (use : List Int) (l : List Held) (t e : Int) : List Int := use.filter fun n => !l.any (hit t e n)
theorem freeTo_snoc (use : List Int) (l : List Held) (t e n : Int) : freeTo (use ++ [n]) l t e = if l.any (hit t e n) = true then freeTo use l t e else freeTo use l t e ++ [n] := by
  unfold freeTo
  rw [List.filter_append]
  cases h : l.any (hit t e n) <;> simp [h]
def anyTo (l : List Held) (t e n : Int) (k : Nat) : Bool := (l.take k).any (hit t e n)
theorem anyTo_zero (l : List Held) (t e n : Int) : anyTo l t e n 0 = false := rfl
theorem anyTo_all (l : List Held) (t e n : Int) : anyTo l t e n l.length = l.any (hit t e n) := by unfold anyTo; rw [List.take_length]
theorem anyTo_succ {l : List Held} {t e n : Int} {k : Nat} {h : Held} (hx : l[k]? = some h) : anyTo l t e n (k + 1) = (anyTo l t e n k || hit t e n h) := by
  unfold anyTo
  rw [List.take_succ_eq_append_getElem (List.getElem?_eq_some_iff.1 hx).1, gE hx, List.any_append]; simp
set_option maxHeartbeats 8000000 in
set_option maxRecDepth 100000 in
theorem r13At_c (g : List Thing) (use : List Int) (l : List Held) (s : Spec) (t v : Int) (hg : g.length ≤ 140737488355328) (ht : Things g) (hu : use.length ≤ 140737488355328) (hl : l.length ≤ 140737488355328) (hh : Helds l) (hs : s.tag.size ≤ 140737488351232) :
    ACalls Tryz.prog 45 [things g, ints use, helds l, specSV s, iv t, iv v] (· = .many [.sv (ints (atL g use l s t v).1), .sv (bv (atL g use l s t v).2)]) := by
  refine ACalls.of_bodyS (fun _ _ => Tryz.call45 _ _) Tryz.func45 rfl Tryz.ntmps45 (by simp) ?_
  refine Tr.ex ?_
  have hno : ¬ (atL g use l s t v).2 = true → atL g use l s t v = ([], false) := fun h => by
    unfold atL at h ⊢
    split
    · rename_i hq; rw [if_pos hq] at h
      have h2 : (fitsL g use l s t v).2 = false := by simpa using h
      exact Prod.ext (fits_off h2) h2
    · rfl
  by_cases c1 : t < 0
  · rw [hno (fun h => by unfold atL at h; split at h; exact absurd (fits_ok.1 h).1.1 (by omega); cases h)]
    simp [go_sem, c1]
  by_cases c2 : 4611686018427387904 ≤ t
  · rw [hno (fun h => by unfold atL at h; split at h; exact absurd (fits_ok.1 h).1.2 (by omega); cases h)]
    simp [go_sem, c1, c2]
  simp [go_sem, c1, c2]
  refine OpW.fn true (r10Right_c l hl hh) rfl rfl (by simp [go_sem]) (by rintro _ r rfl; simp [go_sem]) ?_
  rintro r rfl
  cases hq : isTab l with
  | false =>
    have e : atL g use l s t v = ([], false) := by unfold atL; rw [hq]; rfl
    rw [e]
    simp [go_sem]
  | true =>
    simp [go_sem]
    refine OpW.fn true (r1Right_c use hu) rfl rfl (by simp [go_sem]) (by rintro _ r rfl; simp [go_sem]) ?_
    rintro r rfl
    cases hus : isSet use with
    | false =>
      rw [hno (fun h => by unfold atL at h; rw [if_pos hq] at h; rw [fits_use h] at hus; cases hus)]
      simp [go_sem]
    | true =>
      have hul := set_len hus
      have hlt0 := tab_len hq
      simp [go_sem]
      refine OpW.fn true (r7Ends_c s t hs) rfl rfl (by simp [go_sem]) (by rintro _ r rfl; simp [go_sem]) ?_
      rintro r rfl
      by_cases c3 : v < endsAt s t
      · rw [hno (fun h => by unfold atL at h; rw [if_pos hq] at h; have := (fits_ok.1 h).2.1; omega)]
        simp [go_sem, c3]
      have hres : findL g (freeTo use l t (endsAt s t)) s = atL g use l s t v := by
        unfold atL
        rw [if_pos hq]
        unfold fitsL
        rw [if_pos ⟨by unfold isWhen; simp; omega, by omega, by omega⟩]
        cases hsp : isSpec s with
        | false => rw [find_bad hsp, find_bad hsp]
        | true =>
          have := free_ref hus hq (endsAt_gt hsp (by omega) (by omega) : t < endsAt s t)
          unfold freeTo
          rw [← this]; rfl
      have ff := rFind_c g (freeTo use l t (endsAt s t)) s hg ht (by have := List.length_filter_le (fun n => !l.any (hit t (endsAt s t) n)) use; unfold freeTo; omega) hs
      rw [hres] at ff
      generalize endsAt s t = e at *
      simp [go_sem, c3]
      refine LoopW.of (fun i : Nat => ⟨96, [(0, .sv (things g)), (1, .sv (ints use)), (2, .sv (helds l)), (4, .sv (iv t)), (9, .box 9 0), (12, .nil), (13, .sv (bv false)), (14, .sv (iv e)), (15, .own 15), (16, .sv (iv i))], [(9, .box ((specCells s).map .sv)), (15, .row 1 ((freeTo (use.take i) l t e).map iv))]⟩)
        (fun i => i ≤ use.length) (fun i => use.length - i) 0 (by omega) (Ent.thaw 15 15 1 (by simp [go_sem]) (by simp [go_sem]) (by decide) (Ent.chk (by simp [go_sem, freeTo]))) ?_
      intro i hi
      by_cases hlt : i < use.length
      · have hlt' : (i : Int) < use.length := by omega
        have hw : IntKind.i64.wrap ((i : Int) + 1) = (i : Int) + 1 := by rw [i64w] <;> omega
        obtain ⟨n, hn⟩ : ∃ x, use[i]? = some x := ⟨_, List.getElem?_eq_getElem hlt⟩
        have htk : use.take (i + 1) = use.take i ++ [n] := by rw [List.take_succ_eq_append_getElem hlt, gE hn]
        have hsn := freeTo_snoc (use.take i) l t e n
        rw [← htk] at hsn
        have hfl : (freeTo (use.take i) l t e).length ≤ 256 := by
          have h1 := List.length_filter_le (fun n => !l.any (hit t e n)) (use.take i)
          have h2 : (use.take i).length ≤ use.length := List.length_take_le' _ _
          unfold freeTo; omega
        generalize freeTo (use.take i) l t e = out at *
        simp [go_sem, hlt, hlt']
        refine LoopW.of (fun k : Nat => ⟨96, [(0, .sv (things g)), (1, .sv (ints use)), (2, .sv (helds l)), (4, .sv (iv t)), (9, .box 9 0), (12, .nil), (13, .sv (bv false)), (14, .sv (iv e)), (15, .own 15), (16, .sv (iv i)), (17, .sv (bv (anyTo l t e n k))), (18, .sv (iv k))], [(9, .box ((specCells s).map .sv)), (15, .row 1 (out.map iv))]⟩)
          (fun k => k ≤ l.length) (fun k => l.length - k) 0 (by omega) (Ent.chk (by simp [go_sem, anyTo_zero])) ?_
        intro k hk
        by_cases hlk : k < l.length
        · have hlk' : (k : Int) < l.length := by omega
          have hwk : IntKind.i64.wrap ((k : Int) + 1) = (k : Int) + 1 := by rw [i64w] <;> omega
          obtain ⟨h, hx⟩ : ∃ h, l[k]? = some h := ⟨_, List.getElem?_eq_getElem hlk⟩
          have hhl := hh h (List.mem_of_getElem? hx)
          have hany := anyTo_succ (t := t) (e := e) (n := n) hx
          have hhit : hit t e n h = (decide (h.fr < e) && decide (t < h.to) && hasB h.things n) := rfl
          simp [go_sem, hlk, hlk', hlt, hlt', hx, gE hx, hn, gE hn]
          refine DrawW.rd rfl ?_
          by_cases d1 : h.fr < e
          · by_cases d2 : t < h.to
            · simp [go_sem, hlk, hlk', hlt, hlt', hx, gE hx, hn, gE hn, d1, d2]
              refine OpD.call false (r1Has_c h.things n (by omega)) rfl rfl (by simp [go_sem]) (fun h => by cases h) (by simp [go_sem]) (by simp [go_sem]) ?_
              cases d3 : hasB h.things n with
              | true =>
                have hb : anyTo l t e n (k + 1) = true := by rw [hany, hhit, d3]; simp [d1, d2]
                simp [go_sem]
                refine ⟨by kernel_rfl, ?_⟩
                exact ⟨k + 1, by omega, by omega, Ent.chk (by simp [go_sem, hwk, hb])⟩
              | false =>
                have hb : anyTo l t e n (k + 1) = anyTo l t e n k := by rw [hany, hhit, d3]; simp
                simp [go_sem]
                refine ⟨by kernel_rfl, ?_⟩
                exact ⟨k + 1, by omega, by omega, Ent.chk (by simp [go_sem, hwk, hb])⟩
            · have hb : anyTo l t e n (k + 1) = anyTo l t e n k := by rw [hany, hhit]; simp [d2]
              simp [go_sem, hlk, hlk', hlt, hlt', hx, gE hx, hn, gE hn, d1, d2]
              refine ⟨by kernel_rfl, ?_⟩
              exact ⟨k + 1, by omega, by omega, Ent.chk (by simp [go_sem, hwk, hb])⟩
          · have hb : anyTo l t e n (k + 1) = anyTo l t e n k := by rw [hany, hhit]; simp [d1]
            simp [go_sem, hlk, hlk', hlt, hlt', hx, gE hx, hn, gE hn, d1]
            refine ⟨by kernel_rfl, ?_⟩
            exact ⟨k + 1, by omega, by omega, Ent.chk (by simp [go_sem, hwk, hb])⟩
        · have hkl : k = l.length := by omega
          subst hkl
          rw [anyTo_all]
          cases hb : l.any (hit t e n) with
          | true =>
            rw [hb, if_pos rfl] at hsn
            simp [go_sem]
            exact ⟨i + 1, by omega, by omega, Ent.chk (by simp [go_sem, hw, hsn])⟩
          | false =>
            rw [hb, if_neg (by simp)] at hsn
            simp [go_sem, hlt, hlt', hn, gE hn]
            exact ⟨by omega, i + 1, by omega, by omega, Ent.rename2 89 15 (by simp [go_sem]) (Ent.chk (by simp [go_sem, hw, hsn]))⟩
      · have hil : i = use.length := by omega
        subst hil
        rw [List.take_length]
        simp [go_sem]
        refine OpW.frz 15 ?_
        simp [go_sem]
        refine OpW.fn false ff rfl rfl (by simp [go_sem]) (fun h => by cases h) ?_
        rintro r rfl
        simp [go_sem]
/-- The times that the reference looks at. -/
def timesOf (l : List Held) (f : Int) : List Int := f :: l.map Held.to
def seenAt (l : List Held) (f : Int) (j : Nat) : List Int := ((timesOf l f).take j).filter fun t => decide (f ≤ t)
theorem seenAt_succ {l : List Held} {f : Int} {j : Nat} {t : Int} (ht : (timesOf l f)[j]? = some t) : seenAt l f (j + 1) = if f ≤ t then seenAt l f j ++ [t] else seenAt l f j := by
  unfold seenAt
  have hlt := (List.getElem?_eq_some_iff.1 ht).1
  rw [List.take_succ_eq_append_getElem hlt, gE ht, List.filter_append]
  by_cases h : f ≤ t
  · rw [if_pos h]; simp [h]
  · rw [if_neg h]; simp [h]
theorem times_len (l : List Held) (f : Int) : (timesOf l f).length = l.length + 1 := by unfold timesOf; simp
theorem seen_end {g : List Thing} {use : List Int} {l : List Held} {s : Spec} {f v best : Int} {got : List Int} (h : bestAt (fun t => atL g use l s t v) (seenAt l f (l.length + 1)) best got) : firstL g use l s f v = if best < 0 then (0, [], false) else (best, got, true) := by
  have hseen : seenAt l f (l.length + 1) = (timesOf l f).filter fun t => decide (f ≤ t) := by unfold seenAt; rw [List.take_of_length_le (by rw [times_len]; exact Nat.le_refl _)]
  unfold firstL
  by_cases ht : isTab l = true
  · rw [if_pos ht]
    have e : (fun t => atL g use l s t v) = fun t => fitsL g use l s t v := by funext t; unfold atL; rw [if_pos ht]
    rw [e] at h
    refine best_end h (cands_sorted ht f) fun t hf => ?_
    rw [hseen, List.mem_filter, cands_mem ht]
    unfold timesOf
    rw [List.mem_cons, List.mem_map]
    simp only [decide_eq_true_eq]
    constructor
    · rintro ⟨rfl | ⟨x, h1, h2⟩, h3⟩
      · exact .inl rfl
      · by_cases q : t = f
        · exact .inl q
        · exact .inr ⟨x, h1, h2, by omega⟩
    · rintro (rfl | ⟨x, h1, h2, h3⟩)
      · exact ⟨.inl rfl, Int.le_refl _⟩
      · exact ⟨.inr ⟨x, h1, h2⟩, by omega⟩
  · rw [if_neg ht]
    have hall : ∀ t, (atL g use l s t v).2 = false := fun t => by unfold atL; rw [if_neg ht]
    rcases h with ⟨h1, _⟩ | ⟨_, _, h3, _⟩
    · rw [if_pos (by omega)]
    · simp only [hall] at h3; cases h3
set_option maxHeartbeats 8000000 in
set_option maxRecDepth 100000 in
theorem r13First_c (g : List Thing) (use : List Int) (l : List Held) (s : Spec) (f v : Int) (hg : g.length ≤ 140737488355328) (ht : Things g) (hu : use.length ≤ 140737488355328) (hl : l.length ≤ 1000000000) (hh : Helds l) (hs : s.tag.size ≤ 140737488351232) :
    ACalls Tryz.prog 24 [things g, ints use, helds l, specSV s, iv f, iv v] (· = .many [.sv (iv (firstL g use l s f v).1), .sv (ints (firstL g use l s f v).2.1), .sv (bv (firstL g use l s f v).2.2)]) := by
  refine ACalls.of_bodyS (fun _ _ => Tryz.call24 _ _) Tryz.func24 rfl Tryz.ntmps24 (by simp) ?_
  refine Tr.ex ?_
  have hend := fun best got h => seen_end (g := g) (use := use) (l := l) (s := s) (f := f) (v := v) (best := best) (got := got) h
  generalize firstL g use l s f v = res at *
  simp [go_sem]
  refine LoopW.of (fun z : Nat × Int × List Int => ⟨64, [(0, .sv (things g)), (1, .sv (ints use)), (2, .sv (helds l)), (4, .sv (iv f)), (5, .sv (iv v)), (9, .box 9 0), (12, .sv (iv 0)), (13, .nil), (14, .sv (bv false)), (15, .sv (iv z.2.1)), (16, .sv (ints z.2.2)), (17, .sv (iv ((z.1 : Int) - 1)))], [(9, .box ((specCells s).map .sv))]⟩)
    (fun z => z.1 ≤ l.length + 1 ∧ bestAt (fun t => atL g use l s t v) (seenAt l f z.1) z.2.1 z.2.2) (fun z => l.length + 1 - z.1) (0, -1, []) ⟨by simp, .inl ⟨rfl, rfl, by simp [seenAt]⟩⟩ (Ent.trans (Ent.nilS (d := 16) (by simp [go_sem])) (Ent.chk (by simp [go_sem]))) ?_
  rintro ⟨j, best, got⟩ ⟨hj, hb⟩
  simp only at hj hb ⊢
  by_cases hlt : j < l.length + 1
  · have hlt' : (j : Int) - 1 < l.length := by omega
    have hw : IntKind.i64.wrap ((j : Int) - 1 + 1) = ((j + 1 : Nat) : Int) - 1 := by rw [i64w] <;> omega
    obtain ⟨t, htt⟩ : ∃ t, (timesOf l f)[j]? = some t := ⟨_, List.getElem?_eq_getElem (by rw [times_len]; exact hlt)⟩
    have hs1 := seenAt_succ htt
    have fa := r13At_c g use l s t v hg ht hu (by omega) hh hs
    cases j with
    | zero =>
      have et : f = t := by simpa [timesOf] using htt
      subst et
      rcases hb with ⟨rfl, rfl, hb0⟩ | ⟨_, hm, _⟩
      case inr => simp [seenAt] at hm
      rw [if_pos (Int.le_refl _)] at hs1
      have hw0 : IntKind.i64.wrap (-1 + 1) = 0 := by rw [i64w] <;> omega
      have hm1 : (-1 : Int) < l.length := by omega
      simp [go_sem, hm1]
      refine OpW.fn false fa rfl rfl (by simp [go_sem]) (fun h => by cases h) ?_
      rintro r rfl
      cases hf : (atL g use l s f v).2 with
      | true =>
        have hn := best_take (f := fun t => atL g use l s t v) (.inl ⟨rfl, rfl, hb0⟩) (at_nn hf) hf (by omega)
        simp [go_sem]
        refine ⟨1, f, (atL g use l s f v).1, ⟨by omega, by rw [hs1]; exact hn⟩, by omega, Ent.chk (by simp [go_sem])⟩
      | false =>
        have hn := best_skip (f := fun t => atL g use l s t v) (.inl ⟨rfl, rfl, hb0⟩) f (.inl hf)
        simp [go_sem]
        refine ⟨1, -1, [], ⟨by omega, by rw [hs1]; exact hn⟩, by omega, Ent.chk (by simp [go_sem])⟩
    | succ k =>
      have hlk : k < l.length := by omega
      have hlk' : (k : Int) < l.length := by omega
      have hwk : IntKind.i64.wrap ((k : Int) + 1) = (k : Int) + 1 := by rw [i64w] <;> omega
      obtain ⟨h, hx⟩ : ∃ h, l[k]? = some h := ⟨_, List.getElem?_eq_getElem hlk⟩
      have et : h.to = t := by
        have : (timesOf l f)[k + 1]? = some h.to := by unfold timesOf; rw [List.getElem?_cons_succ, List.getElem?_map, hx]; rfl
        rw [this] at htt; simpa using htt
      subst et
      have hk2 : (k : Int) + 2 - 1 = k + 1 := by omega
      have hk0 : (0 : Int) ≤ k := by omega
      have hnn : ¬ (k : Int) < 0 := by omega
      by_cases d1 : h.to < f
      · rw [if_neg (by omega)] at hs1
        simp [go_sem, hlk, hlk', hx, gE hx, d1]
        exact ⟨k + 2, best, got, ⟨by omega, by rw [hs1]; exact hb⟩, by omega, Ent.chk (by simp [go_sem, hwk, hk2])⟩
      · rw [if_pos (by omega)] at hs1
        by_cases d2 : 0 ≤ best
        · by_cases d3 : best ≤ h.to
          · have hn := best_skip hb h.to (.inr ⟨d2, d3⟩)
            simp [go_sem, hlk, hlk', hx, gE hx, d1, d2, d3]
            exact ⟨k + 2, best, got, ⟨by omega, by rw [hs1]; exact hn⟩, by omega, Ent.chk (by simp [go_sem, hwk, hk2])⟩
          · simp [go_sem, hlk, hlk', hx, gE hx, d1, d2, d3]
            refine OpW.fn false fa rfl rfl (by simp [go_sem]) (fun h => by cases h) ?_
            rintro r rfl
            cases hf : (atL g use l s h.to v).2 with
            | true =>
              have hn := best_take hb (at_nn hf) hf (by omega)
              simp [go_sem]
              exact ⟨k + 2, h.to, (atL g use l s h.to v).1, ⟨by omega, by rw [hs1]; exact hn⟩, by omega, Ent.chk (by simp [go_sem, hwk, hk2])⟩
            | false =>
              have hn := best_skip hb h.to (.inl hf)
              simp [go_sem]
              exact ⟨k + 2, best, got, ⟨by omega, by rw [hs1]; exact hn⟩, by omega, Ent.chk (by simp [go_sem, hwk, hk2])⟩
        · simp [go_sem, hlk, hlk', hx, gE hx, d1, d2]
          refine OpW.fn false fa rfl rfl (by simp [go_sem]) (fun h => by cases h) ?_
          rintro r rfl
          cases hf : (atL g use l s h.to v).2 with
          | true =>
            have hn := best_take hb (at_nn hf) hf (by omega)
            simp [go_sem]
            exact ⟨k + 2, h.to, (atL g use l s h.to v).1, ⟨by omega, by rw [hs1]; exact hn⟩, by omega, Ent.chk (by simp [go_sem, hwk, hk2])⟩
          | false =>
            have hn := best_skip hb h.to (.inl hf)
            simp [go_sem]
            exact ⟨k + 2, best, got, ⟨by omega, by rw [hs1]; exact hn⟩, by omega, Ent.chk (by simp [go_sem, hwk, hk2])⟩
  · have hil : j = l.length + 1 := by omega
    subst hil
    have he := hend best got hb
    rw [he]
    have hlt' : ¬ ((l.length + 1 : Nat) : Int) - 1 < l.length := by omega
    by_cases c : best < 0
    · simp [go_sem, hlt', c]
    · simp [go_sem, hlt', c]
end Go.Proofs.YtinhfnbmgmociaaGreatDoor.Ab



namespace Go.Proofs.YtinhfnbmgmociaaGreatDoor.Ab
open Go.RowKit
set_option linter.unusedVariables false
set_option linter.unusedSimpArgs false

theorem afill_agr {s st : St} {place : Nat → Option (Nat × Nat)} : ∀ (ps : List (Nat × Operand)) (xs : List SV), (∀ p ∈ ps, aval s p.2 = aval st p.2) → afill s place xs ps = afill st place xs ps
  | [], xs, _ => rfl
  | (i, x) :: rest, xs, h => by
    have e0 : aval s x = aval st x := h (i, x) List.mem_cons_self
    simp only [afill]
    rw [e0]
    cases place i with
    | none => rfl
    | some q => cases ((aval st x).bind AV.elem).bind acells with
      | none => rfl
      | some zs =>
        simp only
        split
        · exact afill_agr rest _ (fun p hp => h p (List.mem_cons_of_mem _ hp))
        · rfl
/-- A struct of shared parts, built in a region that draws. -/
theorem OpD.buildS {P : Program} {Q : Exit → St → Prop} {D : List Nat} {ops : Array Oper} {o : Oper} {l : List Oper} {fs : List Ft} {k : List Fr} {st : St} {ty : TypeId} {d : Nat} {ps : Array (Nat × Operand)} {xs : List SV} {pl : List (Nat × Nat)} {z : Value} (ho : o.op = .build ty ps) (hd : o.dst = some d) (hg : grd ops st o = some true) (hz : tzero P ty = some z) (hpl : splaces P ty = some pl) (hxs : afill st (fun i => pl[i]?) (z.cells.toList.map svC) ps.toList = some xs)
    (hn : d < st.n) (h : Ab.rd P Q D ops l (⟨usesT ops o, [], [], some (d, .sv (.agg xs)), [], none, false, []⟩ :: fs) k { st with t := up st.t d (.sv (.agg xs)) }) : OpD P Q D ops o l fs k st :=
  OpD.heavy (f := ⟨usesT ops o, [], [], some (d, .sv (.agg xs)), [], none, false, []⟩) ⟨⟨fun _ t x hw => (by cases hw), fun t cs hw => (by cases hw)⟩, fun s hs hT hM _ _ keep w E a hI N Q hN => by
    have hv := aval_agr (s := s) (st := st) (o := o) hT
    have hg' : grd ops s o = some true := by rw [grd_agr (st := st) hT]; exact hg
    rw [if_pos (grd_run hI hg')]
    have hops : ∀ p ∈ ps.toList, p.2 ∈ o.op.operands := fun p hp => by
      simp only [ho, Op.operands, List.mem_toArray]; exact List.mem_map.2 ⟨p, hp, rfl⟩
    have := does_build (P := P) (st := s) ho hz hpl (by rw [afill_agr _ _ (fun p hp => hv p.2 (hops p hp))]; exact hxs) (by rw [hd]; simp [St.fitsDst, hs, hn])
    rw [hd] at this
    exact this.wp hI hN⟩ h
def WantOk (w : Want) : Prop := (Lit.int .i64 w.id).wf = true ∧ SpecOk w.spec
theorem WantOk_mk {p : Int × Spec × Unit} (h : (Lit.int .i64 p.1).wf = true ∧ SpecOk p.2.1 ∧ True) : WantOk ⟨p.1, p.2.1⟩ := ⟨h.1, h.2.1⟩
def Wants (ws : List Want) : Prop := ∀ w ∈ ws, w.spec.tag.size ≤ 140737488351232
theorem wants_ok {ws : List Want} (h : ∀ w ∈ ws, WantOk w) : Wants ws := fun w hw => (h w hw).2.2.2.2.1
set_option maxHeartbeats 4000000 in
theorem slotCopied_c (l : List Held) (hl : l.length ≤ 1000000000) (hh : Helds l) : ACalls Tryz.prog 20 [helds l] (· = .one (.sv (helds l))) := by
  refine ACalls.of_bodyS (fun _ _ => Tryz.call20 _ _) Tryz.func20 rfl Tryz.ntmps20 (by simp) ?_
  refine Tr.ex ?_
  simp [go_sem]
  refine LoopW.of (fun i : Nat => ⟨22, [(2, .nil), (3, .own 3), (6, .sv (helds l)), (7, .sv (iv l.length)), (8, .sv (iv i))], [(3, .row 4 ((l.take i).map heldSV))]⟩)
    (fun i => i ≤ l.length) (fun i => l.length - i) 0 (by omega) (Ent.thaw 3 3 4 (by simp [go_sem]) (by simp [go_sem]) (by decide) (Ent.chk (by simp [go_sem]))) ?_
  intro i hi
  by_cases hlt : i < l.length
  · have hlt' : (i : Int) < l.length := by omega
    have hw : IntKind.i64.wrap ((i : Int) + 1) = (i : Int) + 1 := by rw [i64w] <;> omega
    obtain ⟨h, hx⟩ : ∃ h, l[i]? = some h := ⟨_, List.getElem?_eq_getElem hlt⟩
    have hhl := hh h (List.mem_of_getElem? hx)
    have htk : l.take (i + 1) = l.take i ++ [h] := by rw [List.take_succ_eq_append_getElem hlt, gE hx]
    have hmin : min i l.length = i := by omega
    have htk2 : (l.map heldSV).take (i + 1) = (l.map heldSV).take i ++ [heldSV h] := by rw [← List.map_take, ← List.map_take, htk, List.map_append]; rfl
    simp [go_sem, hlt, hlt', hx, gE hx]
    refine OpW.fn false (Clone_c h.things hhl) rfl rfl (by simp [go_sem]) (fun h => by cases h) ?_
    rintro r (⟨h0, rfl⟩ | rfl)
    · simp [go_sem, h0, hmin]
      exact ⟨by omega, i + 1, by omega, by omega, Ent.rename2 19 3 (by simp [go_sem]) (Ent.chk (by simp [go_sem, hw, htk2, h0]))⟩
    · simp [go_sem]
      refine OpW.frz 14 (OpW.go ?_)
      simp [go_sem, hmin]
      exact ⟨by omega, i + 1, by omega, by omega, Ent.rename2 19 3 (by simp [go_sem]) (Ent.chk (by simp [go_sem, hw, htk2]))⟩
  · have hil : i = l.length := by omega
    subst hil
    simp [go_sem]
theorem planTo_nil (g : List Thing) (use : List Int) (l : List Held) (f v : Int) (out : List Held) : planTo g use l f v out [] = (out, 0) := by unfold planTo; rfl
theorem planTo_cons (g : List Thing) (use : List Int) (l : List Held) (f v : Int) (out : List Held) (w : Want) (ws : List Want) : planTo g use l f v out (w :: ws) = if (firstL g use out w.spec f v).2.2 = true then
      (if (addL out (wantH g use out w f v)).2 = 0 then planTo g use l f v (addL out (wantH g use out w f v)).1 ws else (l, (addL out (wantH g use out w f v)).2))
    else planTo g use l f v out ws := by rw [planTo]
set_option maxHeartbeats 8000000 in
set_option maxRecDepth 100000 in
theorem plan_c (g : List Thing) (use : List Int) (l : List Held) (ws : List Want) (f v : Int) (hg : g.length ≤ 140737488355328) (ht : Things g) (hu : use.length ≤ 140737488355328) (hl : l.length ≤ 100000000) (hh : Helds l) (hwl : ws.length ≤ 100000000) (hws : Wants ws) :
    ACalls Tryz.prog 8 [things g, ints use, helds l, wants ws, iv f, iv v] (· = .many [.sv (helds (planL g use l ws f v).1), .sv (iv (planL g use l ws f v).2)]) := by
  refine ACalls.of_bodyS (fun _ _ => Tryz.call8 _ _) Tryz.func8 rfl Tryz.ntmps8 (by simp) ?_
  refine Tr.ex ?_
  have fcl := slotCopied_c l (by omega) hh
  unfold planL
  simp [go_sem]
  refine OpW.fn true (heldRight_c l (by omega) hh) rfl rfl (by simp [go_sem]) (by rintro _ r rfl; simp [go_sem]) ?_
  rintro r rfl
  cases hq : isTab l with
  | false =>
    simp [go_sem]
    refine OpW.fn false fcl rfl rfl (by simp [go_sem]) (fun h => by cases h) ?_
    rintro r rfl
    simp [go_sem]
  | true =>
    simp [go_sem]
    refine OpW.fn false fcl rfl rfl (by simp [go_sem]) (fun h => by cases h) ?_
    rintro r rfl
    simp [go_sem]
    refine LoopW.of (fun z : Nat × List Held => ⟨71, [(0, .sv (things g)), (1, .sv (ints use)), (2, .sv (helds l)), (4, .sv (iv f)), (5, .sv (iv v)), (12, .nil), (13, .sv (iv 0)), (14, .sv (helds z.2)), (29, .sv (wants ws)), (30, .sv (iv ws.length)), (31, .sv (iv z.1))], []⟩)
      (fun z => z.1 ≤ ws.length ∧ planTo g use l f v z.2 (ws.drop z.1) = planTo g use l f v l ws ∧ z.2.length ≤ l.length + z.1 ∧ Helds z.2) (fun z => ws.length - z.1) (0, l) ⟨by simp, by simp, by simp, hh⟩ (Ent.chk (by simp [go_sem])) ?_
    rintro ⟨i, out⟩ ⟨hi, hp, hol, hoh⟩
    simp only at hi hp hol hoh ⊢
    by_cases hlt : i < ws.length
    · have hlt' : (i : Int) < ws.length := by omega
      have hw : IntKind.i64.wrap ((i : Int) + 1) = (i : Int) + 1 := by rw [i64w] <;> omega
      obtain ⟨w, hx⟩ : ∃ w, ws[i]? = some w := ⟨_, List.getElem?_eq_getElem hlt⟩
      have hwt := hws w (List.mem_of_getElem? hx)
      have hdr : ws.drop i = w :: ws.drop (i + 1) := by rw [List.drop_eq_getElem_cons hlt, gE hx]
      rw [hdr, planTo_cons] at hp
      have ff := first_c g use out w.spec f v hg ht hu (by omega) hoh hwt
      have fe := sEnds_c w.spec (firstL g use out w.spec f v).1 hwt
      have fad := heldAdd_c out (wantH g use out w f v) (by omega) hoh (by have := first_len g use out w.spec f v; unfold wantH; simp only; omega)
      have hgood := add_good (h := wantH g use out w f v) hol hoh (by have := first_len g use out w.spec f v; unfold wantH; simp only; omega)
      have hal : ∀ (a : List Held × Int), a = addL out (wantH g use out w f v) → addL out (wantH g use out w f v) = a := fun _ h => h.symm
      generalize addL out (wantH g use out w f v) = a at *
      unfold wantH at fad
      generalize firstL g use out w.spec f v = r at *
      obtain ⟨t, q, ok⟩ := r
      simp only at hp fe fad ff
      generalize endsAt w.spec t = e at *
      simp [go_sem, hlt, hlt', hx, gE hx]
      refine OpW.fn false ff rfl rfl (by simp [go_sem]) (fun h => by cases h) ?_
      rintro r rfl
      cases ok with
      | false =>
        simp only [Bool.false_eq_true, if_false] at hp
        simp [go_sem]
        exact ⟨i + 1, out, ⟨by omega, hp, by omega, hoh⟩, by omega, Ent.chk (by simp [go_sem, hw])⟩
      | true =>
        simp only [if_true] at hp
        simp [go_sem]
        refine DrawW.rd rfl ?_
        simp [go_sem]
        refine OpD.call false fe rfl rfl (by simp [go_sem]) (fun h => by cases h) (by simp [go_sem]) (by simp [go_sem]) ?_
        simp [go_sem]
        refine OpD.buildS rfl rfl (by simp [go_sem]) (by simp [go_sem]; rfl) (by simp [go_sem]; rfl) (by simp [go_sem]; rfl) (by simp [go_sem]) ?_
        simp [go_sem]
        refine OpD.call false fad rfl rfl (by simp [go_sem]) (fun h => by cases h) (by simp [go_sem]) (by simp [go_sem]) ?_
        simp [go_sem]
        refine ⟨by kernel_rfl, ?_⟩
        by_cases he : a.2 = 0
        · rw [if_pos he] at hp
          have he' : (a.2 == 0) = true := by simpa using he
          simp [go_sem, bne, he, he']
          exact ⟨i + 1, a.1, ⟨by omega, hp, by omega, hgood.2⟩, by omega, Ent.chk (by simp [go_sem, hw])⟩
        · rw [if_neg he] at hp
          have he' : (a.2 == 0) = false := by simpa using he
          rw [← hp]
          simp [go_sem, bne, he, he']
          refine OpW.fn false fcl rfl rfl (by simp [go_sem]) (fun h => by cases h) ?_
          rintro r rfl
          simp [go_sem]
    · have hil : i = ws.length := by omega
      subst hil
      rw [List.drop_length, planTo_nil] at hp
      rw [← hp]
      simp [go_sem]
end Go.Proofs.YtinhfnbmgmociaaGreatDoor.Ab

namespace Go.Proofs.YtinhfnbmgmociaaGreatDoor.Ab
open Go.RowKit
set_option linter.unusedVariables false
set_option linter.unusedSimpArgs false

theorem one_same' (h : Held) : (decide (h.id = h.id) && decide (h.fr = h.fr) && decide (h.to = h.to) && decide (h.things = h.things)) = true := by simp
theorem tab_helds {l : List Held} (ht : isTab l = true) : Helds l := fun h hh => by have := set_len (mayH_set (tab_may ht hh)); omega
theorem get_off {l : List Held} (ht : isTab l = true) {x : Held} (h : (getL l x.id).2 = false) : x ∉ l := fun hm => by rw [get_mem ht hm] at h; cases h
def wantB (x : Held) (w : Want) : Bool := decide (w.id = x.id) && decide (endsAt w.spec x.fr = x.to)
def anyW (ws : List Want) (x : Held) (j : Nat) : Bool := (ws.take j).any (wantB x)
theorem anyW_zero (ws : List Want) (x : Held) : anyW ws x 0 = false := rfl
theorem anyW_all (ws : List Want) (x : Held) : anyW ws x ws.length = ws.any (wantB x) := by unfold anyW; rw [List.take_length]
theorem anyW_succ {ws : List Want} {x : Held} {k : Nat} {w : Want} (hx : ws[k]? = some w) : anyW ws x (k + 1) = (anyW ws x k || wantB x w) := by
  unfold anyW
  rw [List.take_succ_eq_append_getElem (List.getElem?_eq_some_iff.1 hx).1, gE hx, List.any_append]; simp
theorem planned_any {use : List Int} {ws : List Want} {f v : Int} {x : Held} (h : planned use ws f v x) : anyW ws x ws.length = true := by
  rw [anyW_all, List.any_eq_true]
  obtain ⟨⟨w, h1, h2, h3⟩, _⟩ := h
  exact ⟨w, h1, by unfold wantB; simp [h2, h3]⟩
end Go.Proofs.YtinhfnbmgmociaaGreatDoor.Ab
