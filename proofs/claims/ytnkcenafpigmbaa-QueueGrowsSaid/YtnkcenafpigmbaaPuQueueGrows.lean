/- queue.Ready, of any length. What a queue keeps, whatever comes and happens. The law QueueGrows. -/
import Derived.Test.YtnkcenafpigmbaaQu6
import Derived.Test.YtnkcenafpigmbaaSo3
import Derived.Test.YtnkcenafpigmbaaPuQueueAdds
namespace Go.Proofs.Ytnkcenafpigmbaa.Ab
open Go.RowKit
set_option linter.unusedVariables false
set_option linter.unusedSimpArgs false

set_option maxHeartbeats 8000000 in
set_option maxRecDepth 100000 in
theorem qReadyA_c (l : List Job) (hl : l.length ≤ 1000000) (hh : Jobs l) : ACalls Try.prog 15 [jobs l] (· = .one (.sv (ints (readyL l)))) := by
  refine ACalls.of_bodyS (fun _ _ => Try.call15 _ _) Try.func15 rfl Try.ntmps15 (by simp) ?_
  refine Tr.ex ?_
  unfold readyL
  simp [go_sem]
  refine OpW.fn true (qRight_c l (by omega) hh) rfl rfl (by simp [go_sem]) (by rintro _ r rfl; simp [go_sem]) ?_
  rintro r rfl
  cases hq : isQ l with
  | false => simp [go_sem]
  | true =>
    have hso := q_sorted hq
    have hq64 := q_len hq
    simp [go_sem]
    refine LoopW.of (fun i : Nat => ⟨33, [(1, .box 1 0), (2, .nil), (3, .own 3), (9, .sv (jobs l)), (10, .sv (iv l.length)), (11, .sv (iv i))], [(1, .box [.sv (jobs l)]), (3, .row 13 (((l.take i).filter (readyB l)).map jobSV))]⟩)
      (fun i => i ≤ l.length) (fun i => l.length - i) 0 (by omega) (Ent.thaw 3 3 13 (by simp [go_sem]) (by simp [go_sem]) (by decide) (Ent.chk (by simp [go_sem]))) ?_
    intro i hi
    by_cases hlt : i < l.length
    · have hlt' : (i : Int) < l.length := by omega
      have hw : IntKind.i64.wrap ((i : Int) + 1) = (i : Int) + 1 := by rw [i64w] <;> omega
      obtain ⟨j, hx⟩ : ∃ h, l[i]? = some h := ⟨_, List.getElem?_eq_getElem hlt⟩
      have hjw := (hh j (List.mem_of_getElem? hx)).2
      have htk : (l.take (i + 1)).filter (readyB l) = (l.take i).filter (readyB l) ++ (if readyB l j = true then [j] else []) := by rw [List.take_succ_eq_append_getElem hlt, gE hx, List.filter_append]; simp [List.filter_cons]
      have hle : ((l.take i).filter (readyB l)).length ≤ i := by have := List.length_filter_le (readyB l) (l.take i); rw [List.length_take] at this; omega
      have hev : ACalls Try.prog 39 [jobs l, jobSV j, .fn 40 [.ref (.agg [jobs l]) 0]] (· = .one (.sv (bv (j.after.all fun n => decide ((jb l (lowJ l n)).state = 3))))) :=
        every_c l j hso (by omega) hjw _ _ (fun k => decide ((jb l k).state = 3)) fun n hn => by
          obtain ⟨_, x, h1, _⟩ := q_need hq hx hn
          rw [jb_get h1]
          exact ready1_c l _ x h1 (by omega)
      generalize hF : (l.take i).filter (readyB l) = F at *
      generalize hF' : (l.take (i + 1)).filter (readyB l) = F' at *
      by_cases hst : j.state = 0
      case neg =>
        have e : readyB l j = false := by unfold readyB; simp [hst]
        rw [e] at htk
        simp at htk
        subst htk
        have hst' : (j.state == 0) = false := by simpa using hst
        simp [go_sem, hlt, hlt', hx, gE hx, hst, hst']
        exact ⟨i + 1, by omega, by omega, Ent.chk (by simp [go_sem, hw, hF, hF'])⟩
      case pos =>
        have e : readyB l j = j.after.all fun n => decide ((jb l (lowJ l n)).state = 3) := by unfold readyB; simp [hst]
        rw [e] at htk
        have hst' : (j.state == 0) = true := by simpa using hst
        simp [go_sem, hlt, hlt', hx, gE hx, hst']
        refine OpW.fn true hev rfl rfl (by simp [go_sem]) (by rintro _ r rfl; simp [go_sem]) ?_
        rintro r rfl
        cases hb : j.after.all fun n => decide ((jb l (lowJ l n)).state = 3) with
        | false =>
          rw [hb] at htk
          simp at htk
          subst htk
          simp [go_sem]
          exact ⟨i + 1, by omega, by omega, Ent.chk (by simp [go_sem, hw, hF, hF'])⟩
        | true =>
          rw [hb] at htk
          simp only [if_true] at htk
          have hm : F'.map jobSV = F.map jobSV ++ [jobSV j] := by rw [htk, List.map_append]; rfl
          simp only [jobSV, jobCells, iv, sv', bv, ints] at hm
          simp [go_sem]
          exact ⟨by omega, i + 1, by omega, by omega, Ent.rename2 27 3 (by simp [go_sem]) (Ent.chk (by simp [go_sem, hw, hF, hF', hm]))⟩
    · have hil : i = l.length := by omega
      subst hil
      rw [List.take_length]
      have hle := List.length_filter_le (readyB l) l
      have hid := idsJ_c (readyJ l) (by rw [(readyJ_perm l).length_eq]; omega)
      have hfs : sortedJ (l.filter (readyB l)) := List.Pairwise.sublist List.filter_sublist hso
      have hord : Ord (aheadJ fun j => j.spec.prio) (fun a b => cmpI b.spec.prio a.spec.prio) (l.filter (readyB l)) := hfs.imp fun {a b} h => by
        simp only
        unfold cmpI aheadJ
        constructor
        · intro h2
          simp only
          split at h2
          · omega
          · split at h2 <;> omega
        · intro h2
          simp only
          split at h2
          · omega
          · omega
      have hst := sortStableSJ_c (aheadJ fun j => j.spec.prio) (fun a b c => aheadJ_trans) 42 [] (fun a b => cmpI b.spec.prio a.spec.prio) (fun _ => True) (fun a b _ _ => ready2_c a b) (l.filter (readyB l)) hord (fun _ _ => trivial) (by omega)
      have huniq : ∀ g, SortedOf (aheadJ fun j => j.spec.prio) (l.filter (readyB l)) g → g = readyJ l := fun g hg => sorted_unique aheadJ_irr aheadJ_asym (hg.1.trans (readyJ_perm l).symm) hg.2 (readyJ_sorted hso)
      generalize hF : l.filter (readyB l) = F at *
      simp [go_sem]
      refine OpW.callI 3 hst rfl (by simp [go_sem]) (by simp [go_sem]) (by simp [go_sem]) (by simp [go_sem]) ?_
      rintro r o ⟨rfl, g, hg, rfl⟩
      have hgl := hg.1.length_eq
      have hge := huniq g hg
      subst hge
      simp [go_sem, hgl]
      refine OpW.fn true hid rfl rfl (by simp [go_sem]) (by rintro _ r rfl; simp only [RV.flat, RV.comps, List.mem_singleton, forall_eq, R1.flat, List.mem_map]; rintro x ⟨y, _, rfl⟩; rfl) ?_
      rintro r rfl
      simp [go_sem]
end Go.Proofs.Ytnkcenafpigmbaa.Ab

namespace Go.Proofs.Ytnkcenafpigmbaa.Ab
open Go.RowKit
set_option linter.unusedVariables false
set_option linter.unusedSimpArgs false

theorem nextJ_cases (s w : Int) : ((nextJ s w).2 = false ∧ (nextJ s w).1 = s) ∨ ((nextJ s w).2 = true ∧ s ≤ 2 ∧ ((s = 0 ∧ w = 1 ∧ (nextJ s w).1 = 1) ∨ (s = 1 ∧ w = 2 ∧ (nextJ s w).1 = 0) ∨ (s = 0 ∧ w = 3 ∧ (nextJ s w).1 = 2) ∨ (s = 2 ∧ w = 4 ∧ (nextJ s w).1 = 3) ∨ (s = 2 ∧ w = 5 ∧ (nextJ s w).1 = 4) ∨ (s ≤ 2 ∧ w = 6 ∧ (nextJ s w).1 = 5) ∨ (s < 2 ∧ w = 7 ∧ (nextJ s w).1 = 6))) := by
  unfold nextJ
  split
  · right; simp; omega
  · split
    · right; simp; omega
    · split
      · right; simp; omega
      · split
        · right; simp; omega
        · split
          · right; simp; omega
          · split
            · right; simp; omega
            · split
              · right; simp; omega
              · left; simp
/-- A job stays what it is, but for its state and times. -/
theorem doJ_keeps (j : Job) (w t : Int) : (doJ j w t).1.id = j.id ∧ (doJ j w t).1.spec = j.spec ∧ (doJ j w t).1.after = j.after ∧ (doJ j w t).1.added = j.added := by
  unfold doJ
  split
  · split <;> exact ⟨rfl, rfl, rfl, rfl⟩
  · exact ⟨rfl, rfl, rfl, rfl⟩
theorem doJ_over {j : Job} (w t : Int) (h : 3 ≤ j.state) : (doJ j w t).1 = j := by
  unfold doJ
  split
  · rcases nextJ_cases j.state w with ⟨h1, _⟩ | ⟨_, h2, _⟩
    · rw [h1]; rfl
    · omega
  · rfl
theorem doJ_state {j : Job} (w t : Int) : (doJ j w t).1 = j ∨ (j.state ≤ 2 ∧ ((doJ j w t).1.state ≤ 1 ∨ 2 < (doJ j w t).1.state ∨ ((doJ j w t).1.state = 2 ∧ w = 3 ∧ j.state = 0)) ∧ (j.state ≤ 1 → (doJ j w t).1.state ≠ 3)) := by
  unfold doJ
  split
  · rcases nextJ_cases j.state w with ⟨h1, _⟩ | ⟨h0, h2, h3⟩
    · left; rw [h1]; rfl
    · right
      rw [h0]
      refine ⟨h2, ?_, ?_⟩
      · show (nextJ j.state w).1 ≤ 1 ∨ 2 < (nextJ j.state w).1 ∨ ((nextJ j.state w).1 = 2 ∧ w = 3 ∧ j.state = 0)
        omega
      · show _ → (nextJ j.state w).1 ≠ 3
        omega
  · left; rfl
theorem doJ_isJob {j : Job} (w t : Int) (h : isJob j = true) : isJob (doJ j w t).1 = true := by
  obtain ⟨k1, k2, k3, k4⟩ := doJ_keeps j w t
  unfold isJob at h ⊢
  rw [k1, k2, k3, k4]
  simp only [Bool.and_eq_true] at h ⊢
  refine ⟨h.1, ?_⟩
  have hT := times_ref.1 h.2
  have hA : 0 ≤ j.added ∧ j.added ≤ 4611686018427387904 := by
    have := h.1.2
    unfold isWhen at this
    simpa using this
  rw [times_ref]
  unfold doJ
  split
  · rename_i hc
    have hw : 0 ≤ t ∧ t ≤ 4611686018427387904 := by
      have := hc.2.2.2.1
      unfold isWhen at this
      simpa using this
    have c5 := hc.2.2.2.2
    rcases nextJ_cases j.state w with ⟨h1, _⟩ | ⟨h0, h2, h3⟩
    · rw [h1]; exact hT
    · rw [h0, if_pos rfl]
      generalize (nextJ j.state w).1 = s at *
      unfold refTimes at hT ⊢
      unfold overB
      simp only [Bool.and_eq_true, decide_eq_true_eq]
      by_cases e1 : s = 2
      · rw [if_pos e1, if_neg (by omega)]; omega
      · rw [if_neg e1]
        by_cases e2 : 3 ≤ s ∧ s ≤ 6
        · rw [if_pos e2]; omega
        · rw [if_neg e2]; omega
  · exact hT
theorem jb_set {l : List Job} {p i : Nat} {j : Job} (hp : p < l.length) : jb (l.set p j) i = if i = p then j else jb l i := by
  unfold jb
  rw [List.getD_eq_getElem?_getD, List.getD_eq_getElem?_getD, List.getElem?_set]
  by_cases e : p = i
  · subst e; rw [if_pos rfl, if_pos hp, if_pos rfl]; rfl
  · rw [if_neg e, if_neg (Ne.symm e)]
theorem low_ids {l l' : List Job} (h : l'.map (·.id) = l.map (·.id)) (n : Int) : lowJ l' n = lowJ l n := by
  have key : ∀ m : List Job, lowJ m n = ((m.map (·.id)).filter fun x => decide (x < n)).length := fun m => by
    unfold lowJ
    rw [List.filter_map, List.length_map]; rfl
  rw [key, key, h]
theorem isAtJ_ids {l l' : List Job} (h : l'.map (·.id) = l.map (·.id)) (n : Int) : isAtJ l' n = isAtJ l n := by
  have key : ∀ m : List Job, isAtJ m n = (m.map (·.id)).any fun x => x == n := fun m => by
    unfold isAtJ
    rw [List.any_map]; rfl
  rw [key, key, h]
theorem set_ids {l : List Job} {p : Nat} {j x : Job} (hx : l[p]? = some x) (hj : j.id = x.id) : (l.set p j).map (·.id) = l.map (·.id) := by
  rw [List.map_set, hj]
  obtain ⟨h, rfl⟩ := List.getElem?_eq_some_iff.1 hx
  apply List.ext_getElem? fun i => ?_
  rw [List.getElem?_set]
  split
  · rename_i e; subst e
    rw [if_pos (by simpa using h), List.getElem?_map, List.getElem?_eq_getElem h]; rfl
  · rfl
theorem do_isQ {l : List Job} {id w t : Int} (hq : isQ l = true) : isQ (doQ l id w t).1 = true := by
  unfold doQ
  rw [if_pos hq]
  split
  case isFalse => exact hq
  rename_i hat
  obtain ⟨hlt, hx, hid⟩ := isAtJ_get (q_sorted hq) hat
  generalize jb l (lowJ l id) = x at *
  generalize lowJ l id = p at *
  obtain ⟨k1, k2, k3, k4⟩ := doJ_keeps x w t
  have hJ := doJ_isJob w t (q_row hq hx).1
  show isQ (l.set p (doJ x w t).1) = true
  generalize (doJ x w t).1 = j at *
  have hxj := jb_get hx
  have hje : ∀ i, (jb (l.set p j) i).id = (jb l i).id ∧ (jb (l.set p j) i).added = (jb l i).added ∧ (jb (l.set p j) i).after = (jb l i).after := fun i => by
    rw [jb_set hlt]
    split
    · rename_i e; subst e; rw [hxj]; exact ⟨k1, k4, k3⟩
    · exact ⟨rfl, rfl, rfl⟩
  unfold isQ
  rw [Bool.and_eq_true, decide_eq_true_eq, List.length_set]
  refine ⟨q_len hq, ?_⟩
  unfold quTo
  rw [List.all_eq_true]
  intro i hi
  rw [List.mem_range] at hi
  have hr := quTo_row (q_to hq) hi
  unfold rowQ ordQ at hr ⊢
  simp only [Bool.and_eq_true, List.all_eq_true] at hr ⊢
  rw [(hje i).1, (hje (i - 1)).1, (hje i).2.1, (hje (i - 1)).2.1, (hje i).2.2]
  refine ⟨⟨?_, hr.1.2⟩, fun n hn => ?_⟩
  · rw [jb_set hlt]
    split
    · exact hJ
    · exact hr.1.1
  · rw [isAtJ_ids (l := l.take i) ?_]
    · exact hr.2 n hn
    · have := set_ids (l := l) hx k1
      rw [List.map_take, List.map_take, this]
theorem lostTo_app {l : List Job} {j : Job} : ∀ {k : Nat}, k ≤ l.length → (∀ p, p < l.length → ∀ n ∈ (jb l p).after, lowJ (l ++ [j]) n = lowJ l n ∧ lowJ l n < l.length) → lostTo (l ++ [j]) k = lostTo l k
  | 0, _, _ => rfl
  | k + 1, hk, h => by
    rw [lostTo, lostTo, lostTo_app (by omega) h]
    congr 2
    unfold stepLost
    rw [jb_app (by omega)]
    congr 1
    rw [Bool.eq_iff_iff, List.any_eq_true, List.any_eq_true]
    have key : ∀ n ∈ (jb l k).after, badL (l ++ [j]) (lostTo l k) (lowJ (l ++ [j]) n) = badL l (lostTo l k) (lowJ l n) := fun n hn => by
      obtain ⟨h1, h2⟩ := h k (by omega) n hn
      unfold badL
      rw [h1, jb_app h2]
    constructor
    · rintro ⟨n, hn, hb⟩; exact ⟨n, hn, by rw [← key n hn]; exact hb⟩
    · rintro ⟨n, hn, hb⟩; exact ⟨n, hn, by rw [key n hn]; exact hb⟩
/-- What is kept from one queue to the next. -/
structure KeepsQ (q q' : List Job) : Prop where
  is : isQ q' = true
  le : q.length ≤ q'.length
  ge : q'.length ≤ q.length + 1
  bad : ∀ (p : Nat) (j : Job), q[p]? = some j → lostI q p = true → ∃ j', q'[p]? = some j' ∧ j'.id = j.id ∧ (lostI q' p = true ∨ 3 < j'.state)
  over : ∀ (p : Nat) (j : Job), q[p]? = some j → 3 ≤ j.state → q'[p]? = some j
theorem KeepsQ.refl {q : List Job} (hq : isQ q = true) : KeepsQ q q := ⟨hq, Nat.le_refl _, by omega, fun p j h1 h2 => ⟨j, h1, rfl, .inl h2⟩, fun p j h1 _ => h1⟩
theorem keeps_add {q : List Job} (s : Spec) (needs : List Int) (now : Int) (hq : isQ q = true) : KeepsQ q (addQ q s needs now).1 := by
  rcases addQ_cases q s needs now with ⟨hc, he⟩ | ⟨e, _, he⟩
  · rw [he]
    have hQ := add_isQ hc
    refine ⟨hQ, by simp, by simp, fun p j h1 h2 => ?_, fun p j h1 _ => ?_⟩
    · have hp := (List.getElem?_eq_some_iff.1 h1).1
      refine ⟨j, by show (q ++ [_])[p]? = _; rw [List.getElem?_append_left hp]; exact h1, rfl, .inl ?_⟩
      show lostI (q ++ [newJ q s needs now]) p = true
      have hn : ∀ p, p < q.length → ∀ n ∈ (jb q p).after, lowJ (q ++ [newJ q s needs now]) n = lowJ q n ∧ lowJ q n < q.length := fun p hp n hn => by
        have hx : q[p]? = some (jb q p) := by rw [jb_get (List.getElem?_eq_getElem hp)]; exact List.getElem?_eq_getElem hp
        obtain ⟨a1, y, a2, a3⟩ := q_need hq hx hn
        have a4 := (List.getElem?_eq_some_iff.1 a2).1
        have a5 : (q ++ [newJ q s needs now])[lowJ q n]? = some y := by rw [List.getElem?_append_left a4]; exact a2
        have := (low_of (q_sorted hQ) a5).2
        rw [a3] at this
        exact ⟨this, a4⟩
      unfold lostI stepLost at h2 ⊢
      rw [lostTo_app (by omega) hn, jb_app hp]
      simp only [Bool.and_eq_true, List.any_eq_true] at h2 ⊢
      obtain ⟨b1, n, b2, b3⟩ := h2
      refine ⟨b1, n, b2, ?_⟩
      obtain ⟨c1, c2⟩ := hn p hp n b2
      unfold badL at b3 ⊢
      rw [c1, jb_app c2]; exact b3
    · have hp := (List.getElem?_eq_some_iff.1 h1).1
      show (q ++ [_])[p]? = _
      rw [List.getElem?_append_left hp]; exact h1
  · rw [he]; exact KeepsQ.refl hq
theorem readyL_mem {l : List Job} (hq : isQ l = true) {p : Nat} {x : Job} (hx : l[p]? = some x) (h : x.id ∈ readyL l) : readyB l x = true := by
  unfold readyL at h
  rw [if_pos hq] at h
  obtain ⟨y, hy, he⟩ := List.mem_map.1 h
  obtain ⟨h1, h2⟩ := ready_mem hy
  obtain ⟨k, hk⟩ := List.getElem?_of_mem h1
  have e1 := (low_of (q_sorted hq) hk).2
  have e2 := (low_of (q_sorted hq) hx).2
  rw [he, e2] at e1
  subst e1
  rw [hx] at hk
  cases hk
  exact h2
theorem keeps_do {q : List Job} {id w t : Int} (hq : isQ q = true) (hm : w = 3 → id ∈ readyL q) : KeepsQ q (doQ q id w t).1 := by
  have hQ := do_isQ (id := id) (w := w) (t := t) hq
  unfold doQ at hQ ⊢
  rw [if_pos hq] at hQ ⊢
  split
  case isFalse => exact KeepsQ.refl hq
  rename_i hat
  rw [if_pos hat] at hQ
  obtain ⟨hlt, hx, hid⟩ := isAtJ_get (q_sorted hq) hat
  generalize jb q (lowJ q id) = x at *
  generalize lowJ q id = p0 at *
  obtain ⟨k1, k2, k3, k4⟩ := doJ_keeps x w t
  have hov : 3 ≤ x.state → (doJ x w t).1 = x := doJ_over w t
  have hst := doJ_state (j := x) w t
  show KeepsQ q (q.set p0 (doJ x w t).1)
  replace hQ : isQ (q.set p0 (doJ x w t).1) = true := hQ
  generalize (doJ x w t).1 = j0 at *
  have hids := set_ids (l := q) hx k1
  have hover : ∀ (p : Nat) (j : Job), q[p]? = some j → 3 ≤ j.state → (q.set p0 j0)[p]? = some j := fun p j h1 h3 => by
    rw [List.getElem?_set]
    split
    · rename_i e; subst e
      rw [hx] at h1
      cases h1
      rw [hov h3]
    · exact h1
  refine ⟨hQ, by simp, by simp, ?_, hover⟩
  have key : ∀ (p : Nat) (j : Job), q[p]? = some j → (lostI q p = true ∨ 3 < j.state) → ∃ j', (q.set p0 j0)[p]? = some j' ∧ j'.id = j.id ∧ (lostI (q.set p0 j0) p = true ∨ 3 < j'.state) := by
    intro p
    induction p using Nat.strongRecOn with
    | _ p ih =>
    intro j hj hb
    by_cases h3 : 3 < j.state
    · exact ⟨j, hover p j hj (by omega), rfl, .inr h3⟩
    have hlo : lostI q p = true := hb.elim (fun h => h) (fun h => (h3 h).elim)
    have hlo2 := hlo
    unfold lostI stepLost at hlo
    rw [jb_get hj] at hlo
    simp only [Bool.and_eq_true, List.any_eq_true, decide_eq_true_eq] at hlo
    obtain ⟨hs1, n, hn, hbn⟩ := hlo
    obtain ⟨a1, y, a2, a3⟩ := q_need hq hj hn
    rw [badL_need hq hj hn a2] at hbn
    obtain ⟨y', b1, b2, b3⟩ := ih _ a1 y a2 (by
      rcases Bool.or_eq_true _ _ ▸ hbn with h | h
      · exact .inl h
      · exact .inr (of_decide_eq_true h))
    have hlost' : ∀ j', (q.set p0 j0)[p]? = some j' → j'.after = j.after → j'.state ≤ 1 → lostI (q.set p0 j0) p = true := fun j' h1 h2 h4 => by
      unfold lostI stepLost
      rw [jb_get h1]
      simp only [Bool.and_eq_true, List.any_eq_true, decide_eq_true_eq]
      refine ⟨h4, n, by rw [h2]; exact hn, ?_⟩
      have hlown := low_ids hids n
      have b1' : (q.set p0 j0)[lowJ (q.set p0 j0) n]? = some y' := by rw [hlown]; exact b1
      rw [badL_need hQ h1 (by rw [h2]; exact hn) b1', hlown]
      rcases b3 with h | h
      · rw [h]; rfl
      · rw [decide_eq_true h, Bool.or_true]
    by_cases e : p0 = p
    · subst e
      rw [hx] at hj
      cases hj
      have hg : (q.set p0 j0)[p0]? = some j0 := by rw [List.getElem?_set, if_pos rfl, if_pos hlt]
      refine ⟨j0, hg, k1, ?_⟩
      rcases hst with h | ⟨h1, h2, h4⟩
      · exact .inl (hlost' j0 hg k3 (by rw [h]; exact hs1))
      · rcases h2 with h2 | h2 | ⟨h2, hw, h5⟩
        · exact .inl (hlost' j0 hg k3 h2)
        · have := h4 hs1
          exact .inr (by omega)
        · have hr := readyL_mem hq hx (by rw [hid]; exact hm hw)
          rw [ready_lost hq hx hr] at hlo2
          cases hlo2
    · have hg : (q.set p0 j0)[p]? = some j := by rw [List.getElem?_set, if_neg e]; exact hj
      exact ⟨j, hg, rfl, .inl (hlost' j hg rfl hs1)⟩
  exact fun p j h1 h2 => key p j h1 (.inl h2)
theorem lostL_of {l : List Job} (hq : isQ l = true) {p : Nat} {j : Job} (hj : l[p]? = some j) (h : lostI l p = true) : j.id ∈ lostL l := by
  unfold lostL
  rw [if_pos hq]
  unfold lostIds
  rw [List.mem_map]
  exact ⟨p, List.mem_filter.2 ⟨List.mem_range.2 (List.getElem?_eq_some_iff.1 hj).1, h⟩, by rw [jb_get hj]⟩
end Go.Proofs.Ytnkcenafpigmbaa.Ab

namespace Go.Proofs.Ytnkcenafpigmbaa.Ab
open Go.RowKit
set_option linter.unusedVariables false
set_option linter.unusedSimpArgs false

structure Act where
  what : Int
  at_ : Int
  spec : Spec
  need : Int
  more : Int
  deriving Inhabited
def actCells (a : Act) : List SV := [iv a.what, .val (.int .u8 a.at_), iv a.spec.nodes, iv a.spec.cores, iv a.spec.gpus, sv' a.spec.tag, bv a.spec.whole, iv a.spec.long, iv a.spec.prio, .val (.int .u8 a.need), .val (.int .u8 a.more)]
def actSV (a : Act) : SV := .agg (actCells a)
def acts (l : List Act) : SV := .lst (l.map actSV)
attribute [go_sem] actSV actCells acts
def ActOk (a : Act) : Prop := (Lit.int .i64 a.what).wf = true ∧ (Lit.int .u8 a.at_).wf = true ∧ SpecOk a.spec ∧ (Lit.int .u8 a.need).wf = true ∧ (Lit.int .u8 a.more).wf = true
theorem ActOk_mk {p : Int × Int × Spec × Int × Int × Unit} (h : (Lit.int .i64 p.1).wf = true ∧ (Lit.int .u8 p.2.1).wf = true ∧ SpecOk p.2.2.1 ∧ (Lit.int .u8 p.2.2.2.1).wf = true ∧ (Lit.int .u8 p.2.2.2.2.1).wf = true ∧ True) :
    ActOk ⟨p.1, p.2.1, p.2.2.1, p.2.2.2.1, p.2.2.2.2.1⟩ := ⟨h.1, h.2.1, h.2.2.1, h.2.2.2.1, h.2.2.2.2.1⟩
theorem u8_le {n : Int} (h : (Lit.int .u8 n).wf = true) : 0 ≤ n ∧ n ≤ 255 := by simpa [Lit.wf, IntKind.min, IntKind.max, IntKind.bits, IntKind.signed] using h
/-- Where the loop is. -/
structure GrowI (i : Nat) (q : List Job) (now : Int) : Prop where
  is : isQ q = true
  jb : Jobs q
  ln : q.length ≤ i
  lo : 0 ≤ now
  hi : now ≤ 255 * i
/-- What a turn makes of the queue. -/
structure GrowN (q q' : List Job) : Prop where
  kp : KeepsQ q q'
  jb : Jobs q'
theorem jobs_add {q : List Job} {s : Spec} {needs : List Int} {now : Int} (hj : Jobs q) (hs : s.tag.size ≤ 140737488351232) (hn : needs.length ≤ 140737488355) : Jobs (addQ q s needs now).1 := by
  rcases addQ_cases q s needs now with ⟨_, he⟩ | ⟨e, _, he⟩
  · rw [he]
    intro j hm
    rcases List.mem_append.1 hm with hm | hm
    · exact hj j hm
    · rw [List.mem_singleton.1 hm]; exact ⟨hs, hn⟩
  · rw [he]; exact hj
theorem jobs_do {q : List Job} {id w t : Int} (hq : isQ q = true) (hj : Jobs q) : Jobs (doQ q id w t).1 := by
  unfold doQ
  rw [if_pos hq]
  split
  case isFalse => exact hj
  rename_i hat
  obtain ⟨hlt, hx, _⟩ := isAtJ_get (q_sorted hq) hat
  intro j hm
  rcases List.mem_or_eq_of_mem_set hm with hm | rfl
  · exact hj j hm
  · obtain ⟨_, k2, k3, _⟩ := doJ_keeps (jb q (lowJ q id)) w t
    have := hj _ (List.mem_of_getElem? hx)
    exact ⟨by rw [k2]; exact this.1, by rw [k3]; exact this.2⟩
set_option maxHeartbeats 16000000 in
set_option maxRecDepth 100000 in
theorem law_QueueGrows (y0 : List Act) (G0 : y0.length * 88 ≤ 140737488351232 ∧ y0.length ≤ maxLen ∧ ∀ x ∈ y0, ActOk x) :
    ACalls Try.prog 5 [acts y0] (· = .one (.sv (bv true))) := by
  refine ACalls.of_bodyS (fun _ _ => Try.call5 _ _) Try.func5 rfl Try.ntmps5 (by simp) ?_
  refine Tr.ex ?_
  simp [go_sem]
  refine OpW.fn true awake12_c rfl rfl (by simp [go_sem]) (by rintro _ r rfl; simp [go_sem]) ?_
  rintro r rfl
  simp [go_sem]
  refine LoopW.of (fun z : Nat × List Job × Int => ⟨200, [(0, .sv (acts y0)), (2, .sv (bv false)), (3, .sv (jobs z.2.1)), (4, .sv (iv z.2.2)), (5, .sv (iv z.1))], []⟩)
    (fun z => z.1 ≤ 40 ∧ z.1 ≤ y0.length ∧ GrowI z.1 z.2.1 z.2.2) (fun z => y0.length - z.1) (0, [], 0) ⟨by simp, by simp, ⟨rfl, fun j hj => (by cases hj), by simp, by simp, by simp⟩⟩ (Ent.trans (Ent.nilS (d := 3) (by simp [go_sem])) (Ent.chk (by simp [go_sem]))) ?_
  rintro ⟨i, q, now⟩ ⟨hi, hil, hI⟩
  simp only at hi hil hI ⊢
  have hll := G0.1
  by_cases hlt : i < y0.length
  case neg =>
    have hlt' : ¬ (i : Int) < y0.length := by omega
    simp [go_sem, hlt, hlt']
  have hlt' : (i : Int) < y0.length := by omega
  by_cases h40 : i < 40
  case neg =>
    have h40' : ¬ (i : Int) < 40 := by omega
    simp [go_sem, hlt, hlt', h40, h40']
  have h40' : (i : Int) < 40 := by omega
  obtain ⟨a, hx⟩ : ∃ x, y0[i]? = some x := ⟨_, List.getElem?_eq_getElem hlt⟩
  have ha := G0.2.2 a (List.mem_of_getElem? hx)
  have u1 := u8_le ha.2.1
  have u2 := u8_le ha.2.2.2.1
  have u3 := u8_le ha.2.2.2.2
  have hnow1 := hI.lo
  have hnow2 := hI.hi
  have hw1 : IntKind.i64.wrap a.more = a.more := by rw [i64w] <;> omega
  have hw2 : IntKind.i64.wrap (now + a.more) = now + a.more := by rw [i64w] <;> omega
  have hw : IntKind.i64.wrap ((i : Int) + 1) = (i : Int) + 1 := by rw [i64w] <;> omega
  have hql := hI.ln
  simp [go_sem, hlt, hlt', h40, h40', hx, gE hx, hw1, hw2]
  refine OpW.fnH false (qLost_c q (by omega) hI.jb) rfl rfl (by simp [go_sem]) (fun h => by cases h) ?_
  rintro r rfl
  have hml := lostL_len q
  have hM := fun {m : Nat} {v : Int} (h : (lostL q)[m]? = some v) => (lostL_get h).2
  simp [go_sem]
  refine HaltW.cut (σ := List Job) (fun q' => ⟨200, [(0, .sv (acts y0)), (2, .sv (bv false)), (3, .sv (jobs q')), (4, .sv (iv (now + a.more))), (5, .sv (iv i)), (7, .sv (jobs q)), (8, .sv (ints (lostL q)))], []⟩) (fun q' => GrowN q q') ?_ ?_
  · generalize lostL q = M at *
    by_cases hwh : a.what = 0
    · have hwh' : (a.what == 0) = true := by simpa using hwh
      have hmod : 0 < q.length → (a.need).tmod q.length = ((a.need.toNat % q.length : Nat) : Int) := fun h => by
        rw [Int.tmod_eq_emod_of_nonneg u2.1]
        have : a.need = (a.need.toNat : Int) := by omega
        rw [this, ← Int.natCast_emod]; rfl
      have hwn : IntKind.i64.wrap a.need = a.need := by rw [i64w] <;> omega
      have fA0 := qAdd_c q a.spec [] (now + a.more) (by omega) hI.jb ha.2.2.1.2.2.2.1 (by simp)
      have kA0 : GrowN q (addQ q a.spec [] (now + a.more)).1 := ⟨keeps_add _ _ _ hI.is, jobs_add hI.jb ha.2.2.1.2.2.2.1 (by simp)⟩
      by_cases hq0 : 0 < q.length
      · have hm2 := hmod hq0
        have hml2 : a.need.toNat % q.length < q.length := Nat.mod_lt _ hq0
        generalize a.need.toNat % q.length = p at *
        obtain ⟨x, hxp⟩ : ∃ x, q[p]? = some x := ⟨_, List.getElem?_eq_getElem hml2⟩
        have hml3 : (p : Int) < q.length := by omega
        have hne0 : ¬ (q.length : Int) = 0 := by omega
        have hne1 : ¬ q = [] := fun h => by rw [h] at hq0; simp at hq0
        by_cases h127 : 127 < a.need
        · simp [go_sem, hwh', hq0, hwn, hm2, hml2, hml3, hne0, hne1, hxp, gE hxp, h127]
          refine OpW.fn false fA0 rfl rfl (by simp [go_sem]) (fun h => by cases h) ?_
          rintro r rfl
          generalize (addQ q a.spec [] (now + a.more)).1 = q' at *
          simp [go_sem]
          exact ⟨q', kA0, Ent.chk (by simp [go_sem])⟩
        · have fA1 := qAdd_c q a.spec [x.id] (now + a.more) (by omega) hI.jb ha.2.2.1.2.2.2.1 (by simp)
          have kA1 : GrowN q (addQ q a.spec [x.id] (now + a.more)).1 := ⟨keeps_add _ _ _ hI.is, jobs_add hI.jb ha.2.2.1.2.2.2.1 (by simp)⟩
          simp [go_sem, hwh', hq0, hwn, hm2, hml2, hml3, hne0, hne1, hxp, gE hxp, h127]
          refine OpW.frz 61 (OpW.goQ ?_)
          simp [go_sem]
          refine OpW.fn false fA1 rfl rfl (by simp [go_sem]) (fun h => by cases h) ?_
          rintro r rfl
          generalize (addQ q a.spec [x.id] (now + a.more)).1 = q' at *
          simp [go_sem]
          exact ⟨q', kA1, Ent.chk (by simp [go_sem])⟩
      · by_cases h127 : 127 < a.need
        · simp [go_sem, hwh', hq0, h127]
          refine OpW.fn false fA0 rfl rfl (by simp [go_sem]) (fun h => by cases h) ?_
          rintro r rfl
          generalize (addQ q a.spec [] (now + a.more)).1 = q' at *
          simp [go_sem]
          exact ⟨q', kA0, Ent.chk (by simp [go_sem])⟩
        · simp [go_sem, hwh', hq0, h127]
          refine OpW.fn false fA0 rfl rfl (by simp [go_sem]) (fun h => by cases h) ?_
          rintro r rfl
          generalize (addQ q a.spec [] (now + a.more)).1 = q' at *
          simp [go_sem]
          exact ⟨q', kA0, Ent.chk (by simp [go_sem])⟩
    · have hwh' : (a.what == 0) = false := by simpa using hwh
      have k0 : GrowN q q := ⟨KeepsQ.refl hI.is, hI.jb⟩
      by_cases hq0 : 0 < q.length
      case neg =>
        simp [go_sem, hwh', hwh, hq0]
        exact ⟨q, k0, Ent.chk (by simp [go_sem])⟩
      have hm2 : (a.at_).tmod q.length = ((a.at_.toNat % q.length : Nat) : Int) := by
        rw [Int.tmod_eq_emod_of_nonneg u1.1]
        have : a.at_ = (a.at_.toNat : Int) := by omega
        rw [this, ← Int.natCast_emod]; rfl
      have hwn : IntKind.i64.wrap a.at_ = a.at_ := by rw [i64w] <;> omega
      have hml2 : a.at_.toNat % q.length < q.length := Nat.mod_lt _ hq0
      generalize a.at_.toNat % q.length = p at *
      obtain ⟨x, hxp⟩ : ∃ x, q[p]? = some x := ⟨_, List.getElem?_eq_getElem hml2⟩
      have hml3 : (p : Int) < q.length := by omega
      have hne0 : ¬ (q.length : Int) = 0 := by omega
      have hne1 : ¬ q = [] := fun h => by rw [h] at hq0; simp at hq0
      have fD := qDo_c q x.id a.what (now + a.more) (by omega) hI.jb
      have kD := fun h => (⟨keeps_do (q := q) (id := x.id) (w := a.what) (t := now + a.more) hI.is h, jobs_do hI.is hI.jb⟩ : GrowN q (doQ q x.id a.what (now + a.more)).1)
      have hrl := readyL_len q
      have fR := qReadyA_c q (by omega) hI.jb
      simp [go_sem, hwh', hwh, hq0, hwn, hm2, hml2, hml3, hne0, hne1, hxp, gE hxp]
      refine OpW.fn false fR rfl rfl (by simp [go_sem]) (fun h => by cases h) ?_
      rintro r rfl
      generalize readyL q = L at *
      simp [go_sem, bne]
      refine LoopW.of (fun k : Nat => ⟨200, [(0, .sv (acts y0)), (2, .sv (bv false)), (3, .sv (jobs q)), (4, .sv (iv (now + a.more))), (5, .sv (iv i)), (6, .box 6 0), (7, .sv (jobs q)), (8, .sv (ints M)), (10, .sv (iv x.id)), (11, .sv (ints L)), (12, .sv (bv (!(a.what == 3) || decide (x.id ∈ L.take k)))), (13, .sv (iv k))], [(6, .box ((actCells a).map .sv))]⟩)
        (fun k => k ≤ L.length) (fun k => L.length - k) 0 (by omega) (Ent.chk (by simp [go_sem])) ?_
      intro k hk
      by_cases hkl : k < L.length
      · have hkl' : (k : Int) < L.length := by omega
        have hwk : IntKind.i64.wrap ((k : Int) + 1) = (k : Int) + 1 := by rw [i64w] <;> omega
        obtain ⟨v, hv⟩ : ∃ v, L[k]? = some v := ⟨_, List.getElem?_eq_getElem hkl⟩
        have hmem : decide (x.id ∈ L.take (k + 1)) = (decide (x.id ∈ L.take k) || (v == x.id)) := by
          rw [List.take_succ_eq_append_getElem hkl, gE hv, Bool.eq_iff_iff]
          simp only [decide_eq_true_eq, Bool.or_eq_true, beq_iff_eq, List.mem_append, List.mem_singleton]
          constructor
          · rintro (h | h)
            · exact .inl h
            · exact .inr h.symm
          · rintro (h | h)
            · exact .inl h
            · exact .inr h.symm
        have hor : (!(a.what == 3) || decide (x.id ∈ L.take (k + 1))) = ((!(a.what == 3) || decide (x.id ∈ L.take k)) || (v == x.id)) := by rw [hmem, Bool.or_assoc]
        generalize (!(a.what == 3) || decide (x.id ∈ L.take k)) = b1 at *
        generalize hb2 : (!(a.what == 3) || decide (x.id ∈ L.take (k + 1))) = b2 at *
        subst hor
        cases b1 <;> simp [go_sem, hkl, hkl', hv, gE hv]
        · exact ⟨k + 1, by omega, by omega, Ent.chk (by simp only [hb2]; simp [go_sem, hwk])⟩
        · exact ⟨k + 1, by omega, by omega, Ent.chk (by simp only [hb2]; simp [go_sem, hwk])⟩
      · have hkl2 : k = L.length := by omega
        subst hkl2
        rw [List.take_length]
        have hmay : (!(a.what == 3) || decide (x.id ∈ L)) = true → (a.what = 3 → x.id ∈ L) := fun h h3 => by
          rw [h3] at h
          simpa using h
        cases hb : (!(a.what == 3) || decide (x.id ∈ L)) with
        | false =>
          simp [go_sem]
          exact ⟨q, k0, Ent.chk (by simp [go_sem])⟩
        | true =>
          have kD := kD (hmay hb)
          simp [go_sem]
          refine OpW.fn false fD rfl rfl (by simp [go_sem]) (fun h => by cases h) ?_
          rintro r rfl
          generalize (doQ q x.id a.what (now + a.more)).1 = q' at *
          simp [go_sem]
          exact ⟨q', kD, Ent.chk (by simp [go_sem])⟩
  rintro q' ⟨hkp, hjb⟩
  refine HaltW.go ?_
  have hQ := hkp.is
  have hle := hkp.le
  have hge := hkp.ge
  have fR := qRight_c q' (by omega) hjb
  rw [hQ] at fR
  have fL := qLost_c q' (by omega) hjb
  have hml' := lostL_len q'
  have hbad := hkp.bad
  have hover := hkp.over
  have hlof := fun {p : Nat} {j : Job} (h1 : q'[p]? = some j) (h2 : lostI q' p = true) => lostL_of hQ h1 h2
  have hwl : IntKind.i64.wrap ((q.length : Int) + 1) = (q.length : Int) + 1 := by rw [i64w] <;> omega
  have n1 : ¬ (q'.length : Int) < q.length := by omega
  have n2 : ¬ (q.length : Int) + 1 < q'.length := by omega
  have n3 : ¬ q'.length < q.length := by omega
  simp [go_sem]
  refine OpW.fn true fR rfl rfl (by simp [go_sem]) (by rintro _ r rfl; simp [go_sem]) ?_
  rintro r rfl
  simp [go_sem, n1, n2, n3, hwl]
  refine OpW.fn false fL rfl rfl (by simp [go_sem]) (fun h => by cases h) ?_
  rintro r rfl
  generalize lostL q = M at *
  generalize lostL q' = M' at *
  simp [go_sem]
  refine LoopW.of (fun k : Nat => ⟨200, [(0, .sv (acts y0)), (2, .sv (bv false)), (3, .sv (jobs q')), (4, .sv (iv (now + a.more))), (5, .sv (iv i)), (7, .sv (jobs q)), (8, .sv (ints M)), (14, .sv (ints M')), (15, .sv (iv k))], []⟩)
    (fun k => k ≤ M.length) (fun k => M.length - k) 0 (by omega) (Ent.chk (by simp [go_sem])) ?_
  intro k hk
  by_cases hkl : k < M.length
  · have hkl' : (k : Int) < M.length := by omega
    have hwk : IntKind.i64.wrap ((k : Int) + 1) = (k : Int) + 1 := by rw [i64w] <;> omega
    obtain ⟨v, hv⟩ : ∃ v, M[k]? = some v := ⟨_, List.getElem?_eq_getElem hkl⟩
    obtain ⟨p, x, hxp, hlo, rfl⟩ := hM hv
    obtain ⟨j, hj, hjid, hjb2⟩ := hbad p x hxp hlo
    have fG := qGet_c q' x.id (by omega) hjb
    have hgm := get_mem hQ (List.mem_of_getElem? hj)
    rw [hjid] at hgm
    rw [hgm] at fG
    have hjs := job_state (q_row hQ hj).1
    have hfound : overB j.state = true ∨ x.id ∈ M' := by
      rcases hjb2 with h | h
      · right; rw [← hjid]; exact hlof hj h
      · left; unfold overB; simp; omega
    simp [go_sem, hkl, hkl', hv, gE hv]
    refine OpW.fn false fG rfl rfl (by simp [go_sem]) (fun h => by cases h) ?_
    rintro r rfl
    simp [go_sem]
    have fO := Over_c j.state
    rw [show (decide (3 ≤ j.state) && decide (j.state ≤ 6)) = overB j.state from rfl] at fO
    refine OpW.fn true fO rfl rfl (by simp [go_sem]) (by rintro _ r rfl; simp [go_sem]) ?_
    rintro r rfl
    generalize overB j.state = ov at *
    simp [go_sem]
    refine LoopW.of (fun m : Nat => ⟨200, [(0, .sv (acts y0)), (2, .sv (bv false)), (3, .sv (jobs q')), (4, .sv (iv (now + a.more))), (5, .sv (iv i)), (7, .sv (jobs q)), (8, .sv (ints M)), (14, .sv (ints M')), (15, .sv (iv k)), (18, .sv (bv (ov || decide (x.id ∈ M'.take m)))), (19, .sv (iv m))], []⟩)
      (fun m => m ≤ M'.length) (fun m => M'.length - m) 0 (by omega) (Ent.chk (by simp [go_sem])) ?_
    intro m hm
    by_cases hmm : m < M'.length
    · have hmm' : (m : Int) < M'.length := by omega
      have hwm : IntKind.i64.wrap ((m : Int) + 1) = (m : Int) + 1 := by rw [i64w] <;> omega
      obtain ⟨u, hu⟩ : ∃ v, M'[m]? = some v := ⟨_, List.getElem?_eq_getElem hmm⟩
      have hor : (ov || decide (x.id ∈ M'.take (m + 1))) = ((ov || decide (x.id ∈ M'.take m)) || (u == x.id)) := by
        rw [Bool.or_assoc]
        congr 1
        rw [List.take_succ_eq_append_getElem hmm, gE hu, Bool.eq_iff_iff]
        simp only [decide_eq_true_eq, Bool.or_eq_true, beq_iff_eq, List.mem_append, List.mem_singleton]
        constructor
        · rintro (h | h)
          · exact .inl h
          · exact .inr h.symm
        · rintro (h | h)
          · exact .inl h
          · exact .inr h.symm
      generalize (ov || decide (x.id ∈ M'.take m)) = b1 at *
      generalize hb2 : (ov || decide (x.id ∈ M'.take (m + 1))) = b2 at *
      subst hor
      simp [go_sem, hmm, hmm']
      refine DrawW.rd rfl ?_
      cases b1 <;> simp [go_sem, hmm, hmm', hkl, hkl', hu, gE hu, hv, gE hv]
      · refine ⟨by kernel_rfl, ?_⟩
        exact ⟨m + 1, by omega, by omega, Ent.chk (by simp only [hb2]; simp [go_sem, hwm])⟩
      · refine ⟨by kernel_rfl, ?_⟩
        exact ⟨m + 1, by omega, by omega, Ent.chk (by simp only [hb2]; simp [go_sem, hwm])⟩
    · have hme : m = M'.length := by omega
      subst hme
      rw [List.take_length]
      have hft : (ov || decide (x.id ∈ M')) = true := by
        rcases hfound with h | h
        · rw [h]; rfl
        · rw [decide_eq_true h, Bool.or_true]
      rw [hft]
      simp [go_sem]
      exact ⟨k + 1, by omega, by omega, Ent.chk (by simp [go_sem, hwk])⟩
  · have hke : k = M.length := by omega
    subst hke
    simp [go_sem]
    refine LoopW.of (fun m : Nat => ⟨200, [(0, .sv (acts y0)), (2, .sv (bv false)), (3, .sv (jobs q')), (4, .sv (iv (now + a.more))), (5, .sv (iv i)), (7, .sv (jobs q)), (20, .sv (iv m))], []⟩)
      (fun m => m ≤ q.length) (fun m => q.length - m) 0 (by omega) (Ent.chk (by simp [go_sem])) ?_
    intro m hm
    by_cases hmm : m < q.length
    · have hmm' : (m : Int) < q.length := by omega
      have hwm : IntKind.i64.wrap ((m : Int) + 1) = (m : Int) + 1 := by rw [i64w] <;> omega
      obtain ⟨x, hxm⟩ : ∃ v, q[m]? = some v := ⟨_, List.getElem?_eq_getElem hmm⟩
      have hxs := job_state (q_row hI.is hxm).1
      have fO := Over_c x.state
      have hxw := (hI.jb x (List.mem_of_getElem? hxm)).2
      simp [go_sem, hmm, hmm']
      refine DrawW.rd rfl ?_
      simp [go_sem, hmm, hmm', hxm, gE hxm]
      refine OpD.call true fO rfl rfl (by simp [go_sem]) (by intro _; simp [go_sem]) (by simp [go_sem]) (by simp [go_sem]) ?_
      by_cases h3 : 3 ≤ x.state
      · have hx' := hover m x hxm h3
        have hmq : m < q'.length := (List.getElem?_eq_some_iff.1 hx').1
        have hmq' : (m : Int) < q'.length := by omega
        have h6 := hxs.2
        have fS := r11Same_c x x (by omega) (by omega)
        simp [go_sem, h3, h6, hmm, hmm', hxm, gE hxm, hmq, hmq', hx', gE hx']
        refine OpD.call false fS rfl rfl (by simp [go_sem]) (fun h => by cases h) (by simp [go_sem]) (by simp [go_sem]) ?_
        simp [go_sem]
        refine ⟨by kernel_rfl, ?_⟩
        exact ⟨m + 1, by omega, by omega, Ent.chk (by simp [go_sem, hwm])⟩
      · simp [go_sem, h3]
        refine ⟨by kernel_rfl, ?_⟩
        exact ⟨m + 1, by omega, by omega, Ent.chk (by simp [go_sem, hwm])⟩
    · have hme : m = q.length := by omega
      subst hme
      simp [go_sem]
      exact ⟨i + 1, q', now + a.more, ⟨by omega, by omega, ⟨hQ, hjb, by omega, by omega, by omega⟩⟩, by omega, Ent.chk (by simp [go_sem, hw])⟩
end Go.Proofs.Ytnkcenafpigmbaa.Ab
