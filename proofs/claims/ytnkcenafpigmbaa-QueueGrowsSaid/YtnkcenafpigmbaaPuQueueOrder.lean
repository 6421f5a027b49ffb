/- The law QueueOrder. -/
import Derived.Test.YtnkcenafpigmbaaPuQueueLists
namespace Go.Proofs.Ytnkcenafpigmbaa.Ab
open Go.RowKit
set_option linter.unusedVariables false
set_option linter.unusedSimpArgs false

theorem low_of {l : List Job} (hs : sortedJ l) {k : Nat} {x : Job} (hx : l[k]? = some x) : isAtJ l x.id = true ∧ lowJ l x.id = k := by
  have h1 : isAtJ l x.id = true := by unfold isAtJ; exact List.any_eq_true.2 ⟨x, List.mem_of_getElem? hx, by simp⟩
  refine ⟨h1, ?_⟩
  obtain ⟨a1, a2, a3⟩ := isAtJ_get hs h1
  obtain ⟨b1, b2⟩ := List.getElem?_eq_some_iff.1 hx
  rcases Nat.lt_trichotomy (lowJ l x.id) k with h | h | h
  · have := List.pairwise_iff_getElem.1 hs _ _ a1 b1 h
    rw [b2, gE a2, a3] at this; omega
  · exact h
  · have := List.pairwise_iff_getElem.1 hs _ _ b1 a1 h
    rw [b2, gE a2, a3] at this; omega
theorem get_mem {l : List Job} (hq : isQ l = true) {x : Job} (hx : x ∈ l) : getJ l x.id = (x, true) := by
  obtain ⟨k, hk⟩ := List.getElem?_of_mem hx
  obtain ⟨h1, h2⟩ := low_of (q_sorted hq) hk
  unfold getJ
  rw [if_pos ⟨hq, h1⟩, h2, jb_get hk]
theorem get_need {l : List Job} (hq : isQ l = true) {x : Job} (hx : x ∈ l) {n : Int} (hn : n ∈ x.after) : ∃ p y, p < l.length ∧ l[p]? = some y ∧ lowJ l n = p ∧ getJ l n = (y, true) := by
  obtain ⟨k, hk⟩ := List.getElem?_of_mem hx
  obtain ⟨h1, y, h2, h3⟩ := q_need hq hk hn
  refine ⟨_, y, (List.getElem?_eq_some_iff.1 h2).1, h2, rfl, ?_⟩
  have := get_mem hq (List.mem_of_getElem? h2)
  rwa [h3] at this
theorem ready_mem {l : List Job} {x : Job} (h : x ∈ readyJ l) : x ∈ l ∧ readyB l x = true := by
  have := (readyJ_perm l).mem_iff.1 h
  rwa [List.mem_filter] at this
theorem ready_need {l : List Job} {x : Job} (h : readyB l x = true) : x.state = 0 ∧ ∀ n ∈ x.after, (jb l (lowJ l n)).state = 3 := by
  unfold readyB at h
  simpa using h
theorem lost_state {l : List Job} {p : Nat} (h : lostI l p = true) : (jb l p).state ≤ 1 := by
  unfold lostI stepLost at h
  simp only [Bool.and_eq_true, decide_eq_true_eq] at h
  exact h.1
theorem ready_lost {l : List Job} (hq : isQ l = true) {k : Nat} {x : Job} (hx : l[k]? = some x) (h : readyB l x = true) : lostI l k = false := by
  rw [← Bool.not_eq_true]
  intro hl
  unfold lostI stepLost at hl
  rw [jb_get hx] at hl
  simp only [Bool.and_eq_true, List.any_eq_true] at hl
  obtain ⟨_, n, hn, hb⟩ := hl
  obtain ⟨h1, y, h2, h3⟩ := q_need hq hx hn
  rw [badL_need hq hx hn h2] at hb
  have h4 := (ready_need h).2 n hn
  rw [jb_get h2] at h4
  rcases Bool.or_eq_true _ _ ▸ hb with hb | hb
  · have := lost_state hb
    rw [jb_get h2] at this; omega
  · have := of_decide_eq_true hb; omega
theorem lostL_get {l : List Job} {m : Nat} {v : Int} (h : (lostL l)[m]? = some v) : isQ l = true ∧ ∃ p x, l[p]? = some x ∧ lostI l p = true ∧ x.id = v := by
  unfold lostL at h
  split at h
  case isFalse => cases h
  rename_i hq
  have hm := List.mem_of_getElem? h
  unfold lostIds at hm
  obtain ⟨p, hp, rfl⟩ := List.mem_map.1 hm
  rw [List.mem_filter, List.mem_range] at hp
  refine ⟨hq, p, jb l p, ?_, hp.2, rfl⟩
  rw [jb_get (List.getElem?_eq_getElem hp.1)]; exact List.getElem?_eq_getElem hp.1
theorem cnt_sum {l : List Job} (hq : isQ l = true) : ∀ k, k ≤ l.length → cntTo l k 0 + cntTo l k 1 + cntTo l k 2 + cntTo l k 3 + cntTo l k 4 + cntTo l k 5 + cntTo l k 6 = k := by
  intro k
  induction k with
  | zero => intro _; simp [cntTo]
  | succ k ih =>
    intro hk
    have ih := ih (by omega)
    have hx : l[k]? = some l[k] := List.getElem?_eq_getElem (by omega)
    have hs := job_state (q_row hq hx).1
    rw [cntTo_succ hx, cntTo_succ hx, cntTo_succ hx, cntTo_succ hx, cntTo_succ hx, cntTo_succ hx, cntTo_succ hx]
    generalize l[k].state = s at *
    have : s = 0 ∨ s = 1 ∨ s = 2 ∨ s = 3 ∨ s = 4 ∨ s = 5 ∨ s = 6 := by omega
    rcases this with rfl | rfl | rfl | rfl | rfl | rfl | rfl <;> simp <;> omega
set_option maxHeartbeats 16000000 in
set_option maxRecDepth 100000 in
theorem law_QueueOrder (y0 : List Job) (G0 : y0.length * 128 ≤ 140737488351232 ∧ y0.length ≤ maxLen ∧ ∀ x ∈ y0, JobOk x) :
    ACalls Try.prog 4 [jobs y0] (· = .one (.sv (bv true))) := by
  refine ACalls.of_bodyS (fun _ _ => Try.call4 _ _) Try.func4 rfl Try.ntmps4 (by simp) ?_
  refine Tr.ex ?_
  simp [go_sem]
  refine OpW.fn true awake12_c rfl rfl (by simp [go_sem]) (by rintro _ r rfl; simp [go_sem]) ?_
  rintro r rfl
  simp [go_sem]
  refine OpW.fn true (r12Short_c y0 (by have := G0.1; omega)) rfl rfl (by simp [go_sem]) (by rintro _ r rfl; simp [go_sem]) ?_
  rintro r rfl
  cases hs : shortJ y0 with
  | false => simp [go_sem]
  | true =>
    obtain ⟨hl, _⟩ := shortJ_len hs
    have hh := shortJ_jobs hs G0.2.2
    simp [go_sem]
    refine OpW.fn true (qRight_c y0 (by omega) hh) rfl rfl (by simp [go_sem]) (by rintro _ r rfl; simp [go_sem]) ?_
    rintro r rfl
    cases hq : isQ y0 with
    | false => simp [go_sem]
    | true =>
      have l1 := readyL_len y0
      have l2 := lostL_len y0
      have f1 := qReady_c y0 (by omega) hh
      have f4 := qLost_c y0 (by omega) hh
      have fC := qCounts_c y0 (by omega) hh
      have fG := fun id => qGet_c y0 id (by omega) hh
      have hso := q_sorted hq
      have hRs := readyJ_sorted hso
      have hLR : ∀ {i : Nat} {v : Int}, (readyL y0)[i]? = some v → ∃ x, (readyJ y0)[i]? = some x ∧ x.id = v := fun {i v} h => by
        unfold readyL at h
        rw [if_pos hq, List.getElem?_map] at h
        obtain ⟨x, h1, h2⟩ := Option.map_eq_some_iff.1 h
        exact ⟨x, h1, h2⟩
      have hM := fun {m : Nat} {v : Int} (h : (lostL y0)[m]? = some v) => (lostL_get h).2
      have hcs := cnt_sum hq y0.length (Nat.le_refl _)
      have hcl := cntTo_le y0 y0.length
      have hce : countsL y0 = cnts y0 y0.length := by unfold countsL; rw [if_pos hq]
      rw [hce] at fC
      simp [go_sem]
      refine OpW.fn false f1 rfl rfl (by simp [go_sem]) (fun h => by cases h) ?_
      rintro r rfl
      simp [go_sem]
      refine OpW.fn false f4 rfl rfl (by simp [go_sem]) (fun h => by cases h) ?_
      rintro r rfl
      generalize readyL y0 = L at *
      generalize lostL y0 = M at *
      simp [go_sem]
      refine LoopW.of (fun i : Nat => ⟨186, [(0, .sv (jobs y0)), (2, .sv (bv false)), (3, .sv (ints L)), (4, .sv (ints M)), (5, .sv (iv i))], []⟩)
        (fun i => i ≤ L.length) (fun i => L.length - i) 0 (by omega) (Ent.chk (by simp [go_sem])) ?_
      intro i hi
      by_cases hlt : i < L.length
      · have hlt' : (i : Int) < L.length := by omega
        have hw : IntKind.i64.wrap ((i : Int) + 1) = (i : Int) + 1 := by rw [i64w] <;> omega
        obtain ⟨v, hv⟩ : ∃ v, L[i]? = some v := ⟨_, List.getElem?_eq_getElem hlt⟩
        obtain ⟨x, hx, rfl⟩ := hLR hv
        obtain ⟨hxm, hxr⟩ := ready_mem (List.mem_of_getElem? hx)
        obtain ⟨hx0, hxn⟩ := ready_need hxr
        have hx0' : (x.state == 0) = true := by simpa using hx0
        have g1 := fG x.id
        rw [get_mem hq hxm] at g1
        have hxj := (hh x hxm).2
        simp [go_sem, hlt, hlt', hv, gE hv]
        refine OpW.fn false g1 rfl rfl (by simp [go_sem]) (fun h => by cases h) ?_
        rintro r rfl
        simp [go_sem, bne, hx0']
        refine LoopW.of (fun k : Nat => ⟨186, [(0, .sv (jobs y0)), (2, .sv (bv false)), (3, .sv (ints L)), (4, .sv (ints M)), (5, .sv (iv i)), (6, .box 6 0), (8, .sv (iv k))], [(6, .box ((jobCells x).map .sv))]⟩)
          (fun k => k ≤ x.after.length) (fun k => x.after.length - k) 0 (by omega) (Ent.chk (by simp [go_sem])) ?_
        intro k hk
        by_cases hkl : k < x.after.length
        · have hkl' : (k : Int) < x.after.length := by omega
          have hwk : IntKind.i64.wrap ((k : Int) + 1) = (k : Int) + 1 := by rw [i64w] <;> omega
          obtain ⟨n, hn⟩ : ∃ v, x.after[k]? = some v := ⟨_, List.getElem?_eq_getElem hkl⟩
          have hnm := List.mem_of_getElem? hn
          obtain ⟨p, y, hp, hy, hlo, hge⟩ := get_need hq hxm hnm
          have hst := hxn n hnm
          rw [hlo, jb_get hy] at hst
          have hst' : (y.state == 3) = true := by simpa using hst
          have g2 := fG n
          rw [hge] at g2
          simp [go_sem, hkl, hkl', hn, gE hn]
          refine OpW.fn false g2 rfl rfl (by simp [go_sem]) (fun h => by cases h) ?_
          rintro r rfl
          simp [go_sem, bne, hst']
          exact ⟨k + 1, by omega, by omega, Ent.chk (by simp [go_sem, hwk])⟩
        · have hkl2 : k = x.after.length := by omega
          subst hkl2
          by_cases hi0 : i = 0
          case' pos =>
            have hi1 : ¬ 0 < i := by omega
            have hi1' : ¬ (0 : Int) < i := by omega
            simp [go_sem, hi1, hi1']
          case' neg =>
            have hi1 : 0 < i := by omega
            have hi1' : (0 : Int) < i := by omega
            have hw1 : IntKind.i64.wrap ((i : Int) - 1) = ((i - 1 : Nat) : Int) := by rw [i64w] <;> omega
            have hlt2 : i - 1 < L.length := by omega
            have hlt3 : ((i - 1 : Nat) : Int) < L.length := by omega
            obtain ⟨u, hu⟩ : ∃ v, L[i - 1]? = some v := ⟨_, List.getElem?_eq_getElem hlt2⟩
            obtain ⟨b, hb, rfl⟩ := hLR hu
            obtain ⟨hbm, _⟩ := ready_mem (List.mem_of_getElem? hb)
            have g3 := fG b.id
            rw [get_mem hq hbm] at g3
            obtain ⟨q1, q2⟩ := List.getElem?_eq_some_iff.1 hb
            obtain ⟨q3, q4⟩ := List.getElem?_eq_some_iff.1 hx
            have hah := List.pairwise_iff_getElem.1 hRs (i - 1) i q1 q3 (by omega)
            rw [q2, q4] at hah
            unfold aheadJ at hah
            simp only at hah
            simp [go_sem, hi1, hi1', hw1, hlt2, hlt3, hu, gE hu]
            refine OpW.fn false g3 rfl rfl (by simp [go_sem]) (fun h => by cases h) ?_
            rintro r rfl
            have c1 : ¬ b.spec.prio < x.spec.prio := by omega
            by_cases c2 : b.spec.prio = x.spec.prio
            case' pos =>
              have c2' : (b.spec.prio == x.spec.prio) = true := by simpa using c2
              have c3 : ¬ x.id ≤ b.id := by omega
              simp [go_sem, c1, c2', c3]
            case' neg =>
              have c2' : (b.spec.prio == x.spec.prio) = false := by simpa using c2
              simp [go_sem, c1, c2']
          all_goals
            refine LoopW.of (fun m : Nat => ⟨186, [(0, .sv (jobs y0)), (2, .sv (bv false)), (3, .sv (ints L)), (4, .sv (ints M)), (5, .sv (iv i)), (13, .sv (iv m))], []⟩)
              (fun m => m ≤ M.length) (fun m => M.length - m) 0 (by omega) (Ent.chk (by simp [go_sem])) ?_
            intro m hm
            by_cases hml : m < M.length
            · have hml' : (m : Int) < M.length := by omega
              have hwm : IntKind.i64.wrap ((m : Int) + 1) = (m : Int) + 1 := by rw [i64w] <;> omega
              obtain ⟨z, hz⟩ : ∃ v, M[m]? = some v := ⟨_, List.getElem?_eq_getElem hml⟩
              obtain ⟨p, y, hy, hlo, rfl⟩ := hM hz
              have hne : (y.id == x.id) = false := by
                simp only [beq_eq_false_iff_ne, ne_eq]
                intro e
                obtain ⟨k2, hk2⟩ := List.getElem?_of_mem hxm
                have h5 := (low_of hso hy).2
                have h6 := (low_of hso hk2).2
                rw [e, h6] at h5
                subst h5
                rw [ready_lost hq hk2 hxr] at hlo
                cases hlo
              have hne2 : ¬ y.id = x.id := by simpa using hne
              simp [go_sem, hml, hml']
              refine DrawW.rd rfl ?_
              simp [go_sem, hml, hml', hlt, hlt', hz, gE hz, hv, gE hv, hne, hne2]
              refine ⟨by kernel_rfl, ?_⟩
              exact ⟨m + 1, by omega, by omega, Ent.chk (by simp [go_sem, hwm])⟩
            · have hme : m = M.length := by omega
              subst hme
              simp [go_sem]
              exact ⟨i + 1, by omega, by omega, Ent.chk (by simp [go_sem, hw])⟩
      · have hil : i = L.length := by omega
        subst hil
        simp [go_sem]
        refine LoopW.of (fun m : Nat => ⟨186, [(0, .sv (jobs y0)), (2, .sv (bv false)), (4, .sv (ints M)), (14, .sv (iv m))], []⟩)
          (fun m => m ≤ M.length) (fun m => M.length - m) 0 (by omega) (Ent.chk (by simp [go_sem])) ?_
        intro m hm
        by_cases hml : m < M.length
        · have hml' : (m : Int) < M.length := by omega
          have hwm : IntKind.i64.wrap ((m : Int) + 1) = (m : Int) + 1 := by rw [i64w] <;> omega
          obtain ⟨z, hz⟩ : ∃ v, M[m]? = some v := ⟨_, List.getElem?_eq_getElem hml⟩
          obtain ⟨p, y, hy, hlo, rfl⟩ := hM hz
          have hym := List.mem_of_getElem? hy
          have g1 := fG y.id
          rw [get_mem hq hym] at g1
          have hyj := (hh y hym).2
          have hs0 := job_state (q_row hq hy).1
          have hs1 := lost_state hlo
          rw [jb_get hy] at hs1
          have hne : 0 < y.after.length := by
            unfold lostI stepLost at hlo
            rw [jb_get hy] at hlo
            simp only [Bool.and_eq_true, List.any_eq_true] at hlo
            obtain ⟨_, n, hn, _⟩ := hlo
            exact List.length_pos_of_mem hn
          have hne3 : ¬ y.after = [] := fun h => by rw [h] at hne; simp at hne
          have hne2 : ((y.after.length : Int) == 0) = false := by simpa using hne3
          simp [go_sem, hml, hml', hz, gE hz]
          refine OpW.fn false g1 rfl rfl (by simp [go_sem]) (fun h => by cases h) ?_
          rintro r rfl
          by_cases c0 : y.state = 0
          · have c0' : (y.state == 0) = true := by simpa using c0
            simp [go_sem, bne, hne2, hne3, c0']
            exact ⟨m + 1, by omega, by omega, Ent.chk (by simp [go_sem, hwm])⟩
          · have c0' : (y.state == 0) = false := by simpa using c0
            have c1 : (y.state == 1) = true := by simp; omega
            simp [go_sem, bne, hne2, hne3, c0', c1]
            exact ⟨m + 1, by omega, by omega, Ent.chk (by simp [go_sem, hwm])⟩
        · have hme : m = M.length := by omega
          subst hme
          simp [go_sem]
          refine OpW.fn false fC rfl rfl (by simp [go_sem]) (fun h => by cases h) ?_
          rintro r rfl
          have r0 := hcl 0
          have r1 := hcl 1
          have r2 := hcl 2
          have r3 := hcl 3
          have r4 := hcl 4
          have r5 := hcl 5
          have r6 := hcl 6
          unfold cnts
          generalize cntTo y0 y0.length 0 = k0 at *
          generalize cntTo y0 y0.length 1 = k1 at *
          generalize cntTo y0 y0.length 2 = k2 at *
          generalize cntTo y0 y0.length 3 = k3 at *
          generalize cntTo y0 y0.length 4 = k4 at *
          generalize cntTo y0 y0.length 5 = k5 at *
          generalize cntTo y0 y0.length 6 = k6 at *
          have w1 : IntKind.i64.wrap (k0 + k1) = k0 + k1 := by rw [i64w] <;> omega
          have w2 : IntKind.i64.wrap (k0 + k1 + k2) = k0 + k1 + k2 := by rw [i64w] <;> omega
          have w3 : IntKind.i64.wrap (k0 + k1 + k2 + k3) = k0 + k1 + k2 + k3 := by rw [i64w] <;> omega
          have w4 : IntKind.i64.wrap (k0 + k1 + k2 + k3 + k4) = k0 + k1 + k2 + k3 + k4 := by rw [i64w] <;> omega
          have w5 : IntKind.i64.wrap (k0 + k1 + k2 + k3 + k4 + k5) = k0 + k1 + k2 + k3 + k4 + k5 := by rw [i64w] <;> omega
          have w6 : IntKind.i64.wrap (k0 + k1 + k2 + k3 + k4 + k5 + k6) = y0.length := by rw [hcs, i64w] <;> omega
          simp [go_sem, w1, w2, w3, w4, w5, w6]
end Go.Proofs.Ytnkcenafpigmbaa.Ab
