import Derived.Test.YtpnfmaphlfobpaaF4
import Derived.Test.YtpnfmaphlfobpaaLogP
namespace Go.Proofs.Ytpnfmaphlfobpaa.Pure
open Go.RowKit Go.Proofs.YtpnfmaphlfobpaaW.PrintWords Go.Proofs.YtpnfmaphlfobpaaW.PrintMore Go.Proofs.Ytpnfmaphlfobpaa.F Go.Proofs.Ytpnfmaphlfobpaa.Pk Go.Proofs.Ytpnfmaphlfobpaa.LogP
set_option linter.unusedSimpArgs false
set_option linter.unusedVariables false
/-- Where the j-th entry ends. -/
def en (l : List (List Int)) (j : Nat) : Nat := (elog (l.take j)).length
def ends (l : List (List Int)) (i : Nat) : List Int := (List.range (i + 1)).map fun j => (en l j : Int)
theorem ends_len (l : List (List Int)) (i : Nat) : (ends l i).length = i + 1 := by simp [ends]
theorem ends_rd (l : List (List Int)) (i j : Nat) (h : j ≤ i) : rd (ends l i) (j : Int) = en l j := by
  rw [rd_nat, List.getD_eq_getElem?_getD]
  simp [ends, show j < i + 1 by omega]
theorem ends_succ (l : List (List Int)) (i : Nat) : ends l (i + 1) = ends l i ++ [(en l (i + 1) : Int)] := by
  unfold ends
  rw [List.range_succ, List.map_append]
  rfl
theorem take_succ' {l : List (List Int)} {i : Nat} (h : i < l.length) : l.take (i + 1) = l.take i ++ [l[i]] := by rw [List.take_succ_eq_append_getElem h]
theorem en_succ {l : List (List Int)} {i : Nat} (h : i < l.length) : elog (l.take (i + 1)) = elog (l.take i) ++ enc l[i] := by
  rw [take_succ' h, encs_app]; simp [elog]
theorem en_le {l : List (List Int)} (h : ∀ e ∈ l, e.length ≤ 100) : ∀ i, i ≤ l.length → en l i ≤ i * 104
  | 0, _ => by simp [en, elog]
  | i + 1, hi => by
    have h1 := en_le h i (by omega)
    have h2 := h _ (List.getElem_mem (show i < l.length by omega))
    unfold en at h1 ⊢
    rw [en_succ (by omega), List.length_append, enc_len]
    omega
section
variable {l : List (List Int)} {more : List Int} {cut : Int} (hB : ∀ e ∈ l, Bs e) (hM : Bs more) (hl : l.length ≤ 30) (hm : more.length ≤ 1000)
include hB hM hl hm
theorem j6_ev (hg : ∀ e ∈ l, 1 ≤ e.length ∧ e.length ≤ 100) : Ev (fun k => bailiwicklaw20_LogPrefix.j6 k l more (elog l) false) true := by
  have hbl := en_le (fun e he => (hg e he).2) l.length (Nat.le_refl _)
  unfold en at hbl
  rw [List.take_length] at hbl
  obtain ⟨fs, m, rb⟩ := Rd.total _ more (Nat.le_refl _)
  have ra := Rd.wholelog (l := l) (fun e he => ⟨(hg e he).1, by have := (hg e he).2; omega⟩)
  have hles := rb.le
  have bl := encs_bs hB
  have rj := ra.joins rfl rb
  refine Ev.step (f := fun k => (log_Read.f k (elog l ++ more)).bind fun bt => if bt.2 ≥ ((elog l).length : Int) then (if (bt.1.length : Int) ≥ (l.length : Int) then ((bailiwickref20_Same.f k (bt.1.take l.length) l).bind fun t => some t) else some false) else some false) (fun k => ?_) ?_
  · simp only [bailiwicklaw20_LogPrefix.j6, Bool.false_eq_true, if_false, List.nil_append, List.length_nil, Nat.zero_add, Option.bind_some, if_pos (show (elog l).length < 140737488355328 by omega), if_pos (show (elog l).length + more.length < 140737488355328 by omega), Int.toNat_natCast]
    refine congrArg _ (funext fun bt => ?_)
    by_cases c1 : bt.2 ≥ ((elog l).length : Int)
    · rw [if_pos c1, if_pos c1]
      by_cases c2 : (bt.1.length : Int) ≥ (l.length : Int)
      · rw [if_pos c2, if_pos c2, if_pos (by omega), if_pos (by omega)]
      · rw [if_neg c2, if_neg c2]
    · rw [if_neg c1, if_neg c1]
  · refine Ev.bind (read_ev (bl.append hM) (by rw [List.length_append]; omega) rj) ?_
    simp only [if_pos (show (((elog l).length + m : Nat) : Int) ≥ ((elog l).length : Int) by omega), if_pos (show ((l ++ fs).length : Int) ≥ (l.length : Int) by rw [List.length_append]; omega), List.take_left]
    refine Ev.bind (same_ev hB hB (by omega)) ?_
    simp only [decide_true]
    exact Ev.now _
theorem j5_ev (hg : ∀ e ∈ l, 1 ≤ e.length ∧ e.length ≤ 100) (a w : Nat) (hw : w ≤ l.length) (h1 : en l w ≤ a) (h2 : w < l.length → a < en l (w + 1)) (ha : a ≤ (elog l).length) : Ev (fun k => bailiwicklaw20_LogPrefix.j5 k l more (elog l) (ends l l.length) (a : Int) (w : Int)) true := by
  have hbl := en_le (fun e he => (hg e he).2) l.length (Nat.le_refl _)
  unfold en at hbl
  rw [List.take_length] at hbl
  have bl := encs_bs hB
  have hgw : ∀ e ∈ l.take w, 1 ≤ e.length ∧ e.length ≤ 4096 := fun e he => ⟨(hg e (List.mem_of_mem_take he)).1, by have := (hg e (List.mem_of_mem_take he)).2; omega⟩
  have rw_ : Rd ((elog l).take a) (l.take w) (en l w) := by
    have e : elog l = elog (l.take w) ++ elog (l.drop w) := by rw [← encs_app, List.take_append_drop]
    have ea : (elog l).take a = elog (l.take w) ++ (elog (l.drop w)).take (a - en l w) := by
      rw [e, List.take_append, List.take_of_length_le (by exact h1)]; rfl
    rw [ea]
    have key := (Rd.wholelog hgw).joins (b := (elog (l.drop w)).take (a - en l w)) (fs := []) (m := 0) rfl (.stop (by
      by_cases hlt : w < l.length
      · have h3 := h2 hlt
        have he := hg _ (List.getElem_mem hlt)
        have e2 : en l (w + 1) = en l w + (l[w].length + 4) := by unfold en; rw [en_succ hlt, List.length_append, enc_len]
        have e3 : elog (l.drop w) = enc l[w] ++ elog (l.drop (w + 1)) := by rw [List.drop_eq_getElem_cons hlt]; rfl
        rw [e3, List.take_append_of_le_length (by rw [enc_len]; omega)]
        exact cut_not_nok he.1 (by omega) (by omega)
      · rw [List.drop_eq_nil_of_le (by omega)]
        intro h
        have := h.1
        simp [elog] at this))
    simpa [en] using key
  have hBw : ∀ e ∈ l.take w, Bs e := fun e he => hB e (List.mem_of_mem_take he)
  refine Ev.step (f := fun k => (log_Read.f k ((elog l).take a)).bind fun bt => if bt.2 = (en l w : Int) then ((bailiwickref20_Same.f k bt.1 (l.take w)).bind fun t => bailiwicklaw20_LogPrefix.j6 k l more (elog l) (!t)) else bailiwicklaw20_LogPrefix.j6 k l more (elog l) true) (fun k => ?_) ?_
  · simp only [bailiwicklaw20_LogPrefix.j5, if_pos (show (0 : Int) ≤ (a : Int) by omega), if_pos (show (a : Int) ≤ ((elog l).length : Int) by omega), if_pos (show (0 : Int) ≤ (w : Int) by omega), if_pos (show (w : Int) < ((ends l l.length).length : Int) by rw [ends_len]; omega), if_pos (show (w : Int) ≤ (l.length : Int) by omega), Int.toNat_natCast, ends_rd l l.length w hw]
  · refine Ev.bind (read_ev (bl.take a) (by rw [List.length_take]; omega) rw_) ?_
    simp only [if_true]
    refine Ev.bind (same_ev hBw hBw (by rw [List.length_take]; omega)) ?_
    simp only [decide_true, Bool.not_true]
    exact j6_ev hB hM hl hm hg
theorem l1_ev (hg : ∀ e ∈ l, 1 ≤ e.length ∧ e.length ≤ 100) (a : Nat) (ha : a ≤ (elog l).length) : ∀ (d w : Nat), l.length - w = d → w ≤ l.length → en l w ≤ a → Ev (fun k => bailiwicklaw20_LogPrefix.l1 k l more (elog l) (ends l l.length) (a : Int) (w : Int)) true
  | 0, w, hd, hw, h1 => by
    refine Ev.step (fun k => ?_) (j5_ev hB hM hl hm hg a w hw h1 (fun h => by omega) ha)
    simp only [bailiwicklaw20_LogPrefix.l1]
    rw [if_neg (by omega)]
  | d + 1, w, hd, hw, h1 => by
    have e1 : wrap64 ((w : Int) + 1) = ((w + 1 : Nat) : Int) := by rw [w64 (by omega) (by omega)]; rfl
    by_cases hc : en l (w + 1) ≤ a
    · refine Ev.step (fun k => ?_) (l1_ev hg a ha d (w + 1) (by omega) (by omega) hc)
      simp only [bailiwicklaw20_LogPrefix.l1]
      rw [if_pos (by omega), e1, if_pos (by omega), if_pos (by rw [ends_len]; omega), ends_rd l l.length (w + 1) (by omega), if_pos (by omega)]
    · refine Ev.step (fun k => ?_) (j5_ev hB hM hl hm hg a w hw h1 (fun h => by omega) ha)
      simp only [bailiwicklaw20_LogPrefix.l1]
      rw [if_pos (by omega), e1, if_pos (by omega), if_pos (by rw [ends_len]; omega), ends_rd l l.length (w + 1) (by omega), if_neg (by omega)]
theorem j3_ev (hc : 0 ≤ cut ∧ cut ≤ 65535) (hg : ∀ e ∈ l, 1 ≤ e.length ∧ e.length ≤ 100) : Ev (fun k => bailiwicklaw20_LogPrefix.j3 k l cut more (elog l) (ends l l.length) false) true := by
  have hbl := en_le (fun e he => (hg e he).2) l.length (Nat.le_refl _)
  unfold en at hbl
  rw [List.take_length] at hbl
  have hp : (0 : Int) ≤ cut % (((elog l).length : Int) + 1) ∧ cut % (((elog l).length : Int) + 1) < ((elog l).length : Int) + 1 := ⟨Int.emod_nonneg _ (by omega), Int.emod_lt_of_pos _ (by omega)⟩
  obtain ⟨a, ha⟩ : ∃ a : Nat, cut % (((elog l).length : Int) + 1) = a := ⟨_, (Int.toNat_of_nonneg hp.1).symm⟩
  have e1 : wrap64 (((elog l).length : Int) + 1) = ((elog l).length : Int) + 1 := w64 (by omega) (by omega)
  have e2 : wrap64 cut = cut := w64 (by omega) (by omega)
  have e3 : Int.tmod cut (((elog l).length : Int) + 1) = a := by rw [Int.tmod_eq_emod_of_nonneg (by omega)]; exact ha
  refine Ev.step (fun k => ?_) (l1_ev hB hM hl hm hg a (by rw [ha] at hp; omega) l.length 0 (by omega) (by omega) (by simp [en, elog]))
  simp only [bailiwicklaw20_LogPrefix.j3, Bool.false_eq_true, if_false]
  rw [e1, e2, e3, if_neg (by omega)]
  rfl
theorem l0_ev (hc : 0 ≤ cut ∧ cut ≤ 65535) : ∀ (d i : Nat), l.length - i = d → i ≤ l.length → (∀ e ∈ l.take i, 1 ≤ e.length ∧ e.length ≤ 100) → Ev (fun k => bailiwicklaw20_LogPrefix.l0 k l cut more (elog (l.take i)) (ends l i) (i : Int)) true
  | 0, i, hd, hi, hg => by
    have hil : i = l.length := by omega
    subst hil
    rw [List.take_length] at hg ⊢
    have hbl := en_le (fun e he => (hg e he).2) l.length (Nat.le_refl _)
    unfold en at hbl
    rw [List.take_length] at hbl
    refine Ev.step (f := fun k => (log_Read.f k (elog l)).bind fun bt => if bt.2 = ((elog l).length : Int) then ((bailiwickref20_Same.f k bt.1 l).bind fun t => bailiwicklaw20_LogPrefix.j3 k l cut more (elog l) (ends l l.length) (!t)) else bailiwicklaw20_LogPrefix.j3 k l cut more (elog l) (ends l l.length) true) (fun k => ?_) ?_
    · simp only [bailiwicklaw20_LogPrefix.l0]
      rw [if_neg (by omega)]
    · refine Ev.bind (read_ev (encs_bs hB) (by omega) (Rd.wholelog (fun e he => ⟨(hg e he).1, by have := (hg e he).2; omega⟩))) ?_
      simp only [if_true]
      refine Ev.bind (same_ev hB hB (by omega)) ?_
      simp only [decide_true, Bool.not_true]
      exact j3_ev hB hM hl hm hc hg
  | d + 1, i, hd, hi, hg => by
    have hlt : i < l.length := by omega
    have er : rd_L1 l (i : Int) = l[i] := by unfold rd_L1; rw [List.getD_eq_getElem?_getD]; simp [hlt]
    have yes : Ev (fun k => bailiwicklaw20_LogPrefix.j2 k l cut more (elog (l.take i)) (ends l i) (i : Int) true) true :=
      Ev.step (f := fun _ => some true) (fun k => by simp only [bailiwicklaw20_LogPrefix.j2, if_true]) (Ev.now _)
    by_cases c1 : (l[i].length : Int) < 1
    · refine Ev.step (fun k => ?_) yes
      simp only [bailiwicklaw20_LogPrefix.l0]
      rw [if_pos (by omega), if_pos (by omega), er, if_pos c1]
    by_cases c2 : (l[i].length : Int) > 100
    · refine Ev.step (fun k => ?_) yes
      simp only [bailiwicklaw20_LogPrefix.l0]
      rw [if_pos (by omega), if_pos (by omega), er, if_neg c1]
      simp [c2]
    have hbl := en_le (l := l.take i) (fun e he => (hg e he).2) i (by rw [List.length_take]; omega)
    unfold en at hbl
    rw [List.take_take, Nat.min_self] at hbl
    have hg' : ∀ e ∈ l.take (i + 1), 1 ≤ e.length ∧ e.length ≤ 100 := by
      intro e he
      rw [take_succ' hlt] at he
      rcases List.mem_append.1 he with he | he
      · exact hg e he
      · rw [List.mem_singleton.1 he]; omega
    have hBi := encs_bs (l := l.take i) (fun e he => hB e (List.mem_of_mem_take he))
    have hadd := add_ev (elog (l.take i)) l[i] hBi (hB _ (List.getElem_mem hlt)) (by omega) (by omega) (by omega)
    rw [← en_succ hlt] at hadd
    have hen : en l (i + 1) = (elog (l.take i)).length + (l[i].length + 4) := by unfold en; rw [en_succ hlt, List.length_append, enc_len]
    refine Ev.step (f := fun k => bailiwicklaw20_LogPrefix.j2 k l cut more (elog (l.take i)) (ends l i) (i : Int) false) (fun k => ?_) ?_
    · simp only [bailiwicklaw20_LogPrefix.l0]
      rw [if_pos (by omega), if_pos (by omega), er, if_neg c1]
      simp [c2]
    refine Ev.step (f := fun k => (log_Add.f k (elog (l.take i)) l[i]).bind fun bt => if bt.2 = 0 then (if (bt.1.length : Int) = (elog (l.take i)).length + (l[i].length : Int) + 4 then bailiwicklaw20_LogPrefix.l0 k l cut more bt.1 (ends l i ++ [(bt.1.length : Int)]) ((i + 1 : Nat) : Int) else some false) else some false) (fun k => ?_) ?_
    · have e1 : wrap64 ((i : Int) + 1) = ((i + 1 : Nat) : Int) := by rw [w64 (by omega) (by omega)]; rfl
      have e2 : wrap64 (wrap64 (((elog (l.take i)).length : Int) + (l[i].length : Int)) + 4) = (elog (l.take i)).length + (l[i].length : Int) + 4 := by rw [w64 (n := ((elog (l.take i)).length : Int) + (l[i].length : Int)) (by omega) (by omega), w64 (by omega) (by omega)]
      have q1 : (ends l i).length < 17592186044416 := by rw [ends_len]; clear e1 e2; omega
      have q2 : (0 : Int) ≤ (i : Int) := by clear e1 e2; omega
      have q3 : (i : Int) < (l.length : Int) := by clear e1 e2; omega
      simp only [bailiwicklaw20_LogPrefix.j2, Bool.false_eq_true, if_false, er, e1, e2, if_pos q1, if_pos q2, if_pos q3]
    · refine Ev.bind hadd ?_
      have q : ((elog (l.take (i + 1))).length : Int) = (elog (l.take i)).length + (l[i].length : Int) + 4 := by unfold en at hen; omega
      simp only [if_true, if_pos q]
      have := l0_ev hc d (i + 1) (by omega) (by omega) hg'
      rw [ends_succ] at this
      exact this
end
theorem LogPrefix : bailiwicklaw20_LogPrefix.Pure := by
  intro l0 a1 l2 h0 h1 h2
  refine Ev.rounds (g := fun k => bailiwicklaw20_LogPrefix.f k l0 a1 l2) ?_
  have hB : ∀ e ∈ l0, Bs e := fun e he => Bs.of (h0.2.2 e he).2.2
  have hM := Bs.of h2.2.2
  have hc := wf_u16.1 h1
  simp only [bailiwicklaw20_LogPrefix.f, bailiwicklaw20_awake.f, Option.bind_some, if_true]
  have yes : ∀ (h : Bool), h = true → Ev (fun k => bailiwicklaw20_LogPrefix.j0 k l0 a1 l2 h) true := by
    rintro _ rfl
    refine Ev.step (f := fun _ => some true) (fun k => ?_) (Ev.now _)
    simp only [bailiwicklaw20_LogPrefix.j0, if_true]
  by_cases c1 : (l0.length : Int) > 30
  · simp only [if_pos c1]; exact yes _ rfl
  simp only [if_neg c1]
  by_cases c2 : (l2.length : Int) > 1000
  · exact yes _ (by simpa using c2)
  have e : decide ((l2.length : Int) > 1000) = false := by simpa using c2
  rw [e]
  refine Ev.step (fun k => ?_) (l0_ev (l := l0) (more := l2) (cut := a1) hB hM (by omega) (by omega) hc l0.length 0 (by omega) (by omega) (by simp))
  simp only [bailiwicklaw20_LogPrefix.j0, Bool.false_eq_true, if_false]
  rfl
end Go.Proofs.Ytpnfmaphlfobpaa.Pure
