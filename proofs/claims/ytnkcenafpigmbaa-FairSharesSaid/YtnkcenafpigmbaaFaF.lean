/- fair: what is charged, plainly. -/
import Derived.Test.YtnkcenafpigmbaaFaE
namespace Go.Proofs.Ytnkcenafpigmbaa.Ab
open Go.RowKit Go.Proofs.Ytnkcenafpigmbaa.Fl
set_option linter.unusedVariables false
set_option linter.unusedSimpArgs false

theorem cut_at {α : Type} (g : α → SV) (l : List α) (k : Nat) : List.take (if (k : Int) < l.length then (k : Int) else (l.length : Int)).toNat (l.map g) = (l.take k).map g := by
  rw [List.map_take]
  split
  · rw [Int.toNat_natCast]
  · rename_i h
    rw [Int.toNat_natCast, List.take_of_length_le (by simp), List.take_of_length_le (by simp; omega)]
theorem atU_who {l : List Use} {who : Int} {u : Use} (h : l[atU l who]? = some u) : u.who = who := by
  obtain ⟨hl, he⟩ := List.getElem?_eq_some_iff.1 h
  have := List.findIdx_getElem (xs := l) (p := fun u : Use => u.who == who) (w := hl)
  have h2 : (l[atU l who].who == who) = true := this
  rw [he] at h2
  simpa using h2
theorem atU_first {l : List Use} {who : Int} {i : Nat} {u : Use} (h : l[i]? = some u) (hw : u.who = who) : atU l who ≤ i := by
  rcases Nat.lt_or_ge i (atU l who) with q | q
  · have h1 := List.not_of_lt_findIdx (xs := l) (p := fun u : Use => u.who == who) q
    have he := gE h (List.getElem?_eq_some_iff.1 h).1
    rw [he] at h1
    exact absurd hw (by simpa using h1)
  · exact q
theorem had2_ge (h x : Nat) : cl h ≤ cl (had2 h x) := by
  have h1 : had2 h x = cl (addF (cl (addF 0 (cl h))) (cl x)) := rfl
  have h2 := addF_ge (s := 0) (by decide) (cl_lt h)
  have h3 : cl h ≤ cl (addF 0 (cl h)) := le_cl h2.2 (cl_lt h) (near_le _ _)
  have h4 := addF_ge (cl_lt (addF 0 (cl h))) (cl_lt x)
  have h5 := le_cl h4.1 (cl_lt _) (near_le _ _)
  rw [h1, cl_cl]
  exact Nat.le_trans h3 h5
theorem chargeU_w {l : List Use} {who : Int} {more : Nat} (hw : UsesW l) : UsesW (chargeU l who more) := by
  have hI : INF < 18446744073709551616 := by decide
  intro u hu
  unfold chargeU at hu
  split at hu
  · rename_i hlt
    rcases List.mem_or_eq_of_mem_set hu with hu | rfl
    · exact hw u hu
    · obtain ⟨v, hv⟩ : ∃ v, l[atU l who]? = some v := ⟨_, List.getElem?_eq_getElem hlt⟩
      rw [uz_at hv]
      exact ⟨Nat.lt_trans (sumF_lt _) hI, (hw v (List.mem_of_getElem? hv)).2⟩
  · rw [List.mem_append, List.mem_singleton] at hu
    rcases hu with hu | rfl
    · exact hw u hu
    · exact ⟨Nat.lt_trans (sumF_lt _) hI, by show (4607182418800017408 : Nat) < _; decide⟩
/-- What was charged, told by places. -/
structure Charged (L n : List Use) (who : Int) (t : Nat) : Prop where
  len : (n.length = L.length ∧ t < L.length) ∨ (n.length = L.length + 1 ∧ t = L.length)
  same : ∀ (i : Nat) (u : Use), i ≠ t → L[i]? = some u → n[i]? = some u
  whose : ∀ u, L[t]? = some u → u.who = who
  first : ∀ (i : Nat) (u : Use), L[i]? = some u → u.who = who → t ≤ i
  rise : ∀ u v, L[t]? = some u → n[t]? = some v → shr u ≤ shr v
  bonus : t < L.length → bonusN n who ≤ bonusN L who
theorem charged (L : List Use) (who : Int) (more : Nat) : Charged L (chargeU L who more) who (atU L who) := by
  have hle := atU_le L who
  have hww := @atU_who L who
  have hfi := @atU_first L who
  by_cases hlt : atU L who < L.length
  · obtain ⟨u, hu⟩ : ∃ v, L[atU L who]? = some v := ⟨_, List.getElem?_eq_getElem hlt⟩
    have hn : chargeU L who more = L.set (atU L who) { u with had := had2 u.had more } := by unfold chargeU; rw [if_pos hlt, uz_at hu]
    have hr : shr u ≤ shr { u with had := had2 u.had more } := shr_rise (had2_ge u.had more)
    have hnt : (chargeU L who more)[atU L who]? = some { u with had := had2 u.had more } := by rw [hn, List.getElem?_set, if_pos rfl, if_pos hlt]
    refine ⟨.inl ⟨by rw [hn, List.length_set], hlt⟩, fun i v hi hv => ?_, fun v hv => hww hv, fun i v => hfi, fun v v' hv hv' => ?_, fun _ => ?_⟩
    · rw [hn, List.getElem?_set, if_neg (by omega)]; exact hv
    · rw [hu] at hv
      rw [hnt] at hv'
      rw [← Option.some.inj hv, ← Option.some.inj hv']
      exact hr
    · have hat : atU (chargeU L who more) who = atU L who := by
        refine atU_iff (by rw [hn, List.length_set]; omega) (fun j v hj hv => ?_) (fun v hv => ?_)
        · rw [hn, List.getElem?_set, if_neg (by omega)] at hv
          exact fun q => by have := hfi hv q; omega
        · rw [hnt] at hv
          rw [← Option.some.inj hv]
          show u.who = who
          exact hww hu
      unfold bonusN
      rw [hat, if_pos hlt, if_pos (by rw [hn, List.length_set]; exact hlt), uz_at hu, uz_at hnt]
      have hd : L = L.take (atU L who) ++ u :: L.drop (atU L who + 1) := by
        have := List.drop_eq_getElem_cons hlt
        rw [gE hu] at this
        rw [← this]
        exact (List.take_append_drop _ _).symm
      have hd2 : chargeU L who more = L.take (atU L who) ++ { u with had := had2 u.had more } :: L.drop (atU L who + 1) := by
        rw [hn, List.set_eq_take_append_cons_drop, if_pos hlt]
      unfold moreN
      have mono : ∀ l : List Use, l.countP (moreB who (shr { u with had := had2 u.had more })) ≤ l.countP (moreB who (shr u)) := fun l =>
        List.countP_mono_left fun v _ h => by
          unfold moreB at h ⊢
          have := of_decide_eq_true h
          exact decide_eq_true ⟨this.1, Nat.lt_of_le_of_lt hr this.2⟩
      rw [hd2]
      conv => rhs; rw [hd]
      rw [List.countP_append, List.countP_append, List.countP_cons, List.countP_cons]
      have z1 : moreB who (shr { u with had := had2 u.had more }) { u with had := had2 u.had more } = false := by unfold moreB; simp
      rw [z1]
      have m1 := mono (L.take (atU L who))
      have m2 := mono (L.drop (atU L who + 1))
      simp only [Bool.false_eq_true, if_false]
      omega
  · have hn : chargeU L who more = L ++ [⟨who, had1 more, 4607182418800017408⟩] := by unfold chargeU; rw [if_neg hlt]
    have ht : atU L who = L.length := by omega
    refine ⟨.inr ⟨by rw [hn]; simp, ht⟩, fun i v hi hv => ?_, fun v hv => hww hv, fun i v => hfi, fun v v' hv hv' => ?_, fun h => absurd h hlt⟩
    · rw [hn, List.getElem?_append_left (List.getElem?_eq_some_iff.1 hv).1]; exact hv
    · rw [List.getElem?_eq_none (by omega)] at hv; cases hv
theorem shr_fade0 (u : Use) : shr (fade1 0 u) = shr u := by
  unfold shr fade1
  have : halvesN 0 = 0 := rfl
  simp only [this, fadeF_zero, cl_cl]
theorem fade_w {l : List Use} (h : Int) (hw : UsesW l) : UsesW (l.map (fade1 h)) := by
  have hI : INF < 18446744073709551616 := by decide
  intro u hu
  obtain ⟨v, hv, rfl⟩ := List.mem_map.1 hu
  exact ⟨Nat.lt_trans (fadeF_lt _ _) hI, (hw v hv).2⟩
end Go.Proofs.Ytnkcenafpigmbaa.Ab
