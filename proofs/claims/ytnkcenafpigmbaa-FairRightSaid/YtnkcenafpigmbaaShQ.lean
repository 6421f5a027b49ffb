/- share: Bonus; the reference's. -/
import Derived.Test.YtnkcenafpigmbaaShP
import Derived.Test.YtnkcenafpigmbaaAbXs
namespace Go.Proofs.Ytnkcenafpigmbaa.Ab
open Go.RowKit Go.Proofs.Ytnkcenafpigmbaa.Fl
set_option linter.unusedVariables false
set_option linter.unusedSimpArgs false

theorem bonus1_c (u : Use) (who : Int) : ACalls Try.prog 68 [useSV u, .ref (.agg [iv who]) 0] (· = .one (.sv (bv (u.who == who)))) := by
  refine ACalls.of_bodyS (fun _ _ => Try.call68 _ _) Try.func68 rfl Try.ntmps68 (by simp) ?_
  refine Tr.ex ?_
  simp [go_sem]
/-- The first place of somebody. -/
def atU (l : List Use) (who : Int) : Nat := l.findIdx fun u => u.who == who
theorem atU_le (l : List Use) (who : Int) : atU l who ≤ l.length := List.findIdx_le_length
theorem atU_iff {l : List Use} {who : Int} {i : Nat} (hi : i ≤ l.length) (hn : ∀ (j : Nat) (u : Use), j < i → l[j]? = some u → ¬ u.who = who) (h : ∀ u, l[i]? = some u → u.who = who) : atU l who = i := by
  rcases Nat.lt_or_ge i l.length with q | q
  · have e := List.getElem?_eq_getElem q
    refine (List.findIdx_eq q).2 ⟨by simpa using h _ e, fun j hj => ?_⟩
    have := hn j l[j] hj (List.getElem?_eq_getElem (by omega))
    simpa using this
  · have : i = l.length := by omega
    subst this
    refine List.findIdx_eq_length.2 fun u hu => ?_
    obtain ⟨j, hj⟩ := List.getElem?_of_mem hu
    have := hn j u (List.getElem?_eq_some_iff.1 hj).1 hj
    simpa using this
def atI (l : List Use) (who : Int) : Int := if atU l who < l.length then (atU l who : Int) else -1
theorem IndexU_c (l : List Use) (f : FuncId) (caps : List SV) (who : Int) (hl : l.length ≤ 1000000000) (hp : ∀ u, ACalls Try.prog f ([useSV u] ++ caps) (· = .one (.sv (bv (u.who == who))))) : ACalls Try.prog 65 [uses l, .fn f caps] (· = .one (.sv (iv (atI l who)))) := by
  refine ACalls.of_bodyS (fun _ _ => Try.call65 _ _) Try.func65 rfl Try.ntmps65 (by simp) ?_
  refine Tr.ex ?_
  have hat := @atU_iff l who
  unfold atI
  generalize atU l who = t at *
  simp [go_sem]
  refine LoopW.of (fun i : Nat => ⟨19, [(0, .sv (uses l)), (1, .sv (.fn f caps)), (4, .sv (iv 0)), (7, .sv (iv l.length)), (8, .sv (iv i))], []⟩)
    (fun i => i ≤ l.length ∧ ∀ (j : Nat) (u : Use), j < i → l[j]? = some u → ¬ u.who = who) (fun i => l.length - i) 0 ⟨by omega, fun j u h => by omega⟩ (Ent.chk (by simp [go_sem])) ?_
  rintro i ⟨hi, hn⟩
  by_cases hlt : i < l.length
  · have hlt' : (i : Int) < l.length := by omega
    have hw : IntKind.i64.wrap ((i : Int) + 1) = (i : Int) + 1 := by rw [i64w] <;> omega
    obtain ⟨u, hu⟩ : ∃ u, l[i]? = some u := ⟨_, List.getElem?_eq_getElem hlt⟩
    have hc := hp u
    simp [go_sem, hlt, hlt', hu, gE hu]
    refine OpW.call (g := f) (caps := caps) (ys := [useSV u]) true hc rfl rfl (by simp [go_sem]) (by simp [go_sem]) (by rintro _ r rfl; simp [go_sem]) ?_
    rintro r rfl
    by_cases q : u.who = who
    · have h3 := hat hi hn (fun v hv => by rw [hu] at hv; rw [← Option.some.inj hv]; exact q)
      have e : (u.who == who) = true := by simpa using q
      subst h3
      simp [go_sem, e, hlt]
    · have e : (u.who == who) = false := by simpa using q
      simp [go_sem, e]
      exact ⟨i + 1, ⟨by omega, fun j v hj hv => by
        by_cases hji : j = i
        · subst hji; rw [hu] at hv; rw [← Option.some.inj hv]; exact q
        · exact hn j v (by omega) hv⟩, by omega, Ent.chk (by simp [go_sem, hw])⟩
  · have hil : i = l.length := by omega
    subst hil
    have h3 := hat hi hn (fun v hv => by rw [List.getElem?_eq_none (Nat.le_refl _)] at hv; cases hv)
    subst h3
    simp [go_sem]
/-- How many others have had more. -/
def moreB (who : Int) (own : Nat) (u : Use) : Bool := decide (u.who ≠ who ∧ own < shr u)
def moreN (l : List Use) (who : Int) (own : Nat) : Nat := l.countP (moreB who own)
theorem moreN_take {l : List Use} {who : Int} {own i : Nat} {u : Use} (h : l[i]? = some u) : moreN (l.take (i + 1)) who own = moreN (l.take i) who own + (if u.who ≠ who ∧ own < shr u then 1 else 0) := by
  have hi := (List.getElem?_eq_some_iff.1 h).1
  unfold moreN
  rw [List.take_succ_eq_append_getElem hi, gE h, List.countP_append]
  congr 1
  unfold moreB
  by_cases q : u.who ≠ who ∧ own < shr u <;> simp [q]
theorem moreN_le (l : List Use) (who : Int) (own : Nat) (i : Nat) : moreN (l.take i) who own ≤ i := by
  unfold moreN
  have := List.countP_le_length (p := moreB who own) (l := l.take i)
  rw [List.length_take] at this
  omega
def bonusN (l : List Use) (who : Int) : Nat := if atU l who < l.length then moreN l who (shr (uz l (atU l who))) else 0
set_option maxHeartbeats 4000000 in
set_option maxRecDepth 100000 in
theorem Bonus_c (l : List Use) (who : Int) (hl : l.length ≤ 10000000) (hw : UsesW l) : ACalls Try.prog 34 [uses l, iv who] (· = .one (.sv (iv (bonusN l who)))) := by
  refine ACalls.of_bodyS (fun _ _ => Try.call34 _ _) Try.func34 rfl Try.ntmps34 (by simp) ?_
  refine Tr.ex ?_
  have hix := IndexU_c l 68 [.ref (.agg [iv who]) 0] who (by omega) (fun u => bonus1_c u who)
  unfold bonusN
  have hle := atU_le l who
  unfold atI at hix
  generalize atU l who = t at *
  by_cases hlt : t < l.length
  case neg =>
    rw [if_neg hlt] at hix ⊢
    simp [go_sem]
    refine OpW.fnD 1 hix rfl (by simp [go_sem]) (by simp [go_sem]) (by rintro r rfl; simp [go_sem]) ?_
    rintro r rfl
    simp [go_sem]
  case pos =>
  rw [if_pos hlt] at hix
  simp [go_sem]
  refine OpW.fnD 1 hix rfl (by simp [go_sem]) (by simp [go_sem]) (by rintro r rfl; simp [go_sem]) ?_
  rintro r rfl
  have hlt' : (t : Int) < l.length := by omega
  have ht0 : ¬ (t : Int) < 0 := by omega
  obtain ⟨o, ho⟩ : ∃ u, l[t]? = some u := ⟨_, List.getElem?_eq_getElem hlt⟩
  have hown := Share_c o (hw o (List.mem_of_getElem? ho))
  have hsl := shr_le o
  rw [if_pos hlt, uz_at ho]
  generalize shr o = own at *
  simp [go_sem, ht0, hlt, hlt', ho, gE ho]
  refine OpW.fn true hown rfl rfl (by simp [go_sem]) (by rintro _ r rfl; simp [go_sem]) ?_
  rintro r rfl
  simp [go_sem]
  refine LoopW.of (fun i : Nat => ⟨40, [(3, .box 3 0), (4, .sv (iv 0)), (6, .sv (fv own)), (7, .sv (iv (moreN (l.take i) who own))), (20, .sv (uses l)), (21, .sv (iv l.length)), (22, .sv (iv i))], [(3, .box [.sv (iv who)])]⟩)
    (fun i => i ≤ l.length) (fun i => l.length - i) 0 (by omega) (Ent.chk (by simp [go_sem, moreN])) ?_
  intro i hi
  by_cases hit : i < l.length
  · have hit' : (i : Int) < l.length := by omega
    have hwi : IntKind.i64.wrap ((i : Int) + 1) = (i : Int) + 1 := by rw [i64w] <;> omega
    obtain ⟨u, hu⟩ : ∃ u, l[i]? = some u := ⟨_, List.getElem?_eq_getElem hit⟩
    have hmt := moreN_take (who := who) (own := own) hu
    have hml := moreN_le l who own i
    have hwc : IntKind.i64.wrap ((moreN (l.take i) who own : Int) + 1) = (moreN (l.take i) who own : Int) + 1 := by rw [i64w] <;> omega
    have hsu := Share_c u (hw u (List.mem_of_getElem? hu))
    have hfg := fGt_fin (shr_le u) hsl
    generalize hc' : moreN (l.take (i + 1)) who own = c' at *
    generalize hc : moreN (l.take i) who own = c at *
    generalize hs : shr u = s at *
    by_cases q : u.who = who
    · have e : (u.who != who) = false := by simpa using q
      rw [if_neg (by simp [q])] at hmt
      simp [go_sem, hit, hit', hu, gE hu, e, q]
      exact ⟨i + 1, by omega, by omega, Ent.chk (by simp [go_sem, hwi, hc', hmt])⟩
    · have e : (u.who != who) = true := by simpa using q
      simp [go_sem, hit, hit', hu, gE hu, e, q]
      refine OpW.fn true hsu rfl rfl (by simp [go_sem]) (by rintro _ r rfl; simp [go_sem]) ?_
      rintro r rfl
      by_cases q2 : own < s
      · rw [if_pos ⟨q, q2⟩] at hmt
        rw [decide_eq_true q2] at hfg
        simp [go_sem, hfg]
        exact ⟨i + 1, by omega, by omega, Ent.chk (by simp [go_sem, hwi, hwc, hc', hmt])⟩
      · rw [if_neg (fun h => q2 h.2)] at hmt
        rw [decide_eq_false q2] at hfg
        simp [go_sem, hfg]
        exact ⟨i + 1, by omega, by omega, Ent.chk (by simp [go_sem, hwi, hc', hmt])⟩
  · have hil : i = l.length := by omega
    subst hil
    rw [List.take_length]
    simp [go_sem]
set_option maxHeartbeats 4000000 in
set_option maxRecDepth 100000 in
theorem rBonus_c (l : List Use) (who : Int) (hl : l.length ≤ 10000000) (hw : UsesW l) : ACalls Try.prog 63 [uses l, iv who] (· = .one (.sv (iv (bonusN l who)))) := by
  refine ACalls.of_bodyS (fun _ _ => Try.call63 _ _) Try.func63 rfl Try.ntmps63 (by simp) ?_
  refine Tr.ex ?_
  have hat := @atU_iff l who
  unfold bonusN
  generalize atU l who = t at *
  simp [go_sem]
  refine LoopW.of (fun i : Nat => ⟨50, [(0, .sv (uses l)), (1, .sv (iv who)), (4, .sv (iv 0)), (5, .sv (iv i))], []⟩)
    (fun i => i ≤ l.length ∧ ∀ (j : Nat) (u : Use), j < i → l[j]? = some u → ¬ u.who = who) (fun i => l.length - i) 0 ⟨by omega, fun j u h => by omega⟩ (Ent.chk (by simp [go_sem])) ?_
  rintro i ⟨hi, hn⟩
  by_cases hlt : i < l.length
  case neg =>
    have hil : i = l.length := by omega
    subst hil
    have h3 := hat hi hn (fun v hv => by rw [List.getElem?_eq_none (Nat.le_refl _)] at hv; cases hv)
    subst h3
    simp [go_sem]
  case pos =>
  have hlt' : (i : Int) < l.length := by omega
  have hw1 : IntKind.i64.wrap ((i : Int) + 1) = (i : Int) + 1 := by rw [i64w] <;> omega
  obtain ⟨o, ho⟩ : ∃ u, l[i]? = some u := ⟨_, List.getElem?_eq_getElem hlt⟩
  by_cases q : o.who = who
  case neg =>
    have e : (o.who != who) = true := by simpa using q
    simp [go_sem, hlt, hlt', ho, gE ho, e, q]
    exact ⟨i + 1, ⟨by omega, fun j v hj hv => by
      by_cases hji : j = i
      · subst hji; rw [ho] at hv; rw [← Option.some.inj hv]; exact q
      · exact hn j v (by omega) hv⟩, by omega, Ent.chk (by simp [go_sem, hw1])⟩
  case pos =>
  have e : (o.who != who) = false := by simpa using q
  have h3 := hat hi hn (fun v hv => by rw [ho] at hv; rw [← Option.some.inj hv]; exact q)
  subst h3
  have hown := rShare_c o (hw o (List.mem_of_getElem? ho))
  have hsl := shr_le o
  rw [if_pos hlt, uz_at ho]
  generalize shr o = own at *
  simp [go_sem, hlt, hlt', ho, gE ho, e, q]
  refine LoopW.of (fun k : Nat => ⟨50, [(0, .sv (uses l)), (1, .sv (iv who)), (4, .sv (iv 0)), (5, .sv (iv t)), (6, .sv (iv (moreN (l.take k) who own))), (7, .sv (iv k))], []⟩)
    (fun k => k ≤ l.length) (fun k => l.length - k) 0 (by omega) (Ent.chk (by simp [go_sem, moreN])) ?_
  intro k hk
  by_cases hit : k < l.length
  · have hit' : (k : Int) < l.length := by omega
    have hwi : IntKind.i64.wrap ((k : Int) + 1) = (k : Int) + 1 := by rw [i64w] <;> omega
    obtain ⟨u, hu⟩ : ∃ u, l[k]? = some u := ⟨_, List.getElem?_eq_getElem hit⟩
    have hmt := moreN_take (who := who) (own := own) hu
    have hml := moreN_le l who own k
    have hwc : IntKind.i64.wrap ((moreN (l.take k) who own : Int) + 1) = (moreN (l.take k) who own : Int) + 1 := by rw [i64w] <;> omega
    have hsu := rShare_c u (hw u (List.mem_of_getElem? hu))
    have hfg := fGt_fin (shr_le u) hsl
    generalize hc' : moreN (l.take (k + 1)) who own = c' at *
    generalize hc : moreN (l.take k) who own = c at *
    generalize hs : shr u = s at *
    by_cases q3 : u.who = who
    · have e3 : (u.who != who) = false := by simpa using q3
      rw [if_neg (by simp [q3])] at hmt
      simp [go_sem, hit, hit']
      refine DrawW.rd rfl ?_
      simp [go_sem, hit, hit', hu, gE hu, e3, q3]
      refine ⟨by kernel_rfl, ?_⟩
      exact ⟨k + 1, by omega, by omega, Ent.chk (by simp [go_sem, hwi, hc', hmt])⟩
    · have e3 : (u.who != who) = true := by simpa using q3
      simp [go_sem, hit, hit']
      refine DrawW.rd rfl ?_
      simp [go_sem, hit, hit', hu, gE hu, e3, q3]
      refine OpD.call true hsu rfl rfl (by simp [go_sem]) (by intro _; simp [go_sem]) (by simp [go_sem]) (by simp [go_sem]) ?_
      simp [go_sem, hlt, hlt', ho, gE ho]
      refine OpD.call true hown rfl rfl (by simp [go_sem]) (by intro _; simp [go_sem]) (by simp [go_sem]) (by simp [go_sem]) ?_
      by_cases q2 : own < s
      · rw [if_pos ⟨q3, q2⟩] at hmt
        rw [decide_eq_true q2] at hfg
        simp [go_sem, hfg]
        refine ⟨by kernel_rfl, ?_⟩
        exact ⟨k + 1, by omega, by omega, Ent.chk (by simp [go_sem, hwi, hwc, hc', hmt])⟩
      · rw [if_neg (fun h => q2 h.2)] at hmt
        rw [decide_eq_false q2] at hfg
        simp [go_sem, hfg]
        refine ⟨by kernel_rfl, ?_⟩
        exact ⟨k + 1, by omega, by omega, Ent.chk (by simp [go_sem, hwi, hc', hmt])⟩
  · have hil : k = l.length := by omega
    subst hil
    rw [List.take_length]
    simp [go_sem]
end Go.Proofs.Ytnkcenafpigmbaa.Ab
