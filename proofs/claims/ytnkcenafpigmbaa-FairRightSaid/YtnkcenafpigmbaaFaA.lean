/- fair: whose a job is. -/
import Derived.Test.YtnkcenafpigmbaaTy2
import Derived.Test.YtnkcenafpigmbaaTy1
import Derived.Test.YtnkcenafpigmbaaAbXs
namespace Go.Proofs.Ytnkcenafpigmbaa.Ab
open Go.RowKit
set_option linter.unusedVariables false
set_option linter.unusedSimpArgs false

structure Owned where
  id : Int
  who : Int
  deriving Inhabited
def ownedSV (o : Owned) : SV := .agg [iv o.id, iv o.who]
def owneds (l : List Owned) : SV := .lst (l.map ownedSV)
attribute [go_sem] ownedSV owneds
def atO (l : List Owned) (id : Int) : Nat := l.findIdx fun o => o.id == id
theorem atO_le (l : List Owned) (id : Int) : atO l id ≤ l.length := List.findIdx_le_length
theorem atO_iff {l : List Owned} {id : Int} {i : Nat} (hi : i ≤ l.length) (hn : ∀ (j : Nat) (u : Owned), j < i → l[j]? = some u → ¬ u.id = id) (h : ∀ u, l[i]? = some u → u.id = id) : atO l id = i := by
  rcases Nat.lt_or_ge i l.length with q | q
  · have e := List.getElem?_eq_getElem q
    refine (List.findIdx_eq q).2 ⟨by simpa using h _ e, fun j hj => ?_⟩
    have := hn j l[j] hj (List.getElem?_eq_getElem (by omega))
    simpa using this
  · have : i = l.length := by omega
    subst this
    refine List.findIdx_eq_length.2 fun u hu => ?_
    obtain ⟨j, hj⟩ := List.getElem?_of_mem hu
    have := hn j u (List.getElem?_eq_some_iff.1 hj).1 hj
    simpa using this
/-- Whose a job is. -/
def whoO (l : List Owned) (id : Int) : Int := ((l[atO l id]?).map Owned.who).getD 0
theorem whoO_at {l : List Owned} {id : Int} {o : Owned} (h : l[atO l id]? = some o) : whoO l id = o.who := by unfold whoO; rw [h]; rfl
theorem whoO_none {l : List Owned} {id : Int} (h : ¬ atO l id < l.length) : whoO l id = 0 := by unfold whoO; rw [List.getElem?_eq_none (by omega)]; rfl
theorem who1_c (u : Owned) (id : Int) : ACalls Try.prog 59 [ownedSV u, .ref (.agg [iv id]) 0] (· = .one (.sv (bv (u.id == id)))) := by
  refine ACalls.of_bodyS (fun _ _ => Try.call59 _ _) Try.func59 rfl Try.ntmps59 (by simp) ?_
  refine Tr.ex ?_
  simp [go_sem]
theorem IndexO_c (l : List Owned) (f : FuncId) (caps : List SV) (id : Int) (hl : l.length ≤ 1000000000) (hp : ∀ u, ACalls Try.prog f ([ownedSV u] ++ caps) (· = .one (.sv (bv (u.id == id))))) : ACalls Try.prog 58 [owneds l, .fn f caps] (· = .one (.sv (iv (if atO l id < l.length then (atO l id : Int) else -1)))) := by
  refine ACalls.of_bodyS (fun _ _ => Try.call58 _ _) Try.func58 rfl Try.ntmps58 (by simp) ?_
  refine Tr.ex ?_
  have hat := @atO_iff l id
  generalize atO l id = t at *
  simp [go_sem]
  refine LoopW.of (fun i : Nat => ⟨19, [(0, .sv (owneds l)), (1, .sv (.fn f caps)), (4, .sv (iv 0)), (7, .sv (iv l.length)), (8, .sv (iv i))], []⟩)
    (fun i => i ≤ l.length ∧ ∀ (j : Nat) (u : Owned), j < i → l[j]? = some u → ¬ u.id = id) (fun i => l.length - i) 0 ⟨by omega, fun j u h => by omega⟩ (Ent.chk (by simp [go_sem])) ?_
  rintro i ⟨hi, hn⟩
  by_cases hlt : i < l.length
  · have hlt' : (i : Int) < l.length := by omega
    have hw : IntKind.i64.wrap ((i : Int) + 1) = (i : Int) + 1 := by rw [i64w] <;> omega
    obtain ⟨u, hu⟩ : ∃ u, l[i]? = some u := ⟨_, List.getElem?_eq_getElem hlt⟩
    have hc := hp u
    simp [go_sem, hlt, hlt', hu, gE hu]
    refine OpW.call (g := f) (caps := caps) (ys := [ownedSV u]) true hc rfl rfl (by simp [go_sem]) (by simp [go_sem]) (by rintro _ r rfl; simp [go_sem]) ?_
    rintro r rfl
    by_cases q : u.id = id
    · have h3 := hat hi hn (fun v hv => by rw [hu] at hv; rw [← Option.some.inj hv]; exact q)
      have e : (u.id == id) = true := by simpa using q
      subst h3
      simp [go_sem, e, hlt]
    · have e : (u.id == id) = false := by simpa using q
      simp [go_sem, e]
      exact ⟨i + 1, ⟨by omega, fun j v hj hv => by
        by_cases hji : j = i
        · subst hji; rw [hu] at hv; rw [← Option.some.inj hv]; exact q
        · exact hn j v (by omega) hv⟩, by omega, Ent.chk (by simp [go_sem, hw])⟩
  · have hil : i = l.length := by omega
    subst hil
    have h3 := hat hi hn (fun v hv => by rw [List.getElem?_eq_none (Nat.le_refl _)] at hv; cases hv)
    subst h3
    simp [go_sem]
theorem Who_c (l : List Owned) (id : Int) (hl : l.length ≤ 10000000) : ACalls Try.prog 29 [owneds l, iv id] (· = .one (.sv (iv (whoO l id)))) := by
  refine ACalls.of_bodyS (fun _ _ => Try.call29 _ _) Try.func29 rfl Try.ntmps29 (by simp) ?_
  refine Tr.ex ?_
  have hix := IndexO_c l 59 [.ref (.agg [iv id]) 0] id (by omega) (fun u => who1_c u id)
  have hat := @whoO_at l id
  have hno := @whoO_none l id
  generalize whoO l id = y at *
  generalize atO l id = t at *
  by_cases hlt : t < l.length
  case neg =>
    have hy := hno hlt
    subst hy
    rw [if_neg hlt] at hix
    simp [go_sem]
    refine OpW.fnD 1 hix rfl (by simp [go_sem]) (by simp [go_sem]) (by rintro r rfl; simp [go_sem]) ?_
    rintro r rfl
    simp [go_sem]
  case pos =>
  rw [if_pos hlt] at hix
  have hlt' : (t : Int) < l.length := by omega
  have ht0 : ¬ (t : Int) < 0 := by omega
  obtain ⟨o, ho⟩ : ∃ u, l[t]? = some u := ⟨_, List.getElem?_eq_getElem hlt⟩
  have hy := hat ho
  subst hy
  simp [go_sem]
  refine OpW.fnD 1 hix rfl (by simp [go_sem]) (by simp [go_sem]) (by rintro r rfl; simp [go_sem]) ?_
  rintro r rfl
  simp [go_sem, ht0, hlt, hlt', ho, gE ho]
theorem rWho_c (l : List Owned) (id : Int) (hl : l.length ≤ 10000000) : ACalls Try.prog 30 [owneds l, iv id] (· = .one (.sv (iv (whoO l id)))) := by
  refine ACalls.of_bodyS (fun _ _ => Try.call30 _ _) Try.func30 rfl Try.ntmps30 (by simp) ?_
  refine Tr.ex ?_
  have hat := @atO_iff l id
  have hwa := @whoO_at l id
  have hno := @whoO_none l id
  generalize whoO l id = y at *
  generalize atO l id = t at *
  simp [go_sem]
  refine LoopW.of (fun i : Nat => ⟨24, [(0, .sv (owneds l)), (1, .sv (iv id)), (4, .sv (iv 0)), (5, .sv (iv i))], []⟩)
    (fun i => i ≤ l.length ∧ ∀ (j : Nat) (u : Owned), j < i → l[j]? = some u → ¬ u.id = id) (fun i => l.length - i) 0 ⟨by omega, fun j u h => by omega⟩ (Ent.chk (by simp [go_sem])) ?_
  rintro i ⟨hi, hn⟩
  by_cases hlt : i < l.length
  case neg =>
    have hil : i = l.length := by omega
    subst hil
    have h3 := hat hi hn (fun v hv => by rw [List.getElem?_eq_none (Nat.le_refl _)] at hv; cases hv)
    subst h3
    have hy := hno (by omega)
    subst hy
    simp [go_sem]
  case pos =>
  have hlt' : (i : Int) < l.length := by omega
  have hw1 : IntKind.i64.wrap ((i : Int) + 1) = (i : Int) + 1 := by rw [i64w] <;> omega
  obtain ⟨o, ho⟩ : ∃ u, l[i]? = some u := ⟨_, List.getElem?_eq_getElem hlt⟩
  by_cases q : o.id = id
  case neg =>
    have e : (o.id == id) = false := by simpa using q
    simp [go_sem, hlt, hlt', ho, gE ho, e, q]
    exact ⟨i + 1, ⟨by omega, fun j v hj hv => by
      by_cases hji : j = i
      · subst hji; rw [ho] at hv; rw [← Option.some.inj hv]; exact q
      · exact hn j v (by omega) hv⟩, by omega, Ent.chk (by simp [go_sem, hw1])⟩
  case pos =>
  have e : (o.id == id) = true := by simpa using q
  have h3 := hat hi hn (fun v hv => by rw [ho] at hv; rw [← Option.some.inj hv]; exact q)
  subst h3
  have hy := hwa ho
  subst hy
  simp [go_sem, hlt, hlt', ho, gE ho, e, q]
end Go.Proofs.Ytnkcenafpigmbaa.Ab
