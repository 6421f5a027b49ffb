/- The abstract layer, part W: rows whose elements are rows that are owned: tags from 2000 on. -/
import Derived.Test.YtfcojlagmmgagaaDoorAbV
namespace Go.Proofs.YtfcojlagmmgagaaDoor.Ab
open Go.RowKit
set_option linter.unusedVariables false
set_option linter.unusedSimpArgs false

/-- Tags of rows, one for each place. -/
def dyn (n : Nat) (K : Nat → Obj') : List (Nat × Obj') := (List.range n).map fun i => (2000 + i, K i)
theorem lk_app {α : Type} : ∀ (l r : List (Nat × α)) (t : Nat), lk (l ++ r) t = match lk l t with | some x => some x | none => lk r t
  | [], r, t => rfl
  | (k, x) :: l, r, t => by
    simp only [List.cons_append, lk]
    split
    · rfl
    · exact lk_app l r t
theorem lk_dyn (n : Nat) (K : Nat → Obj') (t : Nat) : lk (dyn n K) t = if 2000 ≤ t ∧ t < 2000 + n then some (K (t - 2000)) else none := by
  unfold dyn
  induction n with
  | zero => rw [if_neg (by omega)]; rfl
  | succ n ih =>
    rw [List.range_succ, List.map_append, lk_app, ih]
    by_cases h1 : 2000 ≤ t ∧ t < 2000 + n
    · rw [if_pos h1, if_pos (by omega)]
    · rw [if_neg h1]
      simp only [List.map_cons, List.map_nil, lk]
      by_cases h2 : 2000 + n = t
      · subst h2; rw [if_pos rfl, if_pos (by omega)]; simp
      · rw [if_neg h2, if_neg (by omega)]
theorem lk_dynU {n u : Nat} (K : Nat → Obj') (h : u < n) : lk (dyn n K) (2000 + u) = some (K u) := by
  rw [lk_dyn, if_pos (by omega)]; simp
/-- The cells that hold them. -/
def ownsL (n : Nat) : List AV := (List.range n).map fun j => .own (2000 + j)
theorem holdsL_map {α : Type} (f : α → AV) (t : Nat) : ∀ l : List α, AV.holdsL t (l.map f) = l.any fun x => (f x).holds t
  | [] => rfl
  | x :: l => by simp only [List.map_cons, AV.holdsL, List.any_cons, holdsL_map f t l]
theorem holdsL_owns {n t : Nat} (h : t < 2000) : AV.holdsL t (ownsL n) = false := by
  unfold ownsL
  rw [holdsL_map]
  simp only [AV.holds, List.any_eq_false, beq_iff_eq]
  intro x _; omega
/-- All slices of a row that are nil are rows that are owned, of nothing. -/
theorem Ent.thawAll {st : St} {t n sz : Nat} (hm : lk st.m t = some (.box (List.replicate n .nil))) (ht : t < 2000) (hn : n ≤ 900000) (hf : ∀ j, j < n → st.fresh (2000 + j) = true) (hs : 0 < sz) :
    Ent st { st with m := dyn n (fun _ => .row sz []) ++ up st.m t (.box (ownsL n)) } := fun keep w E a hI => by
  have hlk : ∀ s, lk (dyn n (fun _ => Obj'.row sz []) ++ up st.m t (.box (ownsL n))) s = if 2000 ≤ s ∧ s < 2000 + n then some (.row sz []) else if t = s then some (.box (ownsL n)) else lk st.m s := fun s => by
    rw [lk_app, lk_dyn, lk_up]
    by_cases hd : 2000 ≤ s ∧ s < 2000 + n
    · rw [if_pos hd, if_pos hd]
    · rw [if_neg hd, if_neg hd]
  have hnone : ∀ j, j < n → lk st.m (2000 + j) = none ∧ st.held (2000 + j) = false := fun j hj => by
    have := hf j hj
    simp only [St.fresh, Bool.and_eq_true, Bool.not_eq_true', Option.isNone_iff_eq_none] at this
    exact ⟨this.2.2, this.2.1⟩
  let E' : Env := ⟨E.ok, fun s => if 2000 ≤ s ∧ s < 2000 + n then none else E.at_ s⟩
  have hat : ∀ s, ¬ (2000 ≤ s ∧ s < 2000 + n) → E'.at_ s = E.at_ s := fun s hs => if_neg hs
  have hold : ∀ s o, lk st.m s = some o → ¬ (2000 ≤ s ∧ s < 2000 + n) := fun s o ho hd => by
    have := (hnone (s - 2000) (by omega)).1
    rw [show 2000 + (s - 2000) = s by omega, ho] at this; cases this
  have hheld : ∀ s, st.held s = true → ¬ (2000 ≤ s ∧ s < 2000 + n) := fun s hs hd => by
    have := (hnone (s - 2000) (by omega)).2
    rw [show 2000 + (s - 2000) = s by omega, hs] at this; cases this
  have hok : ∀ b, E.ok b → E'.ok b ∧ w.heap[b]? = w.heap[b]? := fun b hb => ⟨hb, rfl⟩
  have hp : ∀ s, ¬ (2000 ≤ s ∧ s < 2000 + n) → Pass E E' (lk st.m) (lk (dyn n (fun _ => Obj'.row sz []) ++ up st.m t (.box (ownsL n)))) s := fun s hs => by
    unfold Pass
    rw [hlk, if_neg hs, hat s hs]
    by_cases hts : t = s
    · subst hts
      rw [if_pos rfl]
      exact .inr ⟨rfl, .inr ⟨_, _, hm, rfl⟩⟩
    · rw [if_neg hts]
      exact same_tags E (lk st.m) s
  refine ⟨E', ⟨hI.df, hI.sz, fun d x hx => ?_, fun s o ho => ?_, fun s s' o o' g c z c' z' k1 k2 e1 e2 => ?_, fun s o g c z ho hg => ?_, hI.okl, hI.kpl⟩, ⟨rfl, rfl, rfl, Nat.le_refl _, fun _ _ => rfl, hok, fun b hb => .inl hb, fun s hs => hat s (by omega)⟩⟩
  · obtain ⟨v, k1, k2⟩ := hI.tm d x hx
    refine ⟨v, k1, k2.keep hok fun s hs => hp s (hheld s ?_)⟩
    cases hh : st.held s with
    | true => rfl
    | false => rw [held_t hh hx] at hs; cases hs
  · rw [hlk] at ho
    split at ho
    · rename_i hd
      simp only [Option.some.injEq] at ho; subst ho
      exact ⟨hs, .inl ⟨if_pos hd, rfl⟩⟩
    · rename_i hd
      split at ho
      · rename_i hts
        subst hts
        simp only [Option.some.injEq] at ho; subst ho
        obtain ⟨g, c, z, e, cur, h1, h2, h3⟩ := hI.mm t _ hm
        refine ⟨g, c, z, e, cur, by rw [hat t hd]; exact h1, h2, ?_⟩
        have hl := h3.len
        simp only [List.length_replicate] at hl
        refine RepVL.of (by simp [ownsL, hl]) fun i x v hx hv => ?_
        have hi : i < n := by have := (List.getElem?_eq_some_iff.1 hx).1; simpa [ownsL] using this
        have hx' : x = .own (2000 + i) := by
          simp only [ownsL, List.getElem?_map, List.getElem?_range hi, Option.map_some, Option.some.injEq] at hx
          exact hx.symm
        subst hx'
        have := h3.get i .nil v (by rw [List.getElem?_replicate, if_pos hi]) hv
        simp only [RepV] at this; subst this
        simp only [RepV]
        rw [hlk, if_pos (by omega), show E'.at_ (2000 + i) = none from if_pos (by omega)]
        exact ⟨none, rfl⟩
      · rename_i hts
        refine (hI.mm s o ho).keep hok (hat s hd) (fun g c z hg => rfl) fun s' cs hcs hs' => hp s' (hheld s' ?_)
        subst hcs
        cases hh : st.held s' with
        | true => rfl
        | false => rw [held_m hh ho] at hs'; cases hs'
  · have q : ∀ s o, lk (dyn n (fun _ => Obj'.row sz []) ++ up st.m t (.box (ownsL n))) s = some o → E'.at_ s ≠ none → ∃ o2, lk st.m s = some o2 ∧ E'.at_ s = E.at_ s := fun s o hs hne => by
      rw [hlk] at hs
      split at hs
      · rename_i hd; exact absurd (if_pos hd) hne
      · rename_i hd
        split at hs
        · rename_i hts; subst hts; exact ⟨_, hm, hat _ hd⟩
        · exact ⟨o, hs, hat _ hd⟩
    obtain ⟨p1, h1, h2⟩ := q s o k1 (by rw [e1]; simp)
    obtain ⟨p2, h3, h4⟩ := q s' o' k2 (by rw [e2]; simp)
    exact hI.inj s s' p1 p2 g c z c' z' h1 h3 (h2 ▸ e1) (h4 ▸ e2)
  · rw [hlk] at ho
    split at ho
    · rename_i hd
      rw [show E'.at_ s = none from if_pos hd] at hg; cases hg
    · rename_i hd
      rw [hat s hd] at hg
      split at ho
      · rename_i hts; subst hts; exact hI.own t _ g c z hm hg
      · exact hI.own s o g c z ho hg

/-! ### Small tags beside them -/
theorem lk_dynS {n : Nat} {K : Nat → Obj'} {r : List (Nat × Obj')} {t : Nat} (h : t < 2000) : lk (dyn n K ++ r) t = lk r t := by
  rw [lk_app, lk_dyn, if_neg (by omega)]
theorem up_app {α : Type} : ∀ (l r : List (Nat × α)) (t : Nat) (x : α), lk l t = none → up (l ++ r) t x = l ++ up r t x
  | [], r, t, x, _ => rfl
  | (k, y) :: l, r, t, x, h => by
    simp only [lk] at h
    split at h
    · cases h
    · rename_i hk
      simp only [List.cons_append, up, if_neg hk]
      rw [up_app l r t x h]
theorem rm_app {α : Type} : ∀ (l r : List (Nat × α)) (t : Nat), rm (l ++ r) t = rm l t ++ rm r t
  | [], r, t => rfl
  | (k, y) :: l, r, t => by
    simp only [List.cons_append, rm]
    split
    · exact rm_app l r t
    · rw [rm_app l r t]; rfl
theorem rm_none' {α : Type} : ∀ (l : List (Nat × α)) (t : Nat), lk l t = none → rm l t = l
  | [], t, _ => rfl
  | (k, y) :: l, t, h => by
    simp only [lk] at h
    split at h
    · cases h
    · rename_i hk
      simp only [rm, if_neg hk]
      rw [rm_none' l t h]
theorem up_dynS {n : Nat} {K : Nat → Obj'} {r : List (Nat × Obj')} {t : Nat} {x : Obj'} (h : t < 2000) : up (dyn n K ++ r) t x = dyn n K ++ up r t x :=
  up_app _ _ _ _ (by rw [lk_dyn, if_neg (by omega)])
theorem rm_dynS {n : Nat} {K : Nat → Obj'} {r : List (Nat × Obj')} {t : Nat} (h : t < 2000) : rm (dyn n K ++ r) t = dyn n K ++ rm r t := by
  rw [rm_app, rm_none' _ _ (by rw [lk_dyn, if_neg (by omega)])]
theorem Ent.chkD {a b : St} {n : Nat} {K : Nat → Obj'} {r r' : List (Nat × Obj')} (ha : a.m = dyn n K ++ r) (hb : b.m = dyn n K ++ r') (h : a.n = b.n ∧ leT a b.t ∧ leM { a with m := r } r') : Ent a b :=
  Ent.le ⟨h.1, fun _ _ => leT_get h.2.1, fun t o ho => by
    rw [hb, lk_app] at ho
    rw [ha, lk_app]
    cases hd : lk (dyn n K) t with
    | some x => rw [hd] at ho; exact ho
    | none => rw [hd] at ho; exact leM_get h.2.2 ho⟩
theorem any_dyn {n : Nat} {K : Nat → Obj'} {f : Nat × Obj' → Bool} (hf : ∀ i, f (2000 + i, K i) = false) : (dyn n K).any f = false := by
  unfold dyn
  rw [List.any_map, List.any_eq_false]
  intro i _
  simp [hf]

/-! ### One row is taken out, and laid back -/
def dynX (n : Nat) (K : Nat → Obj') (u : Nat) : List (Nat × Obj') := rm (dyn n K) (2000 + u)
theorem lk_dynX (n : Nat) (K : Nat → Obj') (u t : Nat) : lk (dynX n K u) t = if 2000 + u = t then none else lk (dyn n K) t := by
  unfold dynX; rw [lk_rm]
theorem lk_dynXS {n u : Nat} {K : Nat → Obj'} {r : List (Nat × Obj')} {t : Nat} (h : t < 2000) : lk (dynX n K u ++ r) t = lk r t := by
  rw [lk_app, lk_dynX, if_neg (by omega), lk_dyn, if_neg (by omega)]
theorem up_dynXS {n u : Nat} {K : Nat → Obj'} {r : List (Nat × Obj')} {t : Nat} {x : Obj'} (h : t < 2000) : up (dynX n K u ++ r) t x = dynX n K u ++ up r t x :=
  up_app _ _ _ _ (by rw [lk_dynX, if_neg (by omega), lk_dyn, if_neg (by omega)])
theorem rm_dynXS {n u : Nat} {K : Nat → Obj'} {r : List (Nat × Obj')} {t : Nat} (h : t < 2000) : rm (dynX n K u ++ r) t = dynX n K u ++ rm r t := by
  rw [rm_app, rm_none' _ _ (by rw [lk_dynX, if_neg (by omega), lk_dyn, if_neg (by omega)])]
theorem any_rm {α : Type} {f : Nat × α → Bool} : ∀ {l : List (Nat × α)} {t : Nat}, l.any f = false → (rm l t).any f = false
  | [], t, h => h
  | (k, y) :: l, t, h => by
    simp only [List.any_cons, Bool.or_eq_false_iff] at h
    simp only [rm]
    split
    · exact any_rm h.2
    · simp only [List.any_cons, h.1, any_rm h.2, Bool.or_self]
theorem any_dynX {n u : Nat} {K : Nat → Obj'} {f : Nat × Obj' → Bool} (hf : ∀ i, f (2000 + i, K i) = false) : (dynX n K u).any f = false := any_rm (any_dyn hf)
theorem ren_id {t t' : Nat} : ∀ {x : AV}, x.holds t = false → x.ren t t' = x := by
  intro x
  refine AV.rec (motive_1 := fun x => x.holds t = false → x.ren t t' = x) (motive_2 := fun l => AV.holdsL t l = false → AV.renL t t' l = l) ?_ ?_ ?_ ?_ ?_ ?_ ?_ ?_ ?_ ?_ ?_ x
  · intro y _; rfl
  · intro _; rfl
  · intro s h; simp only [AV.holds, beq_eq_false_iff_ne, ne_eq] at h; simp [AV.ren, h]
  · intro s o h; simp only [AV.holds, beq_eq_false_iff_ne, ne_eq] at h; simp [AV.ren, h]
  · intro s i o h; simp only [AV.holds, beq_eq_false_iff_ne, ne_eq] at h; simp [AV.ren, h]
  · intro xs ih h; simp only [AV.holds] at h; simp only [AV.ren, ih h]
  · intro f xs ih h; simp only [AV.holds] at h; simp only [AV.ren, ih h]
  · intro xs ih h; simp only [AV.holds] at h; simp only [AV.ren, ih h]
  · intro s n h; simp only [AV.holds, beq_eq_false_iff_ne, ne_eq] at h; simp [AV.ren, h]
  · intro _; rfl
  · intro y ys ihx ihs h
    simp only [AV.holdsL, Bool.or_eq_false_iff] at h
    simp only [AV.renL, ihx h.1, ihs h.2]
theorem renL_map {α : Type} (f : α → AV) (t t' : Nat) : ∀ l : List α, AV.renL t t' (l.map f) = l.map fun x => (f x).ren t t'
  | [] => rfl
  | x :: l => by simp only [List.map_cons, AV.renL, renL_map f t t' l]
theorem renL_owns {n u t' : Nat} (h : u < n) : AV.renL (2000 + u) t' (ownsL n) = (ownsL n).set u (.own t') := by
  unfold ownsL
  rw [renL_map]
  apply List.ext_getElem?
  intro j
  rw [List.getElem?_set]
  by_cases hj : j < n
  · simp only [List.getElem?_map, List.getElem?_range hj, Option.map_some, List.length_map, List.length_range, AV.ren]
    by_cases hx : u = j
    · subst hx; simp [h]
    · have h2 : ¬ j = u := by omega
      simp [hx, h2]
  · have : ¬ u = j := by omega
    rw [if_neg this, List.getElem?_eq_none (by simp; omega), List.getElem?_eq_none (by simp; omega)]
theorem Ent.pull {st : St} {n u sz : Nat} {f : Nat → List SV} {r r' : List (Nat × Obj')} (hu : u < n) (hm : st.m = dyn n (fun j => .row sz (f j)) ++ r) (hs : ∀ t o, lk r' t = some o → t < 2000 ∧ t ≠ 900) (hf : st.fresh 900 = true)
    (hT : ∀ d x, lk st.t d = some x → x.holds (2000 + u) = false) (hR : ∀ t o, lk r' t = some o → ∃ o0, lk r t = some o0 ∧ o = Obj'.ren (2000 + u) 900 o0) :
    Ent st { st with m := dynX n (fun j => .row sz (f j)) u ++ (r' ++ [(900, .row sz (f u))]) } := by
  have hl : lk st.m (2000 + u) = some (.row sz (f u)) := by rw [hm, lk_app, lk_dynU _ hu]
  refine Ent.rename (2000 + u) 900 hf (Ent.le ⟨?_, fun d x hx => ?_, fun t o ho => ?_⟩)
  · unfold St.rename; rw [hl]
  · unfold St.rename; rw [hl]
    simp only [lk_mapv]
    rw [show lk st.t d = some x from hx]
    simp only [Option.map_some, Option.some.injEq]
    exact ren_id (hT d x hx)
  · unfold St.rename; rw [hl]
    simp only [lk_up, lk_mapv, lk_rm]
    rw [lk_app, lk_dynX] at ho
    by_cases h9 : 900 = t
    · subst h9
      rw [if_pos rfl]
      rw [if_neg (by omega), lk_dyn, if_neg (by omega)] at ho
      simp only at ho
      rw [lk_app] at ho
      cases hq : lk r' 900 with
      | some y => exact absurd rfl (hs 900 y hq).2
      | none => rw [hq] at ho; simpa [lk, Obj'.ren] using ho
    · rw [if_neg h9]
      by_cases h2 : 2000 + u = t
      · subst h2
        rw [if_pos rfl] at ho
        simp only at ho
        rw [lk_app] at ho
        cases hq : lk r' (2000 + u) with
        | some y => have := (hs _ y hq).1; omega
        | none => rw [hq] at ho; simp [lk] at ho; omega
      · rw [if_neg h2] at ho ⊢
        rw [hm, lk_app]
        cases hd : lk (dyn n (fun j => Obj'.row sz (f j))) t with
        | some y =>
          rw [hd] at ho
          simp only [Option.some.injEq] at ho; subst ho
          rw [lk_dyn] at hd
          split at hd
          · simp only [Option.some.injEq] at hd; subst hd; rfl
          · cases hd
        | none =>
          rw [hd] at ho
          simp only at ho ⊢
          rw [lk_app] at ho
          cases hq : lk r' t with
          | some y =>
            rw [hq] at ho
            simp only [Option.some.injEq] at ho; subst ho
            obtain ⟨o0, h1, rfl⟩ := hR t y hq
            rw [h1]; rfl
          | none =>
            rw [hq] at ho
            simp only [lk] at ho
            rw [if_neg h9] at ho
            cases ho
theorem DrawW.pull {P : Program} {Q : Exit → St → Prop} {id : Nat} {ops : Array Oper} {k : List Fr} {N n sz : Nat} {ts : List (Nat × AV)} {f : Nat → List SV} {r : List (Nat × Obj')} (u : Nat) (hu : u < n) (hs : (r.any fun p => decide (2000 ≤ p.1) || p.1 == 900) = false) (hf : (⟨N, ts, dyn n (fun j => .row sz (f j)) ++ r⟩ : St).fresh 900 = true)
    (hT : (ts.any fun p => p.2.holds (2000 + u)) = false) (h : DrawW P Q id ops k ⟨N, ts, dynX n (fun j => .row sz (f j)) u ++ (mapv (Obj'.ren (2000 + u) 900) r ++ [(900, .row sz (f u))])⟩) : DrawW P Q id ops k ⟨N, ts, dyn n (fun j => .row sz (f j)) ++ r⟩ :=
  DrawW.ent (Ent.pull hu rfl (fun t o ho => by
    rw [lk_mapv] at ho
    obtain ⟨o0, h1, _⟩ := Option.map_eq_some_iff.1 ho
    rw [List.any_eq_false] at hs
    have := hs _ (lk_mem h1)
    simp only [Bool.or_eq_true, decide_eq_true_eq, beq_iff_eq, not_or] at this
    exact ⟨by omega, this.2⟩) hf (fun d x hx => by
    rw [List.any_eq_false] at hT
    simpa using hT _ (lk_mem hx)) (fun t o ho => by
    rw [lk_mapv] at ho
    obtain ⟨o0, h1, h2⟩ := Option.map_eq_some_iff.1 ho
    exact ⟨o0, h1, h2.symm⟩)) h
theorem Ent.push {a b : St} {n u sz t : Nat} {f f' : Nat → List SV} {r r' : List (Nat × Obj')} (hu : u < n) (ha : a.m = dynX n (fun j => .row sz (f j)) u ++ r) (hb : b.m = dyn n (fun j => .row sz (f' j)) ++ r') (ht : t < 2000) (hrow : lk r t = some (.row sz (f' u)))
    (hf : ∀ j, j ≠ u → f' j = f j) (hfr : a.fresh (2000 + u) = true) (h : a.n = b.n ∧ leT { a with t := mapv (AV.ren t (2000 + u)) a.t } b.t ∧ leM { a with m := mapv (Obj'.ren t (2000 + u)) (rm r t) } r') : Ent a b := by
  have hl : lk a.m t = some (.row sz (f' u)) := by rw [ha, lk_dynXS ht]; exact hrow
  refine Ent.rename t (2000 + u) hfr (Ent.le ⟨?_, fun d x hx => ?_, fun s o ho => ?_⟩)
  · unfold St.rename; rw [hl]; exact h.1
  · unfold St.rename; rw [hl]
    have q := leT_get h.2.1 hx
    exact q
  · unfold St.rename; rw [hl]
    simp only [lk_up, lk_mapv, lk_rm]
    rw [hb, lk_app, lk_dyn] at ho
    by_cases hd : 2000 ≤ s ∧ s < 2000 + n
    · rw [if_pos hd] at ho
      simp only [Option.some.injEq] at ho; subst ho
      by_cases hs : 2000 + u = s
      · subst hs
        rw [if_pos rfl]
        simp [Obj'.ren]
      · rw [if_neg hs, if_neg (by omega), ha, lk_app, lk_dynX, if_neg hs, lk_dyn, if_pos hd]
        simp only [Option.map_some, Obj'.ren]
        rw [hf _ (by omega)]
    · rw [if_neg hd] at ho
      simp only at ho
      rw [if_neg (by omega)]
      have hk := leM_get h.2.2 ho
      simp only [lk_mapv, lk_rm] at hk
      rw [ha, lk_app, lk_dynX, lk_dyn, if_neg hd]
      simpa using hk
theorem lk_dynXU (n u : Nat) (K : Nat → Obj') (r : List (Nat × Obj')) : lk (dynX n K u ++ r) (2000 + u) = lk r (2000 + u) := by
  rw [lk_app, lk_dynX, if_pos rfl]
theorem holdsL_any (t : Nat) : ∀ l : List AV, AV.holdsL t l = l.any fun x => x.holds t
  | [] => rfl
  | x :: l => by simp only [AV.holdsL, List.any_cons, holdsL_any t l]
theorem owns_get {n u j : Nat} {y x : AV} (h : ((ownsL n).set u y)[j]? = some x) : (j = u ∧ x = y) ∨ (j ≠ u ∧ x = .own (2000 + j)) := by
  rw [List.getElem?_set] at h
  split at h
  · rename_i e
    split at h
    · simp only [Option.some.injEq] at h; exact .inl ⟨e.symm, h.symm⟩
    · cases h
  · rename_i e
    right
    refine ⟨Ne.symm e, ?_⟩
    have hj : j < n := by have := (List.getElem?_eq_some_iff.1 h).1; simpa [ownsL] using this
    simp only [ownsL, List.getElem?_map, List.getElem?_range hj, Option.map_some, Option.some.injEq] at h
    exact h.symm
theorem holdsL_set {n u t s : Nat} (h1 : t ≠ s) (h2 : ∀ j, j ≠ u → 2000 + j ≠ t) : AV.holdsL t ((ownsL n).set u (.own s)) = false := by
  rw [holdsL_any, List.any_eq_false]
  intro x hx
  obtain ⟨j, hj⟩ := List.getElem?_of_mem hx
  rcases owns_get hj with ⟨_, rfl⟩ | ⟨hne, rfl⟩
  · simp [AV.holds]; omega
  · have := h2 j hne
    simp [AV.holds, this]
theorem renL_back {n u s : Nat} (h : u < n) (hs : s < 2000) : AV.renL s (2000 + u) ((ownsL n).set u (.own s)) = ownsL n := by
  have e : (ownsL n).set u (.own s) = (List.range n).map fun j => if j = u then AV.own s else AV.own (2000 + j) := by
    apply List.ext_getElem?
    intro j
    rw [List.getElem?_set]
    by_cases hj : j < n
    · simp only [ownsL, List.getElem?_map, List.getElem?_range hj, Option.map_some, List.length_map, List.length_range]
      by_cases hx : u = j
      · subst hx; simp [h]
      · have : ¬ j = u := by omega
        simp [hx, this]
    · have : ¬ u = j := by omega
      rw [if_neg this, List.getElem?_eq_none (by simp [ownsL]; omega), List.getElem?_eq_none (by simp; omega)]
  rw [e, renL_map]
  unfold ownsL
  apply List.map_congr_left
  intro j hj
  by_cases hx : j = u
  · subst hx; simp [AV.ren]
  · have : ¬ 2000 + j = s := by omega
    simp [hx, AV.ren, this]

/-! ### All rows are shared from now on -/
theorem frz_id {t : Nat} {o : Obj'} : ∀ {x : AV}, x.holds t = false → x.frz t o = x := by
  intro x
  refine AV.rec (motive_1 := fun x => x.holds t = false → x.frz t o = x) (motive_2 := fun l => AV.holdsL t l = false → AV.frzL t o l = l) ?_ ?_ ?_ ?_ ?_ ?_ ?_ ?_ ?_ ?_ ?_ x
  · intro y _; rfl
  · intro _; rfl
  · intro s h; simp only [AV.holds, beq_eq_false_iff_ne, ne_eq] at h; simp [AV.frz, h]
  · intro s o h; simp only [AV.holds, beq_eq_false_iff_ne, ne_eq] at h; simp [AV.frz, h]
  · intro s i o h; simp only [AV.holds, beq_eq_false_iff_ne, ne_eq] at h; simp [AV.frz, h]
  · intro xs ih h; simp only [AV.holds] at h; simp only [AV.frz, ih h]
  · intro f xs ih h; simp only [AV.holds] at h; simp only [AV.frz, ih h]
  · intro xs ih h; simp only [AV.holds] at h; simp only [AV.frz, ih h]
  · intro s n h; simp only [AV.holds, beq_eq_false_iff_ne, ne_eq] at h; simp [AV.frz, h]
  · intro _; rfl
  · intro y ys ihx ihs h
    simp only [AV.holdsL, Bool.or_eq_false_iff] at h
    simp only [AV.frzL, ihx h.1, ihs h.2]
theorem frzL_map {α : Type} (f : α → AV) (t : Nat) (o : Obj') : ∀ l : List α, AV.frzL t o (l.map f) = l.map fun x => (f x).frz t o
  | [] => rfl
  | x :: l => by simp only [List.map_cons, AV.frzL, frzL_map f t o l]
theorem frzL_id {t : Nat} {o : Obj'} : ∀ {l : List AV}, AV.holdsL t l = false → AV.frzL t o l = l
  | [], _ => rfl
  | x :: l, h => by
    simp only [AV.holdsL, Bool.or_eq_false_iff] at h
    simp only [AV.frzL, frz_id h.1, frzL_id h.2]
/-- Those before j are shared already. -/
def cellsF (j n : Nat) (f : Nat → List SV) : List AV := (List.range n).map fun i => if i < j then .sv (.lst (f i)) else .own (2000 + i)
theorem cellsF_step {j n sz : Nat} {f : Nat → List SV} : AV.frzL (2000 + j) (.row sz (f j)) (cellsF j n f) = cellsF (j + 1) n f := by
  unfold cellsF
  rw [frzL_map]
  apply List.map_congr_left
  intro i _
  by_cases h1 : i < j
  · rw [if_pos h1, if_pos (by omega)]; rfl
  · rw [if_neg h1]
    by_cases h2 : i = j
    · subst h2; rw [if_pos (by omega)]; simp [AV.frz]
    · have : ¬ 2000 + i = 2000 + j := by omega
      rw [if_neg (by omega)]; simp [AV.frz, h2]
def dynF (j n : Nat) (K : Nat → Obj') : List (Nat × Obj') := (dyn n K).filter fun p => decide (2000 + j ≤ p.1)
theorem lk_filter {α : Type} (q : Nat → Bool) : ∀ (l : List (Nat × α)) (t : Nat), lk (l.filter fun p => q p.1) t = if q t = true then lk l t else none
  | [], t => by simp [lk]
  | (k, x) :: l, t => by
    simp only [List.filter_cons]
    by_cases hk : k = t
    · subst hk
      by_cases hq : q k = true
      · rw [if_pos hq]; simp [lk, hq]
      · rw [if_neg hq, lk_filter q l k, if_neg hq, if_neg hq]
    · by_cases hq : q k = true
      · rw [if_pos hq]; simp only [lk, if_neg hk]; exact lk_filter q l t
      · rw [if_neg hq]; simp only [lk, if_neg hk]; exact lk_filter q l t
theorem lk_dynF (j n : Nat) (K : Nat → Obj') (t : Nat) : lk (dynF j n K) t = if 2000 + j ≤ t ∧ t < 2000 + n then some (K (t - 2000)) else none := by
  unfold dynF
  rw [lk_filter (fun k => decide (2000 + j ≤ k)), lk_dyn]
  by_cases h1 : 2000 + j ≤ t
  · by_cases h2 : t < 2000 + n
    · rw [if_pos (by simpa using h1), if_pos (by omega), if_pos ⟨h1, h2⟩]
    · rw [if_pos (by simpa using h1), if_neg (by omega), if_neg (by omega)]
  · rw [if_neg (by simpa using h1), if_neg (by omega)]
theorem Ent.frzStep {N j n sz b : Nat} {ts : List (Nat × AV)} {f : Nat → List SV} {r : List (Nat × Obj')} (hj : j < n) (hb : b < 2000) (hT : (ts.any fun p => p.2.holds (2000 + j)) = false)
    (hr : ∀ t o, lk r t = some o → t < 2000 ∧ Obj'.frz (2000 + j) (.row sz (f j)) o = o) :
    Ent ⟨N, ts, dynF j n (fun i => .row sz (f i)) ++ (b, .box (cellsF j n f)) :: r⟩ ⟨N, ts, dynF (j + 1) n (fun i => .row sz (f i)) ++ (b, .box (cellsF (j + 1) n f)) :: r⟩ := by
  have hl : lk (dynF j n (fun i => Obj'.row sz (f i)) ++ (b, .box (cellsF j n f)) :: r) (2000 + j) = some (.row sz (f j)) := by
    rw [lk_app, lk_dynF, if_pos (by omega)]; simp
  refine Ent.freeze (2000 + j) (Ent.le ⟨?_, fun d x hx => ?_, fun t o ho => ?_⟩)
  · unfold St.freeze; rw [hl]
  · unfold St.freeze; rw [hl]
    simp only [lk_mapv]
    rw [show lk ts d = some x from hx]
    rw [List.any_eq_false] at hT
    simp only [Option.map_some, Option.some.injEq]
    exact frz_id (by simpa using hT _ (lk_mem hx))
  · unfold St.freeze; rw [hl]
    simp only [lk_mapv, lk_rm]
    rw [lk_app, lk_dynF] at ho
    by_cases hd : 2000 + (j + 1) ≤ t ∧ t < 2000 + n
    · rw [if_pos hd] at ho
      simp only [Option.some.injEq] at ho; subst ho
      rw [if_neg (by omega), lk_app, lk_dynF, if_pos (by omega)]
      simp [Obj'.frz]
    · rw [if_neg hd] at ho
      simp only [lk] at ho
      by_cases hbt : b = t
      · subst hbt
        rw [if_pos rfl] at ho
        simp only [Option.some.injEq] at ho; subst ho
        rw [if_neg (by omega), lk_app, lk_dynF, if_neg (by omega)]
        simp only [lk, if_true, Option.map_some, Obj'.frz, cellsF_step]
      · rw [if_neg hbt] at ho
        obtain ⟨h1, h2⟩ := hr t o ho
        rw [if_neg (by omega), lk_app, lk_dynF, if_neg (by omega)]
        simp only [lk, if_neg hbt, ho, Option.map_some, h2]
theorem Ent.frzAll {N n sz b : Nat} {ts : List (Nat × AV)} {f : Nat → List SV} {r : List (Nat × Obj')} (hb : b < 2000) (hT : ∀ j, j < n → (ts.any fun p => p.2.holds (2000 + j)) = false)
    (hr : ∀ j, j < n → ∀ t o, lk r t = some o → t < 2000 ∧ Obj'.frz (2000 + j) (.row sz (f j)) o = o) :
    ∀ j, j ≤ n → Ent ⟨N, ts, dynF 0 n (fun i => .row sz (f i)) ++ (b, .box (cellsF 0 n f)) :: r⟩ ⟨N, ts, dynF j n (fun i => .row sz (f i)) ++ (b, .box (cellsF j n f)) :: r⟩
  | 0, _ => Ent.refl _
  | j + 1, h => (Ent.frzAll hb hT hr j (by omega)).trans (Ent.frzStep (by omega) hb (hT j (by omega)) (hr j (by omega)))
theorem svs_map {α : Type} (f : α → SV) : ∀ l : List α, AV.svs (l.map fun x => .sv (f x)) = some (l.map f)
  | [] => rfl
  | x :: l => by simp only [List.map_cons, AV.svs, svs_map f l, Option.map_some]
theorem cellsF_all (n : Nat) (f : Nat → List SV) : cellsF n n f = (List.range n).map fun i => .sv (.lst (f i)) := by
  unfold cellsF
  apply List.map_congr_left
  intro i hi
  rw [if_pos (List.mem_range.1 hi)]
theorem cellsF_none (n : Nat) (f : Nat → List SV) : cellsF 0 n f = ownsL n := by
  unfold cellsF ownsL
  apply List.map_congr_left
  intro i _
  rw [if_neg (by omega)]
theorem dynF_end (n : Nat) (K : Nat → Obj') : dynF n n K = [] := by
  unfold dynF dyn
  rw [List.filter_eq_nil_iff]
  intro p hp
  obtain ⟨i, hi, rfl⟩ := List.mem_map.1 hp
  have := List.mem_range.1 hi
  simp; omega
/-- All rows of a box of rows are shared from now on. -/
theorem Ent.rows {N n sz b : Nat} {ts : List (Nat × AV)} {f : Nat → List SV} {r r' : List (Nat × Obj')} (hb : b < 2000) (hT : ∀ j, j < n → (ts.any fun p => p.2.holds (2000 + j)) = false)
    (hr : ∀ j, j < n → ∀ t o, lk r' t = some o → t < 2000 ∧ Obj'.frz (2000 + j) (.row sz (f j)) o = o) (hrr : ∀ t o, lk ((b, Obj'.box (ownsL n)) :: r') t = some o → lk r t = some o) :
    Ent ⟨N, ts, dyn n (fun i => .row sz (f i)) ++ r⟩ ⟨N, ts, (b, .box ((List.range n).map fun i => .sv (.lst (f i)))) :: r'⟩ := by
  have h1 := Ent.frzAll (N := N) (sz := sz) (f := f) (r := r') hb hT hr n (Nat.le_refl _)
  rw [dynF_end, cellsF_all, List.nil_append] at h1
  have h0 : Ent ⟨N, ts, dyn n (fun i => .row sz (f i)) ++ r⟩ ⟨N, ts, dynF 0 n (fun i => .row sz (f i)) ++ (b, .box (cellsF 0 n f)) :: r'⟩ := Ent.le ⟨rfl, fun _ _ h => h, fun t o ho => by
    simp only at ho ⊢
    rw [cellsF_none, lk_app, lk_dynF] at ho
    rw [lk_app, lk_dyn]
    by_cases hd : 2000 ≤ t ∧ t < 2000 + n
    · rw [if_pos (by omega)] at ho
      rw [if_pos hd]; exact ho
    · rw [if_neg (by omega)] at ho
      rw [if_neg hd]
      exact hrr t o ho⟩
  exact h0.trans h1
end Go.Proofs.YtfcojlagmmgagaaDoor.Ab
