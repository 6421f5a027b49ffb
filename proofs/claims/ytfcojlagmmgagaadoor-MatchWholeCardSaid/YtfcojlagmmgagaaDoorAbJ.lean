/- The abstract layer, part J: code, regions, calls, contracts. -/
import Derived.Test.YtfcojlagmmgagaaDoorAbI
import Derived.Scope
namespace Go.Proofs.YtfcojlagmmgagaaDoor.Ab
open Go.RowKit
set_option linter.unusedVariables false
set_option linter.unusedSimpArgs false

/-- What a piece of code comes to, from a state. -/
def Tr (P : Program) (c : Code) (Q : Exit → St → Prop) (st : St) : Prop :=
  ∀ (keep : Nat → Prop) (w : World) (E : Env) (a : Act), Inv keep w E st a → c.wp P (fun e a' w' => ∃ st' E', Inv keep w' E' st' a' ∧ Evo keep w E w' E' ∧ Q e st') a w
/-- What the rest of a region comes to. -/
def Rn (P : Program) (ops : Array Oper) (l : List Oper) (K : St → Prop) (st : St) : Prop :=
  ∀ (keep : Nat → Prop) (w : World) (E : Env) (a : Act), Inv keep w E st a → wpList P ops (fun e a' w' => ∃ st' E', Inv keep w' E' st' a' ∧ Evo keep w E w' E' ∧ e = .normal ∧ K st') l a w

def thenQ (K : St → Prop) (Q : Exit → St → Prop) : Exit → St → Prop
  | .normal, st => K st
  | e, st => Q e st
def blockQ (id : Nat) (Q : Exit → St → Prop) : Exit → St → Prop
  | .exit i, st => if i = id then Q .normal st else Q (.exit i) st
  | e, st => Q e st

section
variable {P : Program} {Q Q' : Exit → St → Prop} {K K' : St → Prop} {st : St} {ops : Array Oper} {l : List Oper} {o : Oper}

theorem Tr.mono {c : Code} (h : Tr P c Q st) (hq : ∀ e st, Q e st → Q' e st) : Tr P c Q' st := fun keep w E a hI =>
  Code.wp_mono (fun e a' w' ⟨st', E', h1, h2, h3⟩ => ⟨st', E', h1, h2, hq _ _ h3⟩) (h keep w E a hI)
theorem Tr.skip (h : Q .normal st) : Tr P .skip Q st := fun keep w E a hI => wp_skip ⟨st, E, hI, Evo.refl _ _ _, h⟩
theorem Tr.ret (h : Q .ret st) : Tr P .ret Q st := fun keep w E a hI => wp_ret ⟨st, E, hI, Evo.refl _ _ _, h⟩
theorem Tr.exit {id : Nat} (h : Q (.exit id) st) : Tr P (.exit id) Q st := fun keep w E a hI => wp_exit ⟨st, E, hI, Evo.refl _ _ _, h⟩
theorem Tr.label {id : Nat} (h : Q .normal st) : Tr P (.label id) Q st := fun keep w E a hI => wp_label ⟨st, E, hI, Evo.refl _ _ _, h⟩
theorem Tr.seq {x y : Code} (h : Tr P x (thenQ (Tr P y Q) Q) st) : Tr P (.seq x y) Q st := fun keep w E a hI => by
  refine wp_seq (Code.wp_mono ?_ (h keep w E a hI))
  rintro e a' w' ⟨st', E', h1, h2, h3⟩
  cases e with
  | normal =>
    refine Code.wp_mono ?_ (h3 keep w' E' a' h1)
    rintro e a2 w2 ⟨st2, E2, k1, k2, k3⟩
    exact ⟨st2, E2, k1, h2.trans k2, k3⟩
  | _ => exact ⟨st', E', h1, h2, h3⟩
theorem Tr.block {id : Nat} {c : Code} (h : Tr P c (blockQ id Q) st) : Tr P (.block id c) Q st := fun keep w E a hI => by
  refine wp_block (Code.wp_mono ?_ (h keep w E a hI))
  rintro e a' w' ⟨st', E', h1, h2, h3⟩
  cases e with
  | exit i =>
    simp only [blockQ, Exit.inBlock] at h3 ⊢
    split at h3
    · rw [if_pos ‹_›]; exact ⟨st', E', h1, h2, h3⟩
    · rw [if_neg ‹_›]; exact ⟨st', E', h1, h2, h3⟩
  | _ => exact ⟨st', E', h1, h2, h3⟩
/-- No jump leaves it. -/
def scopeQ (Q : Exit → St → Prop) (e : Exit) (st : St) : Prop :=
  match e with
  | .goto _ => False
  | e => Q e st
theorem Tr.scope {c : Code} (h : Tr P c (scopeQ Q) st) : Tr P (.scope c) Q st := fun keep w E a hI => by
  refine wp_scope_straight (Code.wp_mono ?_ (h keep w E a hI))
  rintro e a' w' ⟨st', E', h1, h2, h3⟩
  cases e with
  | goto l => exact h3.elim
  | _ => exact ⟨st', E', h1, h2, h3⟩
theorem Tr.cond {c : Operand} {x y : Code} {b : Bool} (hc : aval st c = some (.sv (.val (.bool b)))) (ht : b = true → Tr P x Q st) (hf : b = false → Tr P y Q st) : Tr P (.cond c x y) Q st := fun keep w E a hI => by
  have hv := (aval_rep hI hc).val
  cases b with
  | true => exact wp_cond (t := true) hv (ht rfl keep w E a hI)
  | false => exact wp_cond (t := false) hv (hf rfl keep w E a hI)
theorem Tr.freeze {c : Code} (t : Nat) (h : Tr P c Q (st.freeze t)) : Tr P c Q st := fun keep w E a hI => by
  obtain ⟨E', h1, h2⟩ := freeze_inv hI t
  refine Code.wp_mono ?_ (h keep w E' a h1)
  rintro e a' w' ⟨st', E2, k1, k2, k3⟩
  exact ⟨st', E2, k1, h2.trans k2, k3⟩
theorem Tr.thaw {c : Code} (d t sz : Nat) (hd : lk st.t d = some .nil) (hf : st.fresh t = true) (hs : 0 < sz) (h : Tr P c Q { st with t := up st.t d (.own t), m := up st.m t (.row sz []) }) : Tr P c Q st := fun keep w E a hI => by
  obtain ⟨h1, h2⟩ := thaw_inv hI hd hf hs
  refine Code.wp_mono ?_ (h keep w _ a h1)
  rintro e a' w' ⟨st', E2, k1, k2, k3⟩
  exact ⟨st', E2, k1, h2.trans k2, k3⟩

theorem Rn.nil (h : K st) : Rn P ops [] K st := fun keep w E a hI => ⟨st, E, hI, Evo.refl _ _ _, rfl, h⟩
theorem Rn.freeze (t : Nat) (h : Rn P ops l K (st.freeze t)) : Rn P ops l K st := fun keep w E a hI => by
  obtain ⟨E', h1, h2⟩ := freeze_inv hI t
  refine wpList_mono' ?_ (h keep w E' a h1)
  rintro e a' w' ⟨st', E2, k1, k2, k3⟩
  exact ⟨st', E2, k1, h2.trans k2, k3⟩
  where wpList_mono' {Q Q' : Exit → Act → World → Prop} (hq : ∀ e a w, Q e a w → Q' e a w) : ∀ {l : List Oper} {a : Act} {w : World}, wpList P ops Q l a w → wpList P ops Q' l a w
  | [], a, w, h => hq _ _ _ h
  | o :: l, a, w, h => by
    unfold wpList at h ⊢
    split at h
    · rename_i hw
      rw [if_pos hw]
      rcases h with h | ⟨h1, a0, w0, h2⟩
      · left
        have key : ∀ {r : Result Next}, o.upon P a (wpList P ops Q l) Q r → o.upon P a (wpList P ops Q' l) Q' r := by
          intro r hr
          unfold Oper.upon at hr ⊢
          split at hr
          · exact wpList_mono' hq hr
          · exact wpList_mono' hq hr
          · exact wpList_mono' hq hr
          · refine Calls.mono hr ?_
            intro e w' he
            cases e with
            | returned v => exact wpList_mono' hq he
            | panicked c => exact hq _ _ _ he
            | outgrown => obtain ⟨a1, w1, h1⟩ := he; exact ⟨a1, w1, hq _ _ _ h1⟩
          · refine Rows.mono hr ?_
            intro v w' he
            exact wpList_mono' hq he
          · exact hq _ _ _ hr
          · exact hr.elim
        exact key h
      · exact .inr ⟨h1, a0, w0, hq _ _ _ h2⟩
    · rename_i hw
      rw [if_neg hw]
      exact wpList_mono' hq h
theorem Tr.region {id : Nat} {l : List Oper} (h : Rn P l.toArray l (fun st' => Q .normal st') st) : Tr P (.region id l.toArray false) Q st := fun keep w E a hI => by
  refine wp_region_lit (Rn.freeze.wpList_mono' ?_ (h keep w E a hI))
  rintro e a' w' ⟨st', E', h1, h2, rfl, h3⟩
  exact ⟨st', E', h1, h2, h3⟩

/-- Is an operation wanted? -/
def grd (ops : Array Oper) (st : St) (o : Oper) : Option Bool :=
  match o.guard with
  | none => some true
  | some (j, want) => match (ops[j]?).bind (·.dst) with
    | some d => match lk st.t d with
      | some (.sv (.val (.bool b))) => some (b == want)
      | some (.sv (.val _)) => some false
      | _ => none
    | none => none
theorem grd_run {keep : Nat → Prop} {w : World} {E : Env} {a : Act} {b : Bool} (hI : Inv keep w E st a) (h : grd ops st o = some b) : Region.wanted o (yielded ops a.tmps) = b := by
  unfold grd at h
  unfold Region.wanted
  split at h
  · rename_i hg; rw [hg]; simpa using h
  · rename_i j want hg
    rw [hg]
    dsimp only
    split at h
    case h_2 => cases h
    rename_i d hd
    split at h
    · rename_i b' hl
      obtain ⟨v, hv, hr⟩ := hI.tm d _ hl
      have := hr.val; subst this
      simp only [Option.some.injEq] at h; subst h
      simp [yielded, hd, hv]
    · rename_i u hnb hl
      obtain ⟨v, hv, hr⟩ := hI.tm d _ hl
      have := hr.val; subst this
      simp only [Option.some.injEq] at h; subst h
      have : yielded ops a.tmps j = none := by
        unfold yielded
        rw [hd]
        simp only [Option.bind_some, hv]
        split
        · rename_i b hb; exact (hnb b (by simpa using hb)).elim
        · rfl
      rw [this]
      rfl
    · cases h

theorem Does.wp {P : Program} {o : Oper} {st st' : St} (h : Does P o st st') {keep : Nat → Prop} {w : World} {E : Env} {a : Act} (hI : Inv keep w E st a) {N : Act → World → Prop} {Q : Exit → Act → World → Prop}
    (hN : ∀ a' w' E', Inv keep w' E' st' a' → Evo keep w E w' E' → N a' w') : o.wp P a w N Q := by
  obtain ⟨v, w', E', h1, h2, h3⟩ := h keep w E a hI
  unfold Oper.wp
  rcases h1 with h1 | ⟨h1, rfl⟩
  · rw [h1]; exact hN _ _ _ h2 h3
  · rw [h1]; exact hN _ _ _ h2 h3
theorem Rn.step {st' : St} (hg : grd ops st o = some true) (hd : Does P o st st') (h : Rn P ops l K st') : Rn P ops (o :: l) K st := fun keep w E a hI => by
  unfold wpList
  rw [if_pos (grd_run hI hg)]
  refine .inl (hd.wp hI fun a' w' E' h1 h2 => ?_)
  refine Rn.freeze.wpList_mono' ?_ (h keep w' E' a' h1)
  rintro e a2 w2 ⟨st2, E2, k1, k2, k3⟩
  exact ⟨st2, E2, k1, h2.trans k2, k3⟩
theorem Rn.skip (hg : grd ops st o = some false) (hd : st.fitsDst o.dst = true) (h : Rn P ops l K (st.put o.dst (.sv (.val undef)))) : Rn P ops (o :: l) K st := fun keep w E a hI => by
  unfold wpList
  rw [if_neg (by rw [grd_run hI hg]; simp)]
  exact h keep w E _ (hI.put hd (RepV.val_mk _))
theorem Rn.mono (h : Rn P ops l K st) (hk : ∀ st, K st → K' st) : Rn P ops l K' st := fun keep w E a hI => by
  refine Rn.freeze.wpList_mono' ?_ (h keep w E a hI)
  rintro e a2 w2 ⟨st2, E2, k1, k2, k3, k4⟩
  exact ⟨st2, E2, k1, k2, k3, hk _ k4⟩
end

/-! ### Loops -/
/-- So much of a state is known at least. -/
def St.le (st st' : St) : Prop := st.n = st'.n ∧ (∀ d x, lk st'.t d = some x → lk st.t d = some x) ∧ ∀ t o, lk st'.m t = some o → lk st.m t = some o
theorem Inv.le {keep : Nat → Prop} {w : World} {E : Env} {st st' : St} {a : Act} (h : Inv keep w E st a) (hl : st.le st') : Inv keep w E st' a := by
  obtain ⟨h1, h2, h3⟩ := hl
  have hp : ∀ s, Pass E E (lk st.m) (lk st'.m) s := fun s => by
    unfold Pass
    cases hs : lk st'.m s with
    | none => exact .inl rfl
    | some o =>
      refine .inr ⟨rfl, ?_⟩
      rw [h3 s o hs]
      cases o with
      | row k xs => exact .inl ⟨k, xs, xs, rfl, rfl, rfl⟩
      | box cs => exact .inr ⟨cs, cs, rfl, rfl⟩
  have hk : ∀ b, E.ok b → E.ok b ∧ w.heap[b]? = w.heap[b]? := fun b hb => ⟨hb, rfl⟩
  exact ⟨h.df, h.sz.trans h1, fun d x hx => let ⟨v, k1, k2⟩ := h.tm d x (h2 d x hx); ⟨v, k1, k2.keep hk (fun t _ => hp t)⟩,
    fun t o ho => (h.mm t o (h3 t o ho)).keep hk rfl (fun _ _ _ _ => rfl) (fun s _ _ _ => hp s),
    fun t t' o o' g c s c' s' k1 k2 => h.inj t t' o o' g c s c' s' (h3 _ _ k1) (h3 _ _ k2), fun t o g c s k1 => h.own t o g c s (h3 _ _ k1), h.okl, h.kpl⟩

mutual
/-- A tag is named anew. -/
def AV.ren (t t' : Nat) : AV → AV
  | .own s => .own (if s = t then t' else s)
  | .box s off => .box (if s = t then t' else s) off
  | .elt s i off => .elt (if s = t then t' else s) i off
  | .sv x => .sv x
  | .nil => .nil
  | .tup xs => .tup (AV.renL t t' xs)
  | .agg xs => .agg (AV.renL t t' xs)
  | .sl s n => .sl (if s = t then t' else s) n
  | .fnv g xs => .fnv g (AV.renL t t' xs)
def AV.renL (t t' : Nat) : List AV → List AV
  | [] => []
  | x :: xs => AV.ren t t' x :: AV.renL t t' xs
end
def Obj'.ren (t t' : Nat) : Obj' → Obj'
  | .row sz xs => .row sz xs
  | .box cs => .box (AV.renL t t' cs)
def St.rename (st : St) (t t' : Nat) : St :=
  match lk st.m t with
  | some o => { st with t := mapv (AV.ren t t') st.t, m := up (mapv (Obj'.ren t t') (rm st.m t)) t' (Obj'.ren t t' o) }
  | none => st
section
variable {kp : Nat → Prop} {w : World} {E : Env} {st : St} {a : Act} {t t' : Nat} {o : Obj'}
theorem ren_rep (m m' : Mem) (hne : t ≠ t') (h1 : ∀ s, s ≠ t → s ≠ t' → (m' s = none ∧ m s = none) ∨ (∃ k xs, m s = some (.row k xs) ∧ m' s = some (.row k xs)) ∨ (∃ cs ds, m s = some (.box cs) ∧ m' s = some (.box ds)))
    (h2 : (∃ k xs, m t = some (.row k xs) ∧ m' t' = some (.row k xs)) ∨ (∃ cs ds, m t = some (.box cs) ∧ m' t' = some (.box ds))) :
    ∀ {x : AV} {v : Value}, x.holds t' = false → RepV w E m x v → RepV w (E.set t' (E.at_ t)) m' (x.ren t t') v := by
  have hE : ∀ s, s ≠ t' → (E.set t' (E.at_ t)).at_ s = E.at_ s := fun s hs => by simp [Env.set, hs]
  have hE' : (E.set t' (E.at_ t)).at_ t' = E.at_ t := by simp [Env.set]
  intro x
  refine AV.rec (motive_1 := fun x => ∀ {v : Value}, x.holds t' = false → RepV w E m x v → RepV w (E.set t' (E.at_ t)) m' (x.ren t t') v) (motive_2 := fun l => ∀ {vs : List Value}, AV.holdsL t' l = false → RepVL w E m l vs → RepVL w (E.set t' (E.at_ t)) m' (AV.renL t t' l) vs)
    ?_ ?_ ?_ ?_ ?_ ?_ ?_ ?_ ?_ ?_ ?_ x
  · intro x v _ h; simp only [RepV, AV.ren] at h ⊢; exact h
  · intro v _ h; simpa only [RepV, AV.ren] using h
  · intro s v hh h
    simp only [AV.ren]
    simp only [AV.holds, beq_eq_false_iff_ne, ne_eq] at hh
    by_cases hs : s = t
    · subst hs
      rw [if_pos rfl]
      simp only [RepV] at h ⊢
      rcases h2 with ⟨k, xs, e1, e2⟩ | ⟨cs, ds, e1, e2⟩
      · rw [e1] at h; rw [e2, hE']; exact h
      · rw [e2]; trivial
    · rw [if_neg hs]
      simp only [RepV] at h ⊢
      rcases h1 s hs hh with ⟨e1, e2⟩ | ⟨k, xs, e1, e2⟩ | ⟨cs, ds, e1, e2⟩
      · rw [e1]; trivial
      · rw [e1] at h; rw [e2, hE s hh]; exact h
      · rw [e2]; trivial
  · intro s off v hh h
    simp only [AV.ren]
    simp only [AV.holds, beq_eq_false_iff_ne, ne_eq] at hh
    by_cases hs : s = t
    · subst hs
      rw [if_pos rfl]
      simp only [RepV] at h ⊢
      rcases h2 with ⟨k, xs, e1, e2⟩ | ⟨cs, ds, e1, e2⟩
      · rw [e2]; trivial
      · rw [e1] at h; rw [e2, hE']; exact h
    · rw [if_neg hs]
      simp only [RepV] at h ⊢
      rcases h1 s hs hh with ⟨e1, e2⟩ | ⟨k, xs, e1, e2⟩ | ⟨cs, ds, e1, e2⟩
      · rw [e1]; trivial
      · rw [e2]; trivial
      · rw [e1] at h; rw [e2, hE s hh]; exact h
  · intro s i off v hh h
    simp only [AV.ren]
    simp only [AV.holds, beq_eq_false_iff_ne, ne_eq] at hh
    by_cases hs : s = t
    · subst hs
      rw [if_pos rfl]
      simp only [RepV] at h ⊢
      rcases h2 with ⟨k, xs, e1, e2⟩ | ⟨cs, ds, e1, e2⟩
      · rw [e1] at h; rw [e2, hE']; exact h
      · rw [e2]; trivial
    · rw [if_neg hs]
      simp only [RepV] at h ⊢
      rcases h1 s hs hh with ⟨e1, e2⟩ | ⟨k, xs, e1, e2⟩ | ⟨cs, ds, e1, e2⟩
      · rw [e1]; trivial
      · rw [e1] at h; rw [e2, hE s hh]; exact h
      · rw [e2]; trivial
  · intro xs ih v hh h
    simp only [RepV, AV.ren] at h ⊢
    obtain ⟨cs, rfl, h⟩ := h
    exact ⟨cs, rfl, ih (by simpa only [AV.holds] using hh) h⟩
  · intro f xs ih v hh h
    simp only [RepV, AV.ren] at h ⊢
    obtain ⟨cs, rfl, h⟩ := h
    exact ⟨cs, rfl, ih (by simpa only [AV.holds] using hh) h⟩
  · intro xs ih v hh h
    simp only [RepV, AV.ren] at h ⊢
    obtain ⟨cs, rfl, h⟩ := h
    exact ⟨cs, rfl, ih (by simpa only [AV.holds] using hh) h⟩
  · intro s n v hh h
    simp only [AV.ren]
    simp only [AV.holds, beq_eq_false_iff_ne, ne_eq] at hh
    by_cases hs : s = t
    · subst hs
      rw [if_pos rfl]
      simp only [RepV] at h ⊢
      rcases h2 with ⟨k, xs, e1, e2⟩ | ⟨cs, ds, e1, e2⟩
      · rw [e2]; trivial
      · rw [e1] at h; rw [e2, hE']; exact h
    · rw [if_neg hs]
      simp only [RepV] at h ⊢
      rcases h1 s hs hh with ⟨e1, e2⟩ | ⟨k, xs, e1, e2⟩ | ⟨cs, ds, e1, e2⟩
      · rw [e1]; trivial
      · rw [e2]; trivial
      · rw [e1] at h; rw [e2, hE s hh]; exact h
  · intro vs _ h; simpa only [RepVL, AV.renL] using h
  · intro x xs ihx ihs vs hh h
    simp only [AV.holdsL, Bool.or_eq_false_iff] at hh
    simp only [RepVL, AV.renL] at h ⊢
    obtain ⟨v, vs', rfl, hx, hs⟩ := h
    exact ⟨v, vs', rfl, ihx hh.1 hx, ihs hh.2 hs⟩
theorem renL_rep (m m' : Mem) (hne : t ≠ t') (h1 : ∀ s, s ≠ t → s ≠ t' → (m' s = none ∧ m s = none) ∨ (∃ k xs, m s = some (.row k xs) ∧ m' s = some (.row k xs)) ∨ (∃ cs ds, m s = some (.box cs) ∧ m' s = some (.box ds)))
    (h2 : (∃ k xs, m t = some (.row k xs) ∧ m' t' = some (.row k xs)) ∨ (∃ cs ds, m t = some (.box cs) ∧ m' t' = some (.box ds))) :
    ∀ {l : List AV} {vs : List Value}, AV.holdsL t' l = false → RepVL w E m l vs → RepVL w (E.set t' (E.at_ t)) m' (AV.renL t t' l) vs
  | [], vs, _, h => by simpa only [RepVL, AV.renL] using h
  | x :: xs, vs, hh, h => by
    simp only [AV.holdsL, Bool.or_eq_false_iff] at hh
    simp only [RepVL, AV.renL] at h ⊢
    obtain ⟨v, vs', rfl, hx, hs⟩ := h
    exact ⟨v, vs', rfl, ren_rep m m' hne h1 h2 hh.1 hx, renL_rep m m' hne h1 h2 hh.2 hs⟩

theorem rename_inv (hI : Inv kp w E st a) (t t' : Nat) (hf : st.fresh t' = true) : ∃ E', Inv kp w E' (st.rename t t') a ∧ Evo kp w E w E' := by
  unfold St.rename
  split
  case h_2 => exact ⟨E, hI, Evo.refl _ _ _⟩
  rename_i o ho
  simp only [St.fresh, Bool.and_eq_true, Bool.not_eq_true', Option.isNone_iff_eq_none, decide_eq_true_eq] at hf
  obtain ⟨hpin, hh, hn⟩ := hf
  have hne : t ≠ t' := fun e => by rw [e, hn] at ho; cases ho
  have hlk : ∀ s, lk (up (mapv (Obj'.ren t t') (rm st.m t)) t' (Obj'.ren t t' o)) s = if t' = s then some (Obj'.ren t t' o) else if t = s then none else (lk st.m s).map (Obj'.ren t t') := fun s => by
    rw [lk_up, lk_mapv, lk_rm]
    split
    · rfl
    · split <;> rfl
  have h1 : ∀ s, s ≠ t → s ≠ t' → (lk (up (mapv (Obj'.ren t t') (rm st.m t)) t' (Obj'.ren t t' o)) s = none ∧ lk st.m s = none) ∨ (∃ k xs, lk st.m s = some (.row k xs) ∧ lk (up (mapv (Obj'.ren t t') (rm st.m t)) t' (Obj'.ren t t' o)) s = some (.row k xs)) ∨ (∃ cs ds, lk st.m s = some (.box cs) ∧ lk (up (mapv (Obj'.ren t t') (rm st.m t)) t' (Obj'.ren t t' o)) s = some (.box ds)) := by
    intro s hs hs'
    rw [hlk, if_neg (Ne.symm hs'), if_neg (Ne.symm hs)]
    cases lk st.m s with
    | none => exact .inl ⟨rfl, rfl⟩
    | some o' => cases o' with
      | row k xs => exact .inr (.inl ⟨k, xs, rfl, rfl⟩)
      | box cs => exact .inr (.inr ⟨cs, _, rfl, rfl⟩)
  have h2 : (∃ k xs, lk st.m t = some (.row k xs) ∧ lk (up (mapv (Obj'.ren t t') (rm st.m t)) t' (Obj'.ren t t' o)) t' = some (.row k xs)) ∨ (∃ cs ds, lk st.m t = some (.box cs) ∧ lk (up (mapv (Obj'.ren t t') (rm st.m t)) t' (Obj'.ren t t' o)) t' = some (.box ds)) := by
    rw [hlk, if_pos rfl, ho]
    cases o with
    | row k xs => exact .inl ⟨k, xs, rfl, rfl⟩
    | box cs => exact .inr ⟨cs, _, rfl, rfl⟩
  -- where each of the new memory's objects was
  have hsome : ∀ s o1, lk (up (mapv (Obj'.ren t t') (rm st.m t)) t' (Obj'.ren t t' o)) s = some o1 → ∃ s0 o2, lk st.m s0 = some o2 ∧ o1 = Obj'.ren t t' o2 ∧ (E.set t' (E.at_ t)).at_ s = E.at_ s0 ∧ ((s = t' ∧ s0 = t) ∨ (s ≠ t' ∧ s0 = s)) := by
    intro s o1 hs
    rw [hlk] at hs
    split at hs
    · rename_i e
      simp only [Option.some.injEq] at hs
      exact ⟨t, o, ho, hs.symm, by simp [Env.set, e], .inl ⟨e.symm, rfl⟩⟩
    · rename_i e
      split at hs
      · cases hs
      · obtain ⟨o2, k1, k2⟩ := Option.map_eq_some_iff.1 hs
        exact ⟨s, o2, k1, k2.symm, by simp [Env.set, Ne.symm e], .inr ⟨Ne.symm e, rfl⟩⟩
  refine ⟨E.set t' (E.at_ t), ⟨hI.df, hI.sz, fun d x hx => ?_, fun s o1 hs => ?_, fun s s' o1 o2 g c1 z1 c2 z2 k1 k2 e1 e2 => ?_, fun s o1 g c z hs hg => ?_, hI.okl, hI.kpl⟩, ⟨rfl, rfl, rfl, Nat.le_refl _, fun _ _ => rfl, fun b hb => ⟨hb, rfl⟩, fun b hb => .inl hb, Env.set_pin hpin⟩⟩
  · rw [lk_mapv] at hx
    obtain ⟨x0, hx0, rfl⟩ := Option.map_eq_some_iff.1 hx
    obtain ⟨v, hv, hr⟩ := hI.tm d x0 hx0
    exact ⟨v, hv, ren_rep _ _ hne h1 h2 (held_t hh hx0) hr⟩
  · obtain ⟨s0, o2, k1, rfl, k3, _⟩ := hsome s o1 hs
    have k4 := hI.mm s0 o2 k1
    cases o2 with
    | row sz xs =>
      obtain ⟨h0, h⟩ := k4
      refine ⟨h0, ?_⟩
      rw [k3]
      exact h
    | box cs =>
      obtain ⟨g, c, sz, e, cur, q1, q2, q3⟩ := k4
      exact ⟨g, c, sz, e, cur, by rw [k3]; exact q1, q2, renL_rep _ _ hne h1 h2 (held_m hh k1) q3⟩
  · obtain ⟨s0, p1, q1, _, q3, q4⟩ := hsome s o1 k1
    obtain ⟨s1, p2, r1, _, r3, r4⟩ := hsome s' o2 k2
    rw [q3] at e1
    rw [r3] at e2
    have := hI.inj s0 s1 p1 p2 g c1 z1 c2 z2 q1 r1 e1 e2
    have n1 : s0 ≠ t' := fun e => by rw [e, hn] at q1; cases q1
    have n2 : s1 ≠ t' := fun e => by rw [e, hn] at r1; cases r1
    have n3 : s ≠ t := fun e => by rw [e, hlk, if_neg (Ne.symm hne), if_pos rfl] at k1; cases k1
    have n4 : s' ≠ t := fun e => by rw [e, hlk, if_neg (Ne.symm hne), if_pos rfl] at k2; cases k2
    omega
  · obtain ⟨s0, p1, q1, _, q3, _⟩ := hsome s o1 hs
    rw [q3] at hg
    exact hI.own s0 p1 g c z q1 hg
end

/-- What a state says, another one says too. -/
def Ent (st st' : St) : Prop := ∀ (keep : Nat → Prop) (w : World) (E : Env) (a : Act), Inv keep w E st a → ∃ E', Inv keep w E' st' a ∧ Evo keep w E w E'
theorem Ent.refl (st : St) : Ent st st := fun _ _ E _ h => ⟨E, h, Evo.refl _ _ _⟩
theorem Ent.trans {a b c : St} (h : Ent a b) (k : Ent b c) : Ent a c := fun kp w E x hI => by
  obtain ⟨E1, h1, h2⟩ := h kp w E x hI
  obtain ⟨E2, k1, k2⟩ := k kp w E1 x h1
  exact ⟨E2, k1, h2.trans k2⟩
theorem Ent.le {a b : St} (h : a.le b) : Ent a b := fun kp w E x hI => ⟨E, hI.le h, Evo.refl _ _ _⟩
theorem Ent.freeze {a b : St} (t : Nat) (h : Ent (a.freeze t) b) : Ent a b := fun kp w E x hI => by
  obtain ⟨E1, h1, h2⟩ := freeze_inv hI t
  obtain ⟨E2, k1, k2⟩ := h kp w E1 x h1
  exact ⟨E2, k1, h2.trans k2⟩
theorem Ent.rename {a b : St} (t t' : Nat) (hf : a.fresh t' = true) (h : Ent (a.rename t t') b) : Ent a b := fun kp w E x hI => by
  obtain ⟨E1, h1, h2⟩ := rename_inv hI t t' hf
  obtain ⟨E2, k1, k2⟩ := h kp w E1 x h1
  exact ⟨E2, k1, h2.trans k2⟩
theorem Ent.thaw {a b : St} (d t sz : Nat) (hd : lk a.t d = some .nil) (hf : a.fresh t = true) (hs : 0 < sz) (h : Ent { a with t := up a.t d (.own t), m := up a.m t (.row sz []) } b) : Ent a b := fun kp w E x hI => by
  obtain ⟨h1, h2⟩ := thaw_inv hI hd hf hs
  obtain ⟨E2, k1, k2⟩ := h kp w _ x h1
  exact ⟨E2, k1, h2.trans k2⟩
theorem Tr.ent {P : Program} {c : Code} {Q : Exit → St → Prop} {st st' : St} (h : Ent st st') (k : Tr P c Q st') : Tr P c Q st := fun keep w E a hI => by
  obtain ⟨E1, h1, h2⟩ := h keep w E a hI
  refine Code.wp_mono ?_ (k keep w E1 a h1)
  rintro e a' w' ⟨st2, E2, k1, k2, k3⟩
  exact ⟨st2, E2, k1, h2.trans k2, k3⟩
theorem Rn.ent {P : Program} {ops : Array Oper} {l : List Oper} {K : St → Prop} {st st' : St} (h : Ent st st') (k : Rn P ops l K st') : Rn P ops l K st := fun keep w E a hI => by
  obtain ⟨E1, h1, h2⟩ := h keep w E a hI
  refine Rn.freeze.wpList_mono' ?_ (k keep w E1 a h1)
  rintro e a' w' ⟨st2, E2, k1, k2, k3⟩
  exact ⟨st2, E2, k1, h2.trans k2, k3⟩

theorem wp_loop' {P : Program} {Q : Exit → Act → World → Prop} {c : Code} (I : Nat → Act → World → Prop)
    (round : ∀ n a w, I n a w → c.wp P (Exit.then (fun a' w' => ∃ m, m < n ∧ I m a' w') Q) a w) {n0 : Nat} {a : Act} {w : World} (h₀ : I n0 a w) : (Code.loop c).wp P Q a w := by
  intro b k cs
  have key : ∀ n a w, I n a w → ∃ e a' w', Q e a' w' ∧ Arrives P (lone (b.at a (.code c :: .inLoop c :: k)) cs w) b k cs e a' w' := by
    intro n
    induction n using Nat.strongRecOn with
    | _ n ih =>
      intro a w hI
      obtain ⟨e, a₁, w₁, hq, harr⟩ := round n a w hI b (.inLoop c :: k) cs
      cases e with
      | normal =>
        obtain ⟨m, hlt, hI₁⟩ := hq
        obtain ⟨e₂, a₂, w₂, hq₂, harr₂⟩ := ih m hlt a₁ w₁ hI₁
        exact ⟨e₂, a₂, w₂, hq₂, .of_steps (Steps.trans harr (.one step_inLoop)) harr₂⟩
      | exit id => exact ⟨_, a₁, w₁, hq, .pass (x := .inLoop c) rfl (fun _ _ => .inl (by simp)) harr⟩
      | goto l => exact ⟨_, a₁, w₁, hq, .pass (x := .inLoop c) rfl (fun _ _ => .inl (by simp)) harr⟩
      | ret => exact ⟨_, a₁, w₁, hq, .pass (x := .inLoop c) rfl (fun _ _ => .inl (by simp)) harr⟩
      | panic ch => exact ⟨_, a₁, w₁, hq, .pass (x := .inLoop c) rfl (fun _ _ => .inl (by simp)) harr⟩
      | outgrown => exact ⟨_, a₁, w₁, hq, .pass (x := .inLoop c) rfl (fun _ _ => .inl (by simp)) harr⟩
  obtain ⟨e, a', w', hq, harr⟩ := key _ a w h₀
  exact ⟨e, a', w', hq, .of_steps (.one step_loop) harr⟩

/-- A loop: states told by s, of which I holds; what is left grows less. -/
theorem Tr.loop {P : Program} {c : Code} {Q : Exit → St → Prop} {st : St} {σ : Type} (S : σ → St) (I : σ → Prop) (μ : σ → Nat) (s0 : σ) (h0 : I s0) (hst : Ent st (S s0))
    (round : ∀ s, I s → Tr P c (thenQ (fun st' => ∃ s', I s' ∧ μ s' < μ s ∧ Ent st' (S s')) Q) (S s)) : Tr P (.loop c) Q st := fun keep w E a hI => by
  obtain ⟨E0, k1, k2⟩ := hst keep w E a hI
  refine wp_loop' (fun n a' w' => ∃ s E', μ s = n ∧ I s ∧ Inv keep w' E' (S s) a' ∧ Evo keep w E w' E') ?_ ⟨s0, E0, rfl, h0, k1, k2⟩
  rintro n a1 w1 ⟨s, E1, rfl, hs, q1, q2⟩
  refine Code.wp_mono ?_ (round s hs keep w1 E1 a1 q1)
  rintro e a2 w2 ⟨st2, E2, r1, r2, r3⟩
  cases e with
  | normal =>
    obtain ⟨s', hs', hlt, hent⟩ := r3
    obtain ⟨E3, u1, u2⟩ := hent keep w2 E2 a2 r1
    exact ⟨μ s', hlt, s', E3, rfl, hs', u1, q2.trans (r2.trans u2)⟩
  | _ => exact ⟨st2, E2, r1, q2.trans r2, r3⟩
end Go.Proofs.YtfcojlagmmgagaaDoor.Ab
