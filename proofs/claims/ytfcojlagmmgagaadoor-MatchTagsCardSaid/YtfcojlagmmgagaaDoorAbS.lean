/- The abstract layer, part S: calls that change what their caller owns. -/
import Derived.Test.YtfcojlagmmgagaaDoorAbQ
namespace Go.Proofs.YtfcojlagmmgagaaDoor.Ab
open Go.RowKit
set_option linter.unusedVariables false
set_option linter.unusedSimpArgs false

section
variable {kp kq : Nat → Prop} {w w' : World} {E E1 : Env} {st : St} {a : Act}
open Classical in
/-- Results that lie in the world are laid into the state. -/
theorem Inv.addRes (hI : Inv kp w E st a) {r : RV} {vs : List Value} (h1 : Inv kq w E1 (cst r.comps) ⟨vs.toArray, []⟩) (hok : ∀ b, E1.ok b → E.ok b)
    (hdis : ∀ (j sz : Nat) (xs : List SV) (g c s : Nat), r.comps[j]? = some (.own sz xs) → E1.at_ j = some (g, c, s) → ¬ E.ok g ∧ ¬ kp g ∧ ∀ (t : Nat) (o : Obj') (c' s' : Nat), lk st.m t = some o → E.at_ t ≠ some (g, c', s'))
    {dst : Option Nat} (hF : st.impFresh dst r = true) : ∃ E2, Inv kp w E2 (st.imp dst r) (a.put dst (r.val vs)) ∧ Evo kp w E w E2 := by
  have hevo : ∀ at2, (∀ t, 1000000 ≤ t → at2 t = E.at_ t) → Evo kp w E w ⟨E.ok, at2⟩ := fun at2 hat2 =>
    ⟨rfl, rfl, rfl, Nat.le_refl _, fun _ _ => rfl, fun b hb => ⟨hb, rfl⟩, fun b hb => .inl hb, hat2⟩
  cases dst with
  | none => exact ⟨E, hI, Evo.refl _ _ _⟩
  | some d =>
    simp only [St.impFresh, Bool.and_eq_true, decide_eq_true_eq] at hF
    obtain ⟨hF, hdn⟩ := hF
    have hfr := impF_get r.comps 0 hF
    let at2 : Nat → Option (Nat × Nat × Nat) := fun t => if ∃ j sz xs, r.comps[j]? = some (.own sz xs) ∧ t = tagf d (0 + j) then E1.at_ ((t - d) / 1000) else E.at_ t
    have hokold : ∀ b, E.ok b → (⟨E.ok, at2⟩ : Env).ok b ∧ w.heap[b]? = w.heap[b]? := fun b hb => ⟨hb, rfl⟩
    have hdiv : ∀ j, (tagf d (0 + j) - d) / 1000 = j := fun j => by unfold tagf; omega
    have at_new : ∀ j sz xs, r.comps[j]? = some (.own sz xs) → at2 (tagf d (0 + j)) = E1.at_ j := fun j sz xs h => by
      show (if _ then _ else _) = _
      rw [if_pos ⟨j, sz, xs, h, rfl⟩, hdiv]
    have hnone : ∀ j sz xs, r.comps[j]? = some (.own sz xs) → lk st.m (tagf d (0 + j)) = none ∧ st.held (tagf d (0 + j)) = false := fun j sz xs h => by
      have := hfr j sz xs h
      simp only [St.fresh, Bool.and_eq_true, Bool.not_eq_true', Option.isNone_iff_eq_none] at this
      exact ⟨this.2.2, this.2.1⟩
    have at_old : ∀ t, (∀ j sz xs, r.comps[j]? = some (.own sz xs) → t ≠ tagf d (0 + j)) → at2 t = E.at_ t := fun t h => by
      show (if _ then _ else _) = _
      rw [if_neg]
      rintro ⟨j, sz, xs, h9, h10⟩
      exact h j sz xs h9 h10
    have hlk := impM_lk (tagf_inj d) r.comps 0 st.m
    have hp : ∀ s, (∀ j sz xs, r.comps[j]? = some (.own sz xs) → s ≠ tagf d (0 + j)) → Pass E ⟨E.ok, at2⟩ (lk st.m) (lk (impM (tagf d) 0 r.comps st.m)) s := fun s hs => by
      unfold Pass
      rcases hlk s with ⟨j, sz, xs, h9, h10, _⟩ | ⟨_, h10⟩
      · exact (hs j sz xs h9 h10).elim
      · rw [h10]
        rcases same_tags E (lk st.m) s with h | ⟨_, h⟩
        · exact .inl h
        · exact .inr ⟨at_old s hs, h⟩
    have hlive : ∀ s, st.held s = true → ∀ j sz xs, r.comps[j]? = some (.own sz xs) → s ≠ tagf d (0 + j) := fun s hs j sz xs h e => by
      rw [e, (hnone j sz xs h).2] at hs; cases hs
    have hmem : ∀ s o, lk st.m s = some o → ∀ j sz xs, r.comps[j]? = some (.own sz xs) → s ≠ tagf d (0 + j) := fun s o hs j sz xs h e => by
      rw [e, (hnone j sz xs h).1] at hs; cases hs
    have part : ∀ (x : SV) {v : Value}, RepS w E1.ok x v → RepS w E.ok x v := fun x v hv => hv.keep fun b hb => ⟨hok b hb, rfl⟩
    have hcl : ∀ j sz xs, r.comps[j]? = some (.own sz xs) → lk (cst r.comps).m j = some (.row sz xs) := fun j sz xs hj => by rw [cst_lkm, hj]
    have hrow : ∀ j sz xs, r.comps[j]? = some (.own sz xs) → MemRep w E1 (lk (cst r.comps).m) j (.row sz xs) := fun j sz xs hj => h1.mm j _ (hcl j sz xs hj)
    have hInv : Inv kp w ⟨E.ok, at2⟩ { st with m := impM (tagf d) 0 r.comps st.m } a := by
      refine ⟨hI.df, hI.sz, fun e x hx => ?_, fun t o ho => ?_, fun t t' o o' g c s c' s' k1 k2 e1 e2 => ?_, fun t o g c s ho hg => ?_, hI.okl, hI.kpl⟩
      · obtain ⟨v, k1, k2⟩ := hI.tm e x hx
        refine ⟨v, k1, k2.keep hokold (fun t ht => hp t (hlive t ?_))⟩
        cases hh : st.held t with
        | true => rfl
        | false => rw [held_t hh hx] at ht; cases ht
      · rcases hlk t with ⟨j, sz, xs, h9, h10, h11⟩ | ⟨h9, h10⟩
        · rw [h11] at ho
          simp only [Option.some.injEq] at ho; subst ho
          obtain ⟨h0, hr⟩ := hrow j sz xs h9
          refine ⟨h0, ?_⟩
          rw [h10, show (⟨E.ok, at2⟩ : Env).at_ (tagf d (0 + j)) = E1.at_ j from at_new j sz xs h9]
          rcases hr with hr | ⟨g, c, e, cur, vs', k1, k2, k3, k4, k5, k6, k7, k8⟩
          · exact .inl hr
          · exact .inr ⟨g, c, e, cur, vs', k1, k2, k3, k4, k5, k6, RepL.of k7.len (fun i x v hx hv => part x (k7.get i x v hx hv)), k8⟩
        · rw [h10] at ho
          refine (hI.mm t o ho).keep hokold (at_old t h9) (fun g c s hg => rfl) (fun s cs hcs hs => hp s (hlive s ?_))
          subst hcs
          cases hh : st.held s with
          | true => rfl
          | false => rw [held_m hh ho] at hs; cases hs
      · rcases hlk t with ⟨j, sz, xs, h9, h10, h11⟩ | ⟨h9, h10⟩ <;> rcases hlk t' with ⟨j', sz', xs', h9', h10', h11'⟩ | ⟨h9', h10'⟩
        · rw [h10] at e1 ⊢
          rw [h10'] at e2 ⊢
          simp only at e1 e2
          rw [at_new j sz xs h9] at e1
          rw [at_new j' sz' xs' h9'] at e2
          rw [h1.inj j j' _ _ g c s c' s' (hcl j sz xs h9) (hcl j' sz' xs' h9') e1 e2]
        · rw [h10] at e1
          simp only at e1 e2
          rw [at_new j sz xs h9] at e1
          rw [at_old t' h9'] at e2
          rw [h10'] at k2
          exact ((hdis j sz xs g c s h9 e1).2.2 t' o' c' s' k2 e2).elim
        · rw [h10'] at e2
          simp only at e1 e2
          rw [at_new j' sz' xs' h9'] at e2
          rw [at_old t h9] at e1
          rw [h10] at k1
          exact ((hdis j' sz' xs' g c' s' h9' e2).2.2 t o c s k1 e1).elim
        · simp only at e1 e2
          rw [at_old t h9] at e1
          rw [at_old t' h9'] at e2
          rw [h10] at k1
          rw [h10'] at k2
          exact hI.inj t t' o o' g c s c' s' k1 k2 e1 e2
      · rcases hlk t with ⟨j, sz, xs, h9, h10, h11⟩ | ⟨h9, h10⟩
        · rw [h10] at hg
          simp only at hg
          rw [at_new j sz xs h9] at hg
          have q := hdis j sz xs g c s h9 hg
          exact ⟨(h1.own j _ g c s (hcl j sz xs h9) hg).1, q.1, q.2.1⟩
        · simp only at hg
          rw [at_old t h9] at hg
          rw [h10] at ho
          exact hI.own t o g c s ho hg
    refine ⟨⟨E.ok, at2⟩, ?_, hevo _ (fun t ht => at_old t fun j sz xs h e => by have := St.fresh_pin (hfr j sz xs h); omega)⟩
    refine hInv.put (dst := some d) (by simpa [St.fitsDst] using hdn) ?_
    have comp : ∀ (j : Nat) (c : R1), r.comps[j]? = some c → ∃ v, vs[j]? = some v ∧ RepV w ⟨E.ok, at2⟩ (lk (impM (tagf d) 0 r.comps st.m)) (c.av (tagf d (0 + j))) v := fun j c hc => by
      have hl := cst_lkt r.comps j
      rw [hc] at hl
      simp only [Option.map_some] at hl
      obtain ⟨v, k1, k2⟩ := h1.tm j (c.av j) hl
      refine ⟨v, by simpa using k1, ?_⟩
      cases c with
      | sv x =>
        simp only [R1.av, RepV] at k2 ⊢
        exact part x k2
      | nil => simpa only [R1.av, RepV] using k2
      | own sz xs =>
        simp only [R1.av, RepV] at k2 ⊢
        have l2 : lk (impM (tagf d) 0 r.comps st.m) (tagf d (0 + j)) = some (.row sz xs) := by
          rcases hlk (tagf d (0 + j)) with ⟨j', sz', xs', h9, h10, h11⟩ | ⟨h9, _⟩
          · have := tagf_inj d _ _ h10
            rw [show j' = j by omega, hc] at h9
            simp only [Option.some.injEq, R1.own.injEq] at h9
            obtain ⟨rfl, rfl⟩ := h9
            exact h11
          · exact (h9 j sz xs hc rfl).elim
        rw [hcl j sz xs hc] at k2
        rw [l2, at_new j sz xs hc]
        exact k2
    cases r with
    | one c =>
      obtain ⟨v, k1, k2⟩ := comp 0 c rfl
      simp only [RV.av, RV.val]
      cases vs with
      | nil => simp at k1
      | cons u vs => simp at k1; subst k1; exact k2
    | many rs =>
      simp only [RV.av, RV.val, RepV]
      refine ⟨vs.toArray, rfl, RepVL.of ?_ fun i x v hx hv => ?_⟩
      · have hn := h1.sz
        simp only [List.size_toArray, cst, RV.comps] at hn
        simp [impT_len, hn]
      · rw [impT_get] at hx
        obtain ⟨c, hc, rfl⟩ := Option.map_eq_some_iff.1 hx
        obtain ⟨u, k1, k2⟩ := comp i c hc
        simp only at hv
        rw [k1] at hv
        simp only [Option.some.injEq] at hv; subst hv
        exact k2
end

/-! ### The contract -/
/-- An argument of a function that changes one object of its caller's. -/
inductive XA where
  | sv (x : SV)
  | own
  | box (off : Nat)
def XA.av : XA → AV
  | .sv x => .sv x
  | .own => .own 1000000
  | .box off => .box 1000000 off
def XA.rep (w : World) (ok : Nat → Prop) (x : Option (Nat × Nat × Nat)) (o : Obj') : XA → Value → Prop
  | .sv y, v => RepS w ok y v
  | .own, v => ∃ k xs, o = .row k xs ∧ match x with
    | none => ∃ a, v = .slice a 0 0
    | some (g, c, _) => v = .slice (some ⟨g, 0, none⟩) xs.length c
  | .box off, v => ∃ cs, o = .box cs ∧ ∃ g c sz, x = some (g, c, sz) ∧ v = .pointer (some ⟨g, off, none⟩)
def XA.repL (w : World) (ok : Nat → Prop) (x : Option (Nat × Nat × Nat)) (o : Obj') : List XA → List Value → Prop
  | [], vs => vs = []
  | y :: ys, vs => ∃ v vs', vs = v :: vs' ∧ XA.rep w ok x o y v ∧ XA.repL w ok x o ys vs'
/-- All that was, but for one block. -/
def xkeep (w : World) (x : Option (Nat × Nat × Nat)) (b : Nat) : Prop := b < w.heap.size ∧ ∀ g c s, x = some (g, c, s) → b ≠ g
/-- Does an object hold shared values alone? -/
def Obj'.svOnly : Obj' → Bool
  | .row _ _ => true
  | .box cs => (AV.svs cs).isSome
def OMem (w : World) (ok : Nat → Prop) (x : Option (Nat × Nat × Nat)) (o : Obj') : Prop := MemRep w ⟨ok, fun _ => x⟩ (fun _ => none) 0 o
def ACallsI (P : Program) (g : FuncId) (args : List XA) (o : Obj') (R : RV → Obj' → Prop) : Prop :=
  ∃ g', (∀ (cargs : Array Value) (w : World), (callFunc g cargs).run P w = .ok (.enter g' cargs) w) ∧
    ∀ (w : World) (ok : Nat → Prop) (x : Option (Nat × Nat × Nat)) (cargs : Array Value), (∀ b, ok b → xkeep w x b) → GW w ok → (∀ g c s, x = some (g, c, s) → g < w.heap.size) → OMem w ok x o → XA.repL w ok x o args cargs.toList →
      Calls P g' cargs w (fun e w' => ∃ (r : RV) (vs : List Value) (E1 : Env) (o' : Obj'), R r o' ∧ e = .returned (r.val vs) ∧ Inv (xkeep w x) w' E1 (cst r.comps) ⟨vs.toArray, []⟩ ∧ Evo (xkeep w x) w ⟨ok, E1.at_⟩ w' E1 ∧ OMem w' E1.ok x o' ∧ o'.svOnly = true ∧
        ∀ g c s, x = some (g, c, s) → ¬ E1.ok g ∧ ∀ j sz xs c' s', r.comps[j]? = some (.own sz xs) → E1.at_ j ≠ some (g, c', s'))
theorem ACallsI.mono {P : Program} {g : FuncId} {args : List XA} {o : Obj'} {R R' : RV → Obj' → Prop} (h : ACallsI P g args o R) (hr : ∀ r o', R r o' → R' r o') : ACallsI P g args o R' := by
  obtain ⟨g', h1, h2⟩ := h
  refine ⟨g', h1, fun w ok x cargs k1 k0 k2 k3 k4 => (h2 w ok x cargs k1 k0 k2 k3 k4).mono ?_⟩
  rintro e w' ⟨r, vs, E1, o', q1, q2⟩
  exact ⟨r, vs, E1, o', hr _ _ q1, q2⟩

theorem svs_rep {w : World} {E E' : Env} {m m' : Mem} : ∀ {cs : List AV} {ys : List SV} {vs : List Value}, AV.svs cs = some ys → E'.ok = E.ok → RepVL w E m cs vs → RepVL w E' m' cs vs
  | [], ys, vs, _, _, h => by simpa only [RepVL] using h
  | c :: cs, ys, vs, hs, he, h => by
    cases c with
    | sv x =>
      simp only [AV.svs] at hs
      cases hq : AV.svs cs with
      | none => rw [hq] at hs; cases hs
      | some zs =>
        simp only [RepVL, RepV] at h ⊢
        obtain ⟨v, vs', rfl, h1, h2⟩ := h
        exact ⟨v, vs', rfl, by rw [he]; exact h1, svs_rep hq he h2⟩
    | nil =>
      simp only [AV.svs] at hs
      cases hq : AV.svs cs with
      | none => rw [hq] at hs; cases hs
      | some zs =>
        simp only [RepVL, RepV] at h ⊢
        obtain ⟨v, vs', rfl, h1, h2⟩ := h
        exact ⟨v, vs', rfl, h1, svs_rep hq he h2⟩
    | _ => simp [AV.svs] at hs
theorem OMem.to {w : World} {E : Env} {m : Mem} {t : Nat} {o : Obj'} (ho : o.svOnly = true) (h : OMem w E.ok (E.at_ t) o) : MemRep w E m t o := by
  unfold OMem at h
  cases o with
  | row sz xs => exact h
  | box cs =>
    obtain ⟨ys, hy⟩ := Option.isSome_iff_exists.1 ho
    obtain ⟨g, c, sz, e, cur, h1, h2, h3⟩ := h
    exact ⟨g, c, sz, e, cur, h1, h2, svs_rep (E := ⟨E.ok, fun _ => E.at_ t⟩) (E' := E) hy rfl h3⟩
theorem OMem.of {w : World} {E : Env} {m : Mem} {t : Nat} {o : Obj'} (ho : o.svOnly = true) (h : MemRep w E m t o) : OMem w E.ok (E.at_ t) o := by
  unfold OMem
  cases o with
  | row sz xs => exact h
  | box cs =>
    obtain ⟨ys, hy⟩ := Option.isSome_iff_exists.1 ho
    obtain ⟨g, c, sz, e, cur, h1, h2, h3⟩ := h
    exact ⟨g, c, sz, e, cur, h1, h2, svs_rep (E := E) (E' := ⟨E.ok, fun _ => E.at_ t⟩) hy rfl h3⟩
/-- Alike in kind, and rows in length. -/
def Obj'.like : Obj' → Obj' → Prop
  | .row k xs, .row k' ys => k = k' ∧ xs.length = ys.length
  | .box _, .box _ => True
  | _, _ => False
/-- The arguments of such a call. -/
def XA.of (t : Nat) (o : Obj') (X : AV) : Option XA :=
  match X with
  | .sv x => some (.sv x)
  | .nil => some (.sv (.lst []))
  | .own s => match o with
    | .row _ _ => if s = t then some .own else none
    | .box _ => none
  | .box s off => match o with
    | .row _ _ => none
    | .box _ => if s = t then some (.box off) else none
  | _ => none
def argX (st : St) (t : Nat) (o : Obj') : List Operand → Option (List XA)
  | [] => some []
  | x :: xs => match aval st x, argX st t o xs with
    | some X, some ys => (XA.of t o X).map (· :: ys)
    | _, _ => none
section
variable {kp : Nat → Prop} {w : World} {E : Env} {st : St} {a : Act}
theorem argX_rep (hI : Inv kp w E st a) {t : Nat} {o : Obj'} (hm : lk st.m t = some o) : ∀ {l : List Operand} {ys : List XA}, argX st t o l = some ys → XA.repL w E.ok (E.at_ t) o ys (l.map a.eval)
  | [], ys, h => by simp only [argX, Option.some.injEq] at h; subst h; simp [XA.repL]
  | x :: xs, ys, h => by
    simp only [argX] at h
    split at h
    case h_2 => cases h
    rename_i X ys' hX hys
    obtain ⟨y, hy, rfl⟩ := Option.map_eq_some_iff.1 h
    refine ⟨_, _, rfl, ?_, argX_rep hI hm hys⟩
    have hr := aval_rep hI hX
    unfold XA.of at hy
    split at hy
    · simp only [Option.some.injEq] at hy; subst hy
      simpa only [XA.rep, RepV] using hr
    · simp only [Option.some.injEq] at hy; subst hy
      simp only [RepV] at hr
      simp only [XA.rep, RepS]
      exact ⟨none, 0, by simpa using hr, by simp, by simp⟩
    · rename_i s
      cases o with
      | row k zs =>
        simp only at hy
        split at hy
        · rename_i e
          subst e
          simp only [Option.some.injEq] at hy; subst hy
          simp only [RepV, hm] at hr
          exact ⟨k, zs, rfl, hr⟩
        · cases hy
      | box cs => cases hy
    · rename_i s off
      cases o with
      | row k zs => cases hy
      | box cs =>
        simp only at hy
        split at hy
        · rename_i e
          subst e
          simp only [Option.some.injEq] at hy; subst hy
          simp only [RepV, hm] at hr
          exact ⟨cs, rfl, hr⟩
        · cases hy
    · cases hy

variable {P : Program} {ops : Array Oper} {l : List Oper} {K : St → Prop} {o : Oper}
theorem Rn.callI {f : FuncId} {xs : Array Operand} {ts : Array TypeId} {args : List XA} {t : Nat} {ob : Obj'} {R : RV → Obj' → Prop} (hg : grd ops st o = some true) (ho : o.op = .call { callee := .value (.func f), args := xs, argTypes := ts })
    (hm : lk st.m t = some ob) (hs : ob.svOnly = true) (ha : argX st t ob xs.toList = some args) (hc : ACallsI P f args ob R)
    (h : ∀ r o', R r o' → ob.like o' ∧ ({ st with m := up st.m t o' } : St).impFresh o.dst r = true ∧ Rn P ops l K (({ st with m := up st.m t o' } : St).imp o.dst r)) : Rn P ops (o :: l) K st := fun keep w E a hI => by
  unfold wpList
  rw [if_pos (grd_run hI hg)]
  refine .inl ?_
  obtain ⟨g', hc1, hc2⟩ := hc
  have hown : ∀ g c s, E.at_ t = some (g, c, s) → g < w.heap.size ∧ ¬ E.ok g ∧ ¬ keep g := fun g c s hx => hI.own t ob g c s hm hx
  have hok0 : ∀ b, E.ok b → xkeep w (E.at_ t) b := fun b hb => ⟨hI.okl b hb, fun g c s hx e => (hown g c s hx).2.1 (e ▸ hb)⟩
  have hcall := hc2 w E.ok (E.at_ t) (xs.map a.eval) hok0 hI.okl.gw (fun g c s hx => (hown g c s hx).1) (OMem.of hs (hI.mm t ob hm)) (by simpa using argX_rep hI hm ha)
  have hrun : (execOp a.eval o).run P w = .ok (.enter g' (xs.map a.eval)) w := by
    unfold execOp
    rw [ho]
    simp [resolve, Deferred.ofValue, Act.eval, invoke, hc1]
  unfold Oper.wp
  rw [hrun, Oper.upon_enter]
  refine hcall.mono ?_
  rintro e w' ⟨r, vs, E1, o', hR, rfl, h1, h2, h3, h4, h5⟩
  obtain ⟨hlike, hF, hk⟩ := h r o' hR
  have hkeep : ∀ b, xkeep w (E.at_ t) b → w'.heap[b]? = w.heap[b]? := h2.kp
  have hoks : ∀ b, E.ok b → (⟨E1.ok, E.at_⟩ : Env).ok b ∧ w'.heap[b]? = w.heap[b]? := h2.oks
  have hat : ∀ s o1, lk (up st.m t o') s = some o1 → (s = t ∧ o1 = o') ∨ (s ≠ t ∧ lk st.m s = some o1) := fun s o1 hs => by
    rw [lk_up] at hs
    split at hs
    · simp at hs; exact .inl ⟨by omega, hs.symm⟩
    · exact .inr ⟨by omega, hs⟩
  have hex : ∀ s o1, lk (up st.m t o') s = some o1 → ∃ o2, lk st.m s = some o2 := fun s o1 hs => by
    rcases hat s o1 hs with ⟨rfl, _⟩ | ⟨_, h1⟩
    · exact ⟨ob, hm⟩
    · exact ⟨o1, h1⟩
  have hother : ∀ s o1 g c z, s ≠ t → lk st.m s = some o1 → E.at_ s = some (g, c, z) → xkeep w (E.at_ t) g := fun s o1 g c z hne hs hg' =>
    ⟨(hI.own s o1 g c z hs hg').1, fun g2 c2 s2 hx e => hne (hI.inj s t o1 ob g c z c2 s2 hs hm hg' (e ▸ hx))⟩
  have hpass : ∀ s, Pass E ⟨E1.ok, E.at_⟩ (lk st.m) (lk (up st.m t o')) s := fun s => by
    unfold Pass
    rw [lk_up]
    split
    · rename_i e; subst e
      refine .inr ⟨rfl, ?_⟩
      cases ob with
      | row k xs => cases o' with
        | row k' ys => obtain ⟨rfl, hl⟩ := hlike; exact .inl ⟨k, xs, ys, hm, rfl, hl⟩
        | box ds => exact hlike.elim
      | box cs => cases o' with
        | row k' ys => exact hlike.elim
        | box ds => exact .inr ⟨cs, ds, hm, rfl⟩
    · exact same_tags E (lk st.m) s
  have hA : Inv keep w' ⟨E1.ok, E.at_⟩ { st with m := up st.m t o' } a := by
    refine hI.turn h2.size hoks (fun s _ => hpass s) ?_ ?_ ?_ h1.okl
    · intro s o1 hs1
      rcases hat s o1 hs1 with ⟨rfl, rfl⟩ | ⟨hne, hs1⟩
      · exact OMem.to (E := ⟨E1.ok, E.at_⟩) h4 h3
      · exact (hI.mm s o1 hs1).keep hoks rfl (fun g2 c2 s2 hg2 => hkeep g2 (hother s o1 g2 c2 s2 hne hs1 hg2)) fun u cs _ _ => hpass u
    · intro s s' o1 o2 g2 c1 z1 c2 z2 k1 k2 e1 e2
      obtain ⟨p1, k1⟩ := hex s o1 k1
      obtain ⟨p2, k2⟩ := hex s' o2 k2
      exact hI.inj s s' p1 p2 g2 c1 z1 c2 z2 k1 k2 e1 e2
    · intro s o1 g2 c2 s2 hs1 hg2
      rcases hat s o1 hs1 with ⟨rfl, rfl⟩ | ⟨hne, hs1⟩
      · have q := hown g2 c2 s2 hg2
        exact ⟨Nat.lt_of_lt_of_le q.1 h2.size, (h5 g2 c2 s2 hg2).1, q.2.2⟩
      · have q := hI.own s o1 g2 c2 s2 hs1 hg2
        exact ⟨Nat.lt_of_lt_of_le q.1 h2.size, fun hk => (h2.new g2 hk).elim q.2.1 (fun hx => hx (hother s o1 g2 c2 s2 hne hs1 hg2)), q.2.2⟩
  have hkx : ∀ b, keep b → xkeep w (E.at_ t) b := fun b hb => ⟨hI.kpl b hb, fun g c s hx e => (hown g c s hx).2.2 (e ▸ hb)⟩
  have hEA : Evo keep w E w' ⟨E1.ok, E.at_⟩ :=
    ⟨h2.os, h2.tape, h2.output, h2.size, fun b hb => hkeep b (hkx b hb), hoks, fun b hb => (h2.new b hb).imp (fun h => h) (fun hx hk => hx (hkx b hk)), fun _ _ => rfl⟩
  obtain ⟨E2, q1, q2⟩ := hA.addRes h1 (fun b hb => hb) (fun j sz ys g2 c2 s2 hj hg2 => by
    have hl : lk (cst r.comps).m j = some (.row sz ys) := by rw [cst_lkm, hj]
    have q := h1.own j _ g2 c2 s2 hl hg2
    have hge : ¬ xkeep w (E.at_ t) g2 := q.2.2
    have hng : ∀ g c s, E.at_ t = some (g, c, s) → g2 ≠ g := fun g c s hx e => (h5 g c s hx).2 j sz ys c2 s2 hj (e ▸ hg2)
    have hsz : ¬ g2 < w.heap.size := fun hlt => hge ⟨hlt, hng⟩
    refine ⟨q.2.1, fun hk => hsz (hI.kpl g2 hk), fun s o1 c' s' hs1 hx => ?_⟩
    rcases hat s o1 hs1 with ⟨rfl, rfl⟩ | ⟨hne, hs1⟩
    · exact hng _ _ _ hx rfl
    · exact hsz (hI.own s o1 g2 c' s' hs1 hx).1) hF
  refine Rn.freeze.wpList_mono' ?_ (hk keep w' E2 _ q1)
  rintro e a2 w2 ⟨st2, E3, k1, k2, k3⟩
  exact ⟨st2, E3, k1, (hEA.trans q2).trans k2, k3⟩
end

section
variable {kp : Nat → Prop} {w w' : World} {E E' : Env} {st st' : St} {a a' : Act} {P : Program} {fn : Func}
theorem Inv.results (hI : Inv kp w' E' st' a') {xs : List AV} {rs : List R1} {vs : List Value} (h2 : toR st' xs = some rs) (hr : RepVL w' E' (lk st'.m) xs vs) :
    Inv kp w' ⟨E'.ok, fun i => match xs[i]? with | some (.own t) => E'.at_ t | _ => none⟩ (cst (mkRV rs).comps) ⟨vs.toArray, []⟩ := by
      obtain ⟨hlen, hget⟩ := toR_get h2
      have htag := toR_tags h2
      have hcomps : (mkRV rs).comps = rs := by
        unfold mkRV
        split <;> rfl
      rw [hcomps]
      have hl3 := hr.len
      -- each of the results' rows
      have own : ∀ (i sz : Nat) (ys : List SV), rs[i]? = some (R1.own sz ys) → ∃ t, xs[i]? = some (AV.own t) ∧ lk st'.m t = some (.row sz ys) := fun i sz ys hi => by
        have hlt : i < xs.length := by rw [hlen]; exact (List.getElem?_eq_some_iff.1 hi).1
        have hx := List.getElem?_eq_getElem hlt
        have hc := hget i _ _ hx hi
        rw [hx]
        unfold toR1 at hc
        split at hc
        · cases hc
        · cases hc
        · rename_i t he
          split at hc
          · rename_i sz' xs' hm
            simp only [Option.some.injEq, R1.own.injEq] at hc
            obtain ⟨rfl, rfl⟩ := hc
            exact ⟨t, by rw [he], hm⟩
          · cases hc
        · cases hc
      have hcl : ∀ (i sz : Nat) (ys : List SV), rs[i]? = some (R1.own sz ys) → lk (cst rs).m i = some (.row sz ys) := fun i sz ys hi => by
        rcases impM_lk (f := id) (fun _ _ h => h) rs 0 [] i with ⟨j', sz', xs', h1', h2', h3'⟩ | ⟨h1', _⟩
        · simp only [id, Nat.zero_add] at h2'; subst h2'
          rw [hi] at h1'; simp only [Option.some.injEq, R1.own.injEq] at h1'; obtain ⟨rfl, rfl⟩ := h1'
          exact h3'
        · exact (h1' i sz ys hi (by simp)).elim
      refine ⟨rfl, by simp [cst]; omega, fun d x hx => ?_, fun t o ho => ?_, fun t t' o o' g c s c' s' k1 k2 e1 e2 => ?_, fun t o g c s ho hg => ?_, hI.okl, hI.kpl⟩
      · have hg := ent1_get (f := id) rs 0 d
        simp only [Nat.zero_add, id] at hg
        rw [show lk (cst rs).t d = lk (ent1 id 0 rs) d from rfl, hg] at hx
        obtain ⟨c, hc, rfl⟩ := Option.map_eq_some_iff.1 hx
        have hlt : d < xs.length := by rw [hlen]; exact (List.getElem?_eq_some_iff.1 hc).1
        have hX := List.getElem?_eq_getElem hlt
        have hV : vs[d]? = some vs[d] := List.getElem?_eq_getElem (by omega)
        have hrep := hr.get d _ _ hX hV
        refine ⟨vs[d], by simp, ?_⟩
        have hc1 := hget d _ _ hX hc
        cases c with
        | sv y =>
          unfold toR1 at hc1
          split at hc1 <;> first | (simp only [Option.some.injEq, R1.sv.injEq] at hc1; subst hc1; rename_i he; rw [he] at hrep; simpa only [R1.av, RepV] using hrep) | (split at hc1 <;> cases hc1) | cases hc1
        | nil =>
          unfold toR1 at hc1
          split at hc1 <;> first | (rename_i he; rw [he] at hrep; simpa only [R1.av, RepV] using hrep) | (split at hc1 <;> cases hc1) | cases hc1
        | own sz ys =>
          obtain ⟨t, ht, hm⟩ := own d sz ys hc
          rw [hX] at ht
          simp only [Option.some.injEq] at ht
          rw [ht] at hrep
          simp only [R1.av, RepV] at hrep ⊢
          rw [hm] at hrep
          rw [hcl d sz ys hc, hX, ht]
          exact hrep
      · obtain ⟨sz, ys, hi, rfl⟩ := cst_mem rs t o ho
        obtain ⟨t', ht, hm⟩ := own t sz ys hi
        obtain ⟨h0, h⟩ := hI.mm t' _ hm
        refine ⟨h0, ?_⟩
        simp only [ht]
        exact h
      · obtain ⟨sz, ys, hi, rfl⟩ := cst_mem rs t o k1
        obtain ⟨sz', ys', hi', rfl⟩ := cst_mem rs t' o' k2
        obtain ⟨u, hu, hm⟩ := own t sz ys hi
        obtain ⟨u', hu', hm'⟩ := own t' sz' ys' hi'
        simp only [hu] at e1
        simp only [hu'] at e2
        have := hI.inj u u' _ _ g c s c' s' hm hm' e1 e2
        subst this
        exact htag t t' u hu hu'
      · obtain ⟨sz, ys, hi, rfl⟩ := cst_mem rs t o ho
        obtain ⟨u, hu, hm⟩ := own t sz ys hi
        simp only [hu] at hg
        exact hI.own u _ g c s hm hg

theorem run_results (hI : Inv kp w' E' st' a') {xs : List AV} {rs : List R1} (h1 : resAV P st' fn.results.toList = some xs) (h2 : toR st' xs = some rs) : ∃ vs, RepVL w' E' (lk st'.m) xs vs ∧ (results fn a'.tmps).run P w' = .ok ((mkRV rs).val vs) w' := by
    obtain ⟨vs, hrun, hr⟩ := resAV_run (P := P) hI h1
    obtain ⟨hlen, hget⟩ := toR_get h2
    have hres : (results fn a'.tmps).run P w' = .ok ((mkRV rs).val vs) w' := by
      have h3 : (fn.results.mapM (resOne a'.tmps)).run P w' = .ok vs.toArray w' := by
        rw [Array.mapM_eq_mapM_toList]
        simp [hrun]
      have h4 : results fn a'.tmps = (do let vs ← fn.results.mapM (resOne a'.tmps); pure (if h : vs.size = 1 then vs[0] else .tuple vs)) := by
        unfold results
        congr 2
      rw [h4, Sem.run_bind, h3]
      have hl3 := hr.len
      match rs, hlen with
      | [r], hlen =>
        have : ∃ u, vs = [u] := List.length_eq_one_iff.1 (by simp at hlen; omega)
        obtain ⟨u, rfl⟩ := this
        simp [mkRV, RV.val]
      | [], hlen =>
        have : vs = [] := List.eq_nil_of_length_eq_zero (by simp at hlen; simp [hlen] at hl3; omega)
        subst this
        simp [mkRV, RV.val]
      | r1 :: r2 :: rs', hlen =>
        simp only [mkRV, RV.val]
        have : vs.length ≠ 1 := by simp at hlen; omega
        simp [this]
    exact ⟨vs, hr, hres⟩

/-- What such a function leaves. -/
def retI (P : Program) (fn : Func) (st : St) : Option (RV × Obj') :=
  match resAV P st fn.results.toList, lk st.m 1000000 with
  | some xs, some o' => if AV.holdsL 1000000 xs = false ∧ o'.svOnly = true then (toR st xs).map fun rs => (mkRV rs, o') else none
  | _, _ => none
def bodyQI (P : Program) (fn : Func) (R : RV → Obj' → Prop) (e : Exit) (st : St) : Prop := (e = .ret ∨ e = .normal) ∧ ∃ p, retI P fn st = some p ∧ R p.1 p.2
theorem bodyQI_ret {R : RV → Obj' → Prop} {st : St} : bodyQI P fn R .ret st ↔ match retI P fn st with | some p => R p.1 p.2 | none => False := by
  unfold bodyQI
  cases retI P fn st with
  | none => simp
  | some r => simp
theorem bodyQI_normal {R : RV → Obj' → Prop} {st : St} : bodyQI P fn R .normal st ↔ match retI P fn st with | some p => R p.1 p.2 | none => False := by
  unfold bodyQI
  cases retI P fn st with
  | none => simp
  | some r => simp
def xparams : Nat → List XA → List (Nat × AV)
  | _, [] => []
  | i, x :: xs => (i, x.av) :: xparams (i + 1) xs
theorem xparams_get : ∀ (xs : List XA) (i d : Nat) (x : AV), lk (xparams i xs) d = some x → ∃ j y, d = i + j ∧ xs[j]? = some y ∧ x = y.av
  | [], i, d, x, h => by simp [xparams, lk] at h
  | y :: xs, i, d, x, h => by
    simp only [xparams, lk] at h
    split at h
    · rename_i e; simp only [Option.some.injEq] at h; exact ⟨0, y, by omega, rfl, h.symm⟩
    · obtain ⟨j, z, h1, h2, h3⟩ := xparams_get xs (i + 1) d x h
      exact ⟨j + 1, z, by omega, by simpa using h2, h3⟩
theorem XA.repL_get {ok : Nat → Prop} {x : Option (Nat × Nat × Nat)} {o : Obj'} : ∀ {ys : List XA} {vs : List Value}, XA.repL w ok x o ys vs → ys.length = vs.length ∧ ∀ (j : Nat) (y : XA), ys[j]? = some y → ∃ v, vs[j]? = some v ∧ XA.rep w ok x o y v
  | [], vs, h => by simp only [XA.repL] at h; subst h; exact ⟨rfl, fun j y hj => by simp at hj⟩
  | y :: ys, vs, h => by
    simp only [XA.repL] at h
    obtain ⟨v, vs', rfl, h1, h2⟩ := h
    obtain ⟨q1, q2⟩ := XA.repL_get h2
    refine ⟨by simp [q1], fun j z hj => ?_⟩
    cases j with
    | zero => simp at hj; subst hj; exact ⟨v, rfl, h1⟩
    | succ j => simpa using q2 j z (by simpa using hj)
theorem holdsL_own {t : Nat} : ∀ {xs : List AV}, AV.own t ∈ xs → AV.holdsL t xs = true
  | [], h => by cases h
  | y :: ys, h => by
    simp only [AV.holdsL, Bool.or_eq_true]
    cases h with
    | head => exact .inl (by simp [AV.holds])
    | tail _ hm => exact .inr (holdsL_own hm)
theorem ACallsI.of_body {g : FuncId} {c : Code} {args : List XA} {o : Obj'} {R : RV → Obj' → Prop} (hcall : ∀ (cargs : Array Value) (w : World), (callFunc g cargs).run P w = .ok (.enter g cargs) w) (hf : P.funcs[g]? = some fn) (hb : fn.body = some c) {n : Nat} (hn : fn.ntmps = n) (hle : args.length ≤ n) (hs : o.svOnly = true)
    (h : Tr P c (bodyQI P fn R) { n := n, t := xparams 0 args, m := [(1000000, o)] }) : ACallsI P g args o R := by
  refine ⟨g, hcall, fun w ok x cargs hok hgw hx ho hargs => calls_of_wp hf hb (Code.wp_mono ?_ (h (xkeep w x) w ⟨ok, fun s => if s = 1000000 then x else none⟩ _ ?_))⟩
  · rintro e a' w' ⟨st', E', hI, hev, he, ⟨r, o'⟩, hret, hR⟩
    unfold retI at hret
    split at hret
    case h_2 => cases hret
    rename_i xs ob h1 hm
    split at hret
    case isFalse => cases hret
    rename_i hc
    obtain ⟨rs, h2, he2⟩ := Option.map_eq_some_iff.1 hret
    simp only [Prod.mk.injEq] at he2
    obtain ⟨rfl, rfl⟩ := he2
    obtain ⟨vs, hr, hres⟩ := run_results hI h1 h2
    have hpin : E'.at_ 1000000 = x := by rw [hev.pin 1000000 (Nat.le_refl _)]; simp
    have hfin : ∃ (r : RV) (us : List Value) (E1 : Env) (o2 : Obj'), R r o2 ∧ Ending.returned ((mkRV rs).val vs) = .returned (r.val us) ∧ Inv (xkeep w x) w' E1 (cst r.comps) ⟨us.toArray, []⟩ ∧ Evo (xkeep w x) w ⟨ok, E1.at_⟩ w' E1 ∧ OMem w' E1.ok x o2 ∧ o2.svOnly = true ∧
        ∀ g c s, x = some (g, c, s) → ¬ E1.ok g ∧ ∀ j sz xs c' s', r.comps[j]? = some (.own sz xs) → E1.at_ j ≠ some (g, c', s') := by
      refine ⟨mkRV rs, vs, _, ob, hR, rfl, hI.results h2 hr, ⟨hev.os, hev.tape, hev.output, hev.size, hev.kp, hev.oks, hev.new, fun _ _ => rfl⟩, ?_, hc.2, fun g c s hg => ⟨?_, fun j sz ys c' s' hj hat => ?_⟩⟩
      · have := OMem.of hc.2 (hI.mm 1000000 ob hm)
        rw [hpin] at this
        exact this
      · exact (hI.own 1000000 ob g c s hm (by rw [hpin]; exact hg)).2.1
      · have hcomps : (mkRV rs).comps = rs := by
          unfold mkRV
          split <;> rfl
        rw [hcomps] at hj
        obtain ⟨hlen, hget⟩ := toR_get h2
        have hlt : j < xs.length := by rw [hlen]; exact (List.getElem?_eq_some_iff.1 hj).1
        have hX := List.getElem?_eq_getElem hlt
        have hc1 := hget j _ _ hX hj
        simp only [hX] at hat
        cases hq : xs[j] with
        | own u =>
          rw [hq] at hat hc1
          simp only at hat
          simp only [toR1] at hc1
          split at hc1
          · rename_i sz' ys' hmu
            have : u = 1000000 := hI.inj u 1000000 _ ob g c' s' c s hmu hm hat (by rw [hpin]; exact hg)
            subst this
            have hh := holdsL_own (hq ▸ List.getElem_mem hlt : AV.own 1000000 ∈ xs)
            rw [hc.1] at hh; cases hh
          · cases hc1
        | _ => rw [hq] at hat; simp at hat
    rcases he with rfl | rfl
    · exact ⟨hI.df, _, hres, hfin⟩
    · exact ⟨hI.df, _, hres, hfin⟩
  · obtain ⟨hal, hag⟩ := XA.repL_get hargs
    simp only [Array.length_toList] at hal
    have hl1 : ∀ t ob, lk [((1000000 : Nat), o)] t = some ob → t = 1000000 ∧ ob = o := fun t ob ht => by
      simp only [lk] at ht
      split at ht
      · rename_i e; simp only [Option.some.injEq] at ht; exact ⟨e.symm, ht.symm⟩
      · cases ht
    refine ⟨rfl, by simp [hn]; omega, fun d y hy => ?_, fun t ob ht => ?_, fun t t' o1 o2 g c s c' s' k1 k2 _ _ => ?_, fun t ob g c s ht hat => ?_, ⟨fun b hb => (hok b hb).1, hgw⟩, fun b hb => hb.1⟩
    · obtain ⟨j, z, rfl, hj, rfl⟩ := xparams_get args 0 d y hy
      obtain ⟨v, hv, hr⟩ := hag j z hj
      have hlt : j < cargs.size := by rw [← hal]; exact (List.getElem?_eq_some_iff.1 hj).1
      refine ⟨v, ?_, ?_⟩
      · rw [Nat.zero_add, Array.getElem?_append_left hlt]
        simpa using hv
      · cases z with
        | sv q => simpa only [XA.av, RepV, XA.rep] using hr
        | own =>
          obtain ⟨k, zs, rfl, hr⟩ := hr
          simp only [XA.av, RepV, lk, if_true]
          exact hr
        | box off =>
          obtain ⟨zs, rfl, hr⟩ := hr
          simp only [XA.av, RepV, lk, if_true]
          exact hr
    · obtain ⟨rfl, rfl⟩ := hl1 t ob ht
      exact OMem.to (E := ⟨ok, fun s => if s = 1000000 then x else none⟩) hs (by simpa using ho)
    · rw [(hl1 t o1 k1).1, (hl1 t' o2 k2).1]
    · obtain ⟨rfl, rfl⟩ := hl1 t ob ht
      simp only [if_true] at hat
      exact ⟨hx g c s hat, fun hk => (hok g hk).2 g c s hat rfl, fun hk => hk.2 g c s hat rfl⟩
end
theorem OpW.callI {P : Program} {Q : Exit → St → Prop} {ops : Array Oper} {o : Oper} {l : List Oper} {k : List Fr} {st : St} {f : FuncId} {xs : Array Operand} {ts : Array TypeId} {args : List XA} {ob : Obj'} {R : RV → Obj' → Prop} (t : Nat)
    (hc : ACallsI P f args ob R) (ho : o.op = .call { callee := .value (.func f), args := xs, argTypes := ts }) (hg : grd ops st o = some true)
    (hm : lk st.m t = some ob) (hs : ob.svOnly = true) (ha : argX st t ob xs.toList = some args)
    (h : ∀ r o', R r o' → ob.like o' ∧ ({ st with m := up st.m t o' } : St).impFresh o.dst r = true ∧ Ab.rn P Q ops l k (({ st with m := up st.m t o' } : St).imp o.dst r)) : OpW P Q ops o l k st :=
  Rn.callI hg ho hm hs ha hc fun r o' hR => ⟨(h r o' hR).1, (h r o' hR).2.1, RnK.rn (h r o' hR).2.2⟩
attribute [go_sem] XA.av XA.of argX xparams retI bodyQI_ret bodyQI_normal Obj'.svOnly Obj'.like AV.svs
end Go.Proofs.YtfcojlagmmgagaaDoor.Ab
