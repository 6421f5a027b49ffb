/- The abstract layer, part K: contracts of functions, calls, what a function returns. -/
import Derived.Test.YtfcojlagmmgagaaDoorAbJ
namespace Go.Proofs.YtfcojlagmmgagaaDoor.Ab
open Go.RowKit
set_option linter.unusedVariables false
set_option linter.unusedSimpArgs false

/-- One result. -/
inductive R1 where
  | sv (x : SV)
  | nil
  | own (sz : Nat) (xs : List SV)
def R1.av (t : Nat) : R1 → AV
  | .sv x => .sv x
  | .nil => .nil
  | .own _ _ => .own t
def R1.flat : R1 → Prop
  | .sv x => x.flat = true
  | .nil => True
  | .own _ xs => ∀ x ∈ xs, x.flat = true
/-- The memory of results, by tags f i, f (i + 1), .. -/
def impM (f : Nat → Nat) : Nat → List R1 → List (Nat × Obj') → List (Nat × Obj')
  | _, [], m => m
  | i, .own sz xs :: rs, m => impM f (i + 1) rs (up m (f i) (.row sz xs))
  | i, _ :: rs, m => impM f (i + 1) rs m
def impT (f : Nat → Nat) : Nat → List R1 → List AV
  | _, [] => []
  | i, r :: rs => r.av (f i) :: impT f (i + 1) rs
/-- Are the tags fresh? -/
def impF (st : St) (f : Nat → Nat) : Nat → List R1 → Bool
  | _, [] => true
  | i, .own _ _ :: rs => st.fresh (f i) && impF st f (i + 1) rs
  | i, _ :: rs => impF st f (i + 1) rs
theorem impM_lk {f : Nat → Nat} (hf : ∀ i j, f i = f j → i = j) : ∀ (rs : List R1) (i : Nat) (m : List (Nat × Obj')) (t : Nat), (∃ j sz xs, rs[j]? = some (.own sz xs) ∧ t = f (i + j) ∧ lk (impM f i rs m) t = some (.row sz xs)) ∨ ((∀ j sz xs, rs[j]? = some (.own sz xs) → t ≠ f (i + j)) ∧ lk (impM f i rs m) t = lk m t)
  | [], i, m, t => .inr ⟨fun j sz xs h => by simp at h, rfl⟩
  | r :: rs, i, m, t => by
    have skip : (∀ sz xs, r ≠ .own sz xs) → impM f i (r :: rs) m = impM f (i + 1) rs m → ((∃ j sz xs, (r :: rs)[j]? = some (.own sz xs) ∧ t = f (i + j) ∧ lk (impM f i (r :: rs) m) t = some (.row sz xs)) ∨ ((∀ j sz xs, (r :: rs)[j]? = some (.own sz xs) → t ≠ f (i + j)) ∧ lk (impM f i (r :: rs) m) t = lk m t)) := fun hr he => by
      rw [he]
      rcases impM_lk hf rs (i + 1) m t with ⟨j, sz, xs, h1, h2, h3⟩ | ⟨h1, h2⟩
      · exact Or.inl ⟨j + 1, sz, xs, by simpa using h1, by rw [h2]; congr 1; omega, h3⟩
      · refine Or.inr ⟨fun j sz xs h => ?_, h2⟩
        cases j with
        | zero => simp at h; exact (hr sz xs h).elim
        | succ j => have := h1 j sz xs (by simpa using h); rw [show i + (j + 1) = i + 1 + j by omega]; exact this
    cases r with
    | sv x => exact skip (fun _ _ h => by cases h) rfl
    | nil => exact skip (fun _ _ h => by cases h) rfl
    | own sz xs =>
      simp only [impM]
      rcases impM_lk hf rs (i + 1) (up m (f i) (.row sz xs)) t with ⟨j, sz', xs', h1, h2, h3⟩ | ⟨h1, h2⟩
      · exact .inl ⟨j + 1, sz', xs', by simpa using h1, by rw [h2]; congr 1; omega, h3⟩
      · by_cases ht : t = f i
        · refine .inl ⟨0, sz, xs, rfl, by simpa using ht, ?_⟩
          rw [h2, lk_up, if_pos ht.symm]
        · refine .inr ⟨fun j sz' xs' h => ?_, ?_⟩
          · cases j with
            | zero => simpa using ht
            | succ j => have := h1 j sz' xs' (by simpa using h); rw [show i + (j + 1) = i + 1 + j by omega]; exact this
          · rw [h2, lk_up, if_neg (Ne.symm ht)]
theorem impT_get {f : Nat → Nat} : ∀ (rs : List R1) (i j : Nat), (impT f i rs)[j]? = (rs[j]?).map (R1.av (f (i + j)))
  | [], i, j => by simp [impT]
  | r :: rs, i, 0 => by simp [impT]
  | r :: rs, i, j + 1 => by
    simp only [impT, List.getElem?_cons_succ]
    rw [impT_get rs (i + 1) j, show i + 1 + j = i + (j + 1) by omega]
theorem impT_len {f : Nat → Nat} : ∀ (rs : List R1) (i : Nat), (impT f i rs).length = rs.length
  | [], _ => rfl
  | r :: rs, i => by simp [impT, impT_len rs (i + 1)]
theorem impF_get {st : St} {f : Nat → Nat} : ∀ (rs : List R1) (i : Nat), impF st f i rs = true → ∀ j sz xs, rs[j]? = some (.own sz xs) → st.fresh (f (i + j)) = true
  | [], i, _, j, sz, xs, h => by simp at h
  | r :: rs, i, hF, 0, sz, xs, h => by
    simp at h; subst h
    simp only [impF, Bool.and_eq_true] at hF
    exact hF.1
  | r :: rs, i, hF, j + 1, sz, xs, h => by
    have hF' : impF st f (i + 1) rs = true := by cases r <;> simp_all [impF]
    rw [show i + (j + 1) = i + 1 + j by omega]
    exact impF_get rs (i + 1) hF' j sz xs (by simpa using h)

/-- What a function returns. -/
inductive RV where
  | one (r : R1)
  | many (rs : List R1)
def RV.comps : RV → List R1
  | .one r => [r]
  | .many rs => rs
def RV.val : RV → List Value → Value
  | .one _, vs => vs.headD undef
  | .many _, vs => .tuple vs.toArray
def RV.flat (r : RV) : Prop := ∀ c ∈ r.comps, c.flat

/-- The results as a state of their own. -/
def ent1 (f : Nat → Nat) : Nat → List R1 → List (Nat × AV)
  | _, [] => []
  | i, r :: rs => (i, r.av (f i)) :: ent1 f (i + 1) rs
def cst (rs : List R1) : St := { n := rs.length, t := ent1 id 0 rs, m := impM id 0 rs [] }
theorem ent1_get {f : Nat → Nat} : ∀ (rs : List R1) (i j : Nat), lk (ent1 f i rs) (i + j) = (rs[j]?).map (R1.av (f (i + j)))
  | [], i, j => by simp [ent1, lk]
  | r :: rs, i, 0 => by simp [ent1, lk]
  | r :: rs, i, j + 1 => by
    simp only [ent1, lk]
    rw [if_neg (by omega), show i + (j + 1) = i + 1 + j by omega, ent1_get rs (i + 1) j, List.getElem?_cons_succ]

/-- The contract of a function: from arguments that are shared it returns what R tells; nothing that was has turned. -/
def ACalls (P : Program) (g : FuncId) (args : List SV) (R : RV → Prop) : Prop :=
  ∃ g', (∀ (cargs : Array Value) (w : World), (callFunc g cargs).run P w = .ok (.enter g' cargs) w) ∧
    ∀ (w : World) (ok : Nat → Prop) (cargs : Array Value), Okl w ok → RepL w ok args cargs.toList →
      Calls P g' cargs w (fun e w' => ∃ (r : RV) (vs : List Value) (E1 : Env), R r ∧ e = .returned (r.val vs) ∧ Inv (· < w.heap.size) w' E1 (cst r.comps) ⟨vs.toArray, []⟩ ∧ Evo (· < w.heap.size) w ⟨ok, E1.at_⟩ w' E1)
theorem ACalls.mono {P : Program} {g : FuncId} {args : List SV} {R R' : RV → Prop} (h : ACalls P g args R) (hr : ∀ r, R r → R' r) : ACalls P g args R' := by
  obtain ⟨g', h1, h2⟩ := h
  refine ⟨g', h1, fun w ok cargs k1 k2 => (h2 w ok cargs k1 k2).mono ?_⟩
  rintro e w' ⟨r, vs, E1, q1, q2⟩
  exact ⟨r, vs, E1, hr _ q1, q2⟩

/-- The state behind a call. -/
def tagf (d : Nat) (i : Nat) : Nat := d + 1000 * i
theorem tagf_inj (d : Nat) : ∀ i j, tagf d i = tagf d j → i = j := fun i j h => by unfold tagf at h; omega
def RV.av (f : Nat → Nat) : RV → AV
  | .one r => r.av (f 0)
  | .many rs => .tup (impT f 0 rs)
def St.imp (st : St) (dst : Option Nat) (r : RV) : St :=
  match dst with
  | some d => { st with t := up st.t d (r.av (tagf d)), m := impM (tagf d) 0 r.comps st.m }
  | none => st
def St.impFresh (st : St) (dst : Option Nat) (r : RV) : Bool :=
  match dst with
  | some d => impF st (tagf d) 0 r.comps && decide (d < st.n)
  | none => true

section
variable {kp : Nat → Prop} {w w' : World} {E E1 : Env} {st : St} {a : Act} {ok : Nat → Prop}

theorem cst_mem (rs : List R1) (t : Nat) (o : Obj') (h : lk (cst rs).m t = some o) : ∃ sz xs, rs[t]? = some (.own sz xs) ∧ o = .row sz xs := by
  rcases impM_lk (f := id) (fun _ _ h => h) rs 0 [] t with ⟨j, sz, xs, h1, h2, h3⟩ | ⟨h1, h2⟩
  · simp only [id, Nat.zero_add] at h2
    subst h2
    rw [show lk (cst rs).m t = lk (impM id 0 rs []) t from rfl, h3] at h
    simp only [Option.some.injEq] at h
    exact ⟨sz, xs, h1, h.symm⟩
  · rw [show lk (cst rs).m t = lk (impM id 0 rs []) t from rfl, h2] at h
    simp [lk] at h

open Classical in
theorem Inv.import (hI : Inv kp w E st a) {r : RV} {vs : List Value} (h1 : Inv (· < w.heap.size) w' E1 (cst r.comps) ⟨vs.toArray, []⟩) (hev : Evo (· < w.heap.size) w ⟨ok, E1.at_⟩ w' E1) {dst : Option Nat} (hF : st.impFresh dst r = true)
    (hok : (∀ b, ok b → E.ok b) ∨ r.flat) : ∃ E2, Inv kp w' E2 (st.imp dst r) (a.put dst (r.val vs)) ∧ Evo kp w E w' E2 := by
  have hsz := hev.size
  have hkeep : ∀ b, b < w.heap.size → w'.heap[b]? = w.heap[b]? := hev.kp
  -- what is shared now
  let ok2 : Nat → Prop := fun b => E.ok b ∨ (E1.ok b ∧ w.heap.size ≤ b)
  have hevo : ∀ at2, (∀ t, 1000000 ≤ t → at2 t = E.at_ t) → Evo kp w E w' ⟨ok2, at2⟩ := fun at2 hat2 =>
    ⟨hev.os, hev.tape, hev.output, hsz, fun b hb => hkeep b (hI.kpl b hb), fun b hb => ⟨.inl hb, hkeep b (hI.okl b hb)⟩, fun b hb => hb.elim .inl fun ⟨_, h9⟩ => .inr fun hk => by have := hI.kpl b hk; omega, hat2⟩
  have hokold : ∀ b, E.ok b → ok2 b ∧ w'.heap[b]? = w.heap[b]? := fun b hb => ⟨.inl hb, hkeep b (hI.okl b hb)⟩
  have hok2l : Okl w' ok2 := ⟨fun b hb => hb.elim (fun h => Nat.lt_of_lt_of_le (hI.okl b h) hsz) (fun h => h1.okl b h.1), hI.okl.gw.keep hokold⟩
  cases dst with
  | none =>
    refine ⟨⟨ok2, E.at_⟩, ?_, hevo _ (fun _ _ => rfl)⟩
    have hp : ∀ s, Pass E ⟨ok2, E.at_⟩ (lk st.m) (lk st.m) s := fun s => by
      rcases same_tags E (lk st.m) s with h | ⟨_, h⟩
      · exact .inl h
      · exact .inr ⟨rfl, h⟩
    refine ⟨hI.df, hI.sz, fun d x hx => ?_, fun t o ho => ?_, hI.inj, fun t o g c s h9 h10 => ?_, hok2l, fun b hb => Nat.lt_of_lt_of_le (hI.kpl b hb) hsz⟩
    · obtain ⟨v, k1, k2⟩ := hI.tm d x hx
      exact ⟨v, k1, k2.keep hokold (fun t _ => hp t)⟩
    · exact (hI.mm t o ho).keep hokold rfl (fun g c s hg => hkeep g (hI.own t o g c s ho hg).1) (fun s _ _ _ => hp s)
    · have := hI.own t o g c s h9 h10
      exact ⟨by omega, fun h => h.elim this.2.1 (fun h => by omega), this.2.2⟩
  | some d =>
    simp only [St.impFresh, Bool.and_eq_true, decide_eq_true_eq] at hF
    obtain ⟨hF, hdn⟩ := hF
    have hfr := impF_get r.comps 0 hF
    -- where the results' tags are
    let at2 : Nat → Option (Nat × Nat × Nat) := fun t => if ∃ j sz xs, r.comps[j]? = some (.own sz xs) ∧ t = tagf d (0 + j) then E1.at_ ((t - d) / 1000) else E.at_ t
    have hdiv : ∀ j, (tagf d (0 + j) - d) / 1000 = j := fun j => by unfold tagf; omega
    have at_new : ∀ j sz xs, r.comps[j]? = some (.own sz xs) → at2 (tagf d (0 + j)) = E1.at_ j := fun j sz xs h => by
      show (if _ then _ else _) = _
      rw [if_pos ⟨j, sz, xs, h, rfl⟩, hdiv]
    have hnone : ∀ j sz xs, r.comps[j]? = some (.own sz xs) → lk st.m (tagf d (0 + j)) = none ∧ st.held (tagf d (0 + j)) = false := fun j sz xs h => by
      have := hfr j sz xs h
      simp only [St.fresh, Bool.and_eq_true, Bool.not_eq_true', Option.isNone_iff_eq_none] at this
      exact ⟨this.2.2, this.2.1⟩
    have at_old : ∀ t, (∀ j sz xs, r.comps[j]? = some (.own sz xs) → t ≠ tagf d (0 + j)) → at2 t = E.at_ t := fun t h => by
      show (if _ then _ else _) = _
      rw [if_neg]
      rintro ⟨j, sz, xs, h9, h10⟩
      exact h j sz xs h9 h10
    have hlk := impM_lk (tagf_inj d) r.comps 0 st.m
    have hp : ∀ s, (∀ j sz xs, r.comps[j]? = some (.own sz xs) → s ≠ tagf d (0 + j)) → Pass E ⟨ok2, at2⟩ (lk st.m) (lk (impM (tagf d) 0 r.comps st.m)) s := fun s hs => by
      unfold Pass
      rcases hlk s with ⟨j, sz, xs, h9, h10, _⟩ | ⟨_, h10⟩
      · exact (hs j sz xs h9 h10).elim
      · rw [h10]
        rcases same_tags E (lk st.m) s with h | ⟨_, h⟩
        · exact .inl h
        · exact .inr ⟨at_old s hs, h⟩
    have hlive : ∀ s, st.held s = true → ∀ j sz xs, r.comps[j]? = some (.own sz xs) → s ≠ tagf d (0 + j) := fun s hs j sz xs h e => by
      rw [e, (hnone j sz xs h).2] at hs; cases hs
    have hmem : ∀ s o, lk st.m s = some o → ∀ j sz xs, r.comps[j]? = some (.own sz xs) → s ≠ tagf d (0 + j) := fun s o hs j sz xs h e => by
      rw [e, (hnone j sz xs h).1] at hs; cases hs
    -- parts of results, seen from here
    have part : ∀ (c : R1), c ∈ r.comps → ∀ (x : SV), (c = .sv x ∨ ∃ sz xs, c = .own sz xs ∧ x ∈ xs) → ∀ {v : Value}, RepS w' E1.ok x v → RepS w' ok2 x v := fun c hc x hx v hv => by
      rcases hok with hok | hfl
      · refine hv.keep fun b hb => ⟨?_, rfl⟩
        by_cases hlt : b < w.heap.size
        · rcases hev.new b hb with h | h
          · exact .inl (hok b h)
          · exact (h hlt).elim
        · exact .inr ⟨hb, by omega⟩
      · have h9 := hfl c hc
        rcases hx with rfl | ⟨sz, xs, rfl, hx⟩
        · exact hv.flat h9
        · exact hv.flat (h9 x hx)
    have hdisj : ∀ j sz xs g c s, r.comps[j]? = some (.own sz xs) → E1.at_ j = some (g, c, s) → w.heap.size ≤ g ∧ g < w'.heap.size ∧ ¬ E1.ok g := fun j sz xs g c s hj hg => by
      have hl : lk (cst r.comps).m j = some (.row sz xs) := by
        rcases impM_lk (f := id) (fun _ _ h => h) r.comps 0 [] j with ⟨j', sz', xs', h1', h2', h3'⟩ | ⟨h1', _⟩
        · simp only [id, Nat.zero_add] at h2'; subst h2'
          rw [hj] at h1'; simp only [Option.some.injEq, R1.own.injEq] at h1'; obtain ⟨rfl, rfl⟩ := h1'
          exact h3'
        · exact (h1' j sz xs hj (by simp)).elim
      have := h1.own j _ g c s hl hg
      exact ⟨by omega, this.1, this.2.1⟩
    have hrow : ∀ j sz xs, r.comps[j]? = some (.own sz xs) → MemRep w' E1 (lk (cst r.comps).m) j (.row sz xs) := fun j sz xs hj => by
      have hl : lk (cst r.comps).m j = some (.row sz xs) := by
        rcases impM_lk (f := id) (fun _ _ h => h) r.comps 0 [] j with ⟨j', sz', xs', h1', h2', h3'⟩ | ⟨h1', _⟩
        · simp only [id, Nat.zero_add] at h2'; subst h2'
          rw [hj] at h1'; simp only [Option.some.injEq, R1.own.injEq] at h1'; obtain ⟨rfl, rfl⟩ := h1'
          exact h3'
        · exact (h1' j sz xs hj (by simp)).elim
      exact h1.mm j _ hl
    have hInv : Inv kp w' ⟨ok2, at2⟩ { st with m := impM (tagf d) 0 r.comps st.m } a := by
      refine ⟨hI.df, hI.sz, fun e x hx => ?_, fun t o ho => ?_, fun t t' o o' g c s c' s' k1 k2 e1 e2 => ?_, fun t o g c s ho hg => ?_, hok2l, fun b hb => Nat.lt_of_lt_of_le (hI.kpl b hb) hsz⟩
      · obtain ⟨v, k1, k2⟩ := hI.tm e x hx
        refine ⟨v, k1, k2.keep hokold (fun t ht => hp t (hlive t ?_))⟩
        cases hh : st.held t with
        | true => rfl
        | false => rw [held_t hh hx] at ht; cases ht
      · rcases hlk t with ⟨j, sz, xs, h9, h10, h11⟩ | ⟨h9, h10⟩
        · rw [h11] at ho
          simp only [Option.some.injEq] at ho; subst ho
          obtain ⟨h0, hr⟩ := hrow j sz xs h9
          refine ⟨h0, ?_⟩
          rw [h10, show (⟨ok2, at2⟩ : Env).at_ (tagf d (0 + j)) = E1.at_ j from at_new j sz xs h9]
          rcases hr with hr | ⟨g, c, e, cur, vs', k1, k2, k3, k4, k5, k6, k7, k8⟩
          · exact .inl hr
          · refine .inr ⟨g, c, e, cur, vs', k1, k2, k3, k4, k5, k6, RepL.of k7.len (fun i x v hx hv => ?_), k8⟩
            exact part _ (List.mem_of_getElem? h9) x (.inr ⟨sz, xs, rfl, List.mem_of_getElem? hx⟩) (k7.get i x v hx hv)
        · rw [h10] at ho
          refine (hI.mm t o ho).keep hokold (at_old t h9) (fun g c s hg => hkeep g (hI.own t o g c s ho hg).1) (fun s cs hcs hs => hp s (hlive s ?_))
          subst hcs
          cases hh : st.held s with
          | true => rfl
          | false => rw [held_m hh ho] at hs; cases hs
      · rcases hlk t with ⟨j, sz, xs, h9, h10, h11⟩ | ⟨h9, h10⟩ <;> rcases hlk t' with ⟨j', sz', xs', h9', h10', h11'⟩ | ⟨h9', h10'⟩
        · rw [h10] at e1 ⊢
          rw [h10'] at e2 ⊢
          simp only at e1 e2
          rw [at_new j sz xs h9] at e1
          rw [at_new j' sz' xs' h9'] at e2
          have l1 : ∃ o, lk (cst r.comps).m j = some o := by
            rcases impM_lk (f := id) (fun _ _ h => h) r.comps 0 [] j with ⟨_, _, _, _, _, h3'⟩ | ⟨h1', _⟩
            · exact ⟨_, h3'⟩
            · exact (h1' j sz xs h9 (by simp)).elim
          have l2 : ∃ o, lk (cst r.comps).m j' = some o := by
            rcases impM_lk (f := id) (fun _ _ h => h) r.comps 0 [] j' with ⟨_, _, _, _, _, h3'⟩ | ⟨h1', _⟩
            · exact ⟨_, h3'⟩
            · exact (h1' j' sz' xs' h9' (by simp)).elim
          obtain ⟨o1, l1⟩ := l1
          obtain ⟨o2, l2⟩ := l2
          rw [h1.inj j j' o1 o2 g c s c' s' l1 l2 e1 e2]
        · rw [h10] at e1
          simp only at e1 e2
          rw [at_new j sz xs h9] at e1
          rw [at_old t' h9'] at e2
          rw [h10'] at k2
          have q1 := (hdisj j sz xs g c s h9 e1).1
          have q2 := (hI.own t' o' g c' s' k2 e2).1
          omega
        · rw [h10'] at e2
          simp only at e1 e2
          rw [at_new j' sz' xs' h9'] at e2
          rw [at_old t h9] at e1
          rw [h10] at k1
          have q1 := (hdisj j' sz' xs' g c' s' h9' e2).1
          have q2 := (hI.own t o g c s k1 e1).1
          omega
        · simp only at e1 e2
          rw [at_old t h9] at e1
          rw [at_old t' h9'] at e2
          rw [h10] at k1
          rw [h10'] at k2
          exact hI.inj t t' o o' g c s c' s' k1 k2 e1 e2
      · rcases hlk t with ⟨j, sz, xs, h9, h10, h11⟩ | ⟨h9, h10⟩
        · rw [h10] at hg
          simp only at hg
          rw [at_new j sz xs h9] at hg
          have q := hdisj j sz xs g c s h9 hg
          refine ⟨q.2.1, fun h => ?_, fun h => by have := hI.kpl g h; omega⟩
          rcases h with h | h
          · have := hI.okl g h; omega
          · exact q.2.2 h.1
        · simp only at hg
          rw [at_old t h9] at hg
          rw [h10] at ho
          have q := hI.own t o g c s ho hg
          exact ⟨by omega, fun h => h.elim q.2.1 (fun h => by omega), q.2.2⟩
    refine ⟨⟨ok2, at2⟩, ?_, hevo _ (fun t ht => at_old t fun j sz xs h e => by have := St.fresh_pin (hfr j sz xs h); omega)⟩
    refine hInv.put (dst := some d) (by simpa [St.fitsDst] using hdn) ?_
    -- the value itself
    have comp : ∀ (j : Nat) (c : R1), r.comps[j]? = some c → ∃ v, vs[j]? = some v ∧ RepV w' ⟨ok2, at2⟩ (lk (impM (tagf d) 0 r.comps st.m)) (c.av (tagf d (0 + j))) v := fun j c hc => by
      have hl := ent1_get (f := id) r.comps 0 j
      rw [hc] at hl
      simp only [Nat.zero_add, Option.map_some, id] at hl
      obtain ⟨v, k1, k2⟩ := h1.tm j (c.av j) hl
      refine ⟨v, by simpa using k1, ?_⟩
      cases c with
      | sv x =>
        simp only [R1.av, RepV] at k2 ⊢
        exact part _ (List.mem_of_getElem? hc) x (.inl rfl) k2
      | nil => simpa only [R1.av, RepV] using k2
      | own sz xs =>
        simp only [R1.av, RepV] at k2 ⊢
        have l1 : lk (cst r.comps).m j = some (.row sz xs) := by
          rcases impM_lk (f := id) (fun _ _ h => h) r.comps 0 [] j with ⟨j', sz', xs', h1', h2', h3'⟩ | ⟨h1', _⟩
          · simp only [id, Nat.zero_add] at h2'; subst h2'
            rw [hc] at h1'; simp only [Option.some.injEq, R1.own.injEq] at h1'; obtain ⟨rfl, rfl⟩ := h1'
            exact h3'
          · exact (h1' j sz xs hc (by simp)).elim
        have l2 : lk (impM (tagf d) 0 r.comps st.m) (tagf d (0 + j)) = some (.row sz xs) := by
          rcases hlk (tagf d (0 + j)) with ⟨j', sz', xs', h9, h10, h11⟩ | ⟨h9, _⟩
          · have := tagf_inj d _ _ h10
            rw [show j' = j by omega, hc] at h9
            simp only [Option.some.injEq, R1.own.injEq] at h9
            obtain ⟨rfl, rfl⟩ := h9
            exact h11
          · exact (h9 j sz xs hc rfl).elim
        rw [l1] at k2
        rw [l2, at_new j sz xs hc]
        exact k2
    cases r with
    | one c =>
      obtain ⟨v, k1, k2⟩ := comp 0 c rfl
      simp only [RV.av, RV.val]
      cases vs with
      | nil => simp at k1
      | cons u vs => simp at k1; subst k1; exact k2
    | many rs =>
      simp only [RV.av, RV.val, RepV]
      refine ⟨vs.toArray, rfl, RepVL.of ?_ fun i x v hx hv => ?_⟩
      · have hn := h1.sz
        simp only [List.size_toArray, cst, RV.comps] at hn
        simp [impT_len, hn]
      · rw [impT_get] at hx
        obtain ⟨c, hc, rfl⟩ := Option.map_eq_some_iff.1 hx
        obtain ⟨u, k1, k2⟩ := comp i c hc
        simp only at hv
        rw [k1] at hv
        simp only [Option.some.injEq] at hv; subst hv
        exact k2
end

/-! ### Arguments, and the call -/
mutual
/-- A frame value as an argument: what is owned is lent. -/
def AV.arg (m : Mem) : AV → Option SV
  | .sv x => some x
  | .nil => some (.lst [])
  | .own t => match m t with
    | some (.row _ xs) => some (.lst xs)
    | _ => none
  | .box t off => match m t with
    | some (.box cs) => (AV.svs cs).map fun xs => .ref (.agg xs) off
    | _ => none
  | .elt _ _ _ => none
  | .tup _ | .agg _ | .sl _ _ => none
  | .fnv f caps => (AV.argL m caps).map fun xs => .fn f xs
def AV.argL (m : Mem) : List AV → Option (List SV)
  | [] => some []
  | x :: xs => match AV.arg m x, AV.argL m xs with
    | some y, some ys => some (y :: ys)
    | _, _ => none
end
theorem arg_rep {kp : Nat → Prop} {w : World} {E : Env} {st : St} {a : Act} (hI : Inv kp w E st a) : ∀ {X : AV} {y : SV} {v : Value}, X.arg (lk st.m) = some y → RepV w E (lk st.m) X v → RepS w (· < w.heap.size) y v := by
  have hok : ∀ b, E.ok b → (b < w.heap.size) ∧ w.heap[b]? = w.heap[b]? := fun b hb => ⟨hI.okl b hb, rfl⟩
  intro X
  refine AV.rec (motive_1 := fun X => ∀ {y : SV} {v : Value}, X.arg (lk st.m) = some y → RepV w E (lk st.m) X v → RepS w (· < w.heap.size) y v) (motive_2 := fun l => ∀ {ys : List SV} {vs : List Value}, AV.argL (lk st.m) l = some ys → RepVL w E (lk st.m) l vs → RepL w (· < w.heap.size) ys vs)
    ?_ ?_ ?_ ?_ ?_ ?_ ?_ ?_ ?_ ?_ ?_ X
  · intro x y v h hr; simp only [AV.arg, Option.some.injEq] at h; subst h; simp only [RepV] at hr; exact hr.keep hok
  · intro y v h hr; simp only [AV.arg, Option.some.injEq] at h; subst h; simp only [RepV] at hr; subst hr; simp [RepS]
  · intro t y v h hr
    simp only [AV.arg] at h
    split at h
    case h_2 => cases h
    rename_i sz xs hm
    simp only [Option.some.injEq] at h; subst h
    simp only [RepV, hm] at hr
    obtain ⟨h0, hmm⟩ := hI.mm t _ hm
    simp only [RepS]
    rcases hmm with ⟨h1, rfl⟩ | ⟨g, c, e, cur, vs, h1, h2, h3, h4, h5, h6, h7, h8⟩
    · rw [h1] at hr; obtain ⟨b, rfl⟩ := hr; exact ⟨b, 0, rfl, Nat.le_refl _, .inl rfl⟩
    · rw [h1] at hr
      refine ⟨_, c, hr, h4, .inr ⟨⟨g, 0, none⟩, sz, vs, rfl, (hI.own t _ g c sz hm h1).1, h7.keep hok, fun i u hu => ⟨(h8 i u hu).1, fun j y hy => ?_⟩⟩⟩
      rw [Go.Deep.add_add, add_lit, cell_of_row w g _ cur e (0, 0) h2, Nat.zero_add]
      exact (h8 i u hu).2.2 j y hy
  · intro t off y v h hr
    simp only [AV.arg] at h
    split at h
    case h_2 => cases h
    rename_i cs hm
    obtain ⟨xs, hxs, rfl⟩ := Option.map_eq_some_iff.1 h
    simp only [RepV, hm] at hr
    obtain ⟨g, c, sz, hg, rfl⟩ := hr
    obtain ⟨g', c', sz', e, cur, hg', hh, hr⟩ := hI.mm t _ hm
    rw [hg] at hg'
    simp only [Option.some.injEq, Prod.mk.injEq] at hg'
    obtain ⟨rfl, rfl, rfl⟩ := hg'
    simp only [RepS]
    refine ⟨⟨g, 0, none⟩, .agg cur, by rw [add_lit, Nat.zero_add], (hI.own t _ g c sz hm hg).1, ⟨cur, rfl, (RepVL.svs hxs hr).keep hok⟩, fun j y hy => ?_⟩
    rw [add_lit, cell_of_row w g _ cur e (0, 0) hh, Nat.zero_add]
    exact hy
  · intro t i off y v h; simp [AV.arg] at h
  · intro xs ih y v h; simp [AV.arg] at h
  · intro f caps ih y v h hr
    simp only [AV.arg] at h
    obtain ⟨xs, hxs, rfl⟩ := Option.map_eq_some_iff.1 h
    simp only [RepV, RepS] at hr ⊢
    obtain ⟨cs, rfl, hr⟩ := hr
    exact ⟨cs, rfl, ih hxs hr⟩
  · intro xs ih y v h; simp [AV.arg] at h
  · intro t n y v h; simp [AV.arg] at h
  · intro ys vs h hr; simp only [AV.argL, Option.some.injEq] at h; subst h; simp only [RepVL] at hr; subst hr; exact RepL.nil
  · intro x xs ihx ihs ys vs h hr
    simp only [RepVL] at hr
    obtain ⟨v, vs', rfl, hx, hs⟩ := hr
    simp only [AV.argL] at h
    split at h
    · rename_i y ys' h1 h2
      simp only [Option.some.injEq] at h; subst h
      exact RepL.cons (ihx h1 hx) (ihs h2 hs)
    · cases h

/-- The arguments of a call: shared (lent = false), or lent. -/
def argv (st : St) : List Operand → Option (List SV)
  | [] => some []
  | x :: xs => match (aval st x).bind (AV.arg (lk st.m)), argv st xs with
    | some y, some ys => some (y :: ys)
    | _, _ => none
def argS (st : St) : List Operand → Option (List SV)
  | [] => some []
  | x :: xs => match (aval st x).bind AV.elem, argS st xs with
    | some y, some ys => some (y :: ys)
    | _, _ => none
section
variable {kp : Nat → Prop} {w w' : World} {E E1 : Env} {st : St} {a : Act}
theorem argv_rep (hI : Inv kp w E st a) : ∀ {l : List Operand} {ys : List SV}, argv st l = some ys → RepL w (· < w.heap.size) ys (l.map a.eval)
  | [], ys, h => by simp only [argv, Option.some.injEq] at h; subst h; exact RepL.nil
  | x :: xs, ys, h => by
    simp only [argv] at h
    split at h
    · rename_i y ys' h1 h2
      simp only [Option.some.injEq] at h; subst h
      obtain ⟨X, hX, h1⟩ := Option.bind_eq_some_iff.1 h1
      exact RepL.cons (arg_rep hI h1 (aval_rep hI hX)) (argv_rep hI h2)
    · cases h
theorem argS_rep (hI : Inv kp w E st a) : ∀ {l : List Operand} {ys : List SV}, argS st l = some ys → RepL w E.ok ys (l.map a.eval)
  | [], ys, h => by simp only [argS, Option.some.injEq] at h; subst h; exact RepL.nil
  | x :: xs, ys, h => by
    simp only [argS] at h
    split at h
    · rename_i y ys' h1 h2
      simp only [Option.some.injEq] at h; subst h
      obtain ⟨X, hX, h1⟩ := Option.bind_eq_some_iff.1 h1
      exact RepL.cons (elem_rep h1 (aval_rep hI hX)) (argS_rep hI h2)
    · cases h

/-- The function that is called, and what it has captured. -/
def calle (st : St) (lent : Bool) : Operand → Option (FuncId × List SV)
  | .func f => some (f, [])
  | x => match aval st x with
    | some (.sv (.fn f caps)) => some (f, caps)
    | some (.fnv f caps) => if lent = true then (AV.argL (lk st.m) caps).map fun xs => (f, xs) else none
    | _ => none
variable {P : Program} {ops : Array Oper} {l : List Oper} {K : St → Prop} {o : Oper}
theorem Rn.call {f : Operand} {xs : Array Operand} {ts : Array TypeId} {g : FuncId} {caps ys : List SV} {R : RV → Prop} (lent : Bool) (hg : grd ops st o = some true) (ho : o.op = .call { callee := .value f, args := xs, argTypes := ts }) (hf : calle st lent f = some (g, caps))
    (ha : (if lent = true then argv st xs.toList else argS st xs.toList) = some ys) (hc : ACalls P g (ys ++ caps) R) (hl : lent = true → ∀ r, R r → r.flat) (h : ∀ r, R r → st.impFresh o.dst r = true ∧ Rn P ops l K (st.imp o.dst r)) : Rn P ops (o :: l) K st := fun keep w E a hI => by
  unfold wpList
  rw [if_pos (grd_run hI hg)]
  refine .inl ?_
  obtain ⟨g', hc1, hc2⟩ := hc
  have hargs : ∃ ok : Nat → Prop, Okl w ok ∧ RepL w ok ys (xs.toList.map a.eval) ∧ ((∀ b, ok b → E.ok b) ∨ lent = true) ∧ ∃ cs : Array Value, a.eval f = .func (.func g) #[] cs ∧ RepL w ok caps cs.toList := by
    have hE : ∀ b, E.ok b → (b < w.heap.size) ∧ w.heap[b]? = w.heap[b]? := fun b hb => ⟨hI.okl b hb, rfl⟩
    cases lent with
    | true =>
      refine ⟨(· < w.heap.size), ⟨fun b h => h, hI.okl.gw.keep hE⟩, argv_rep hI (by simpa using ha), .inr rfl, ?_⟩
      cases f with
      | func f' => simp only [calle, Option.some.injEq, Prod.mk.injEq] at hf; obtain ⟨rfl, rfl⟩ := hf; exact ⟨#[], rfl, RepL.nil⟩
      | global g =>
        simp only [calle, aval] at hf
        cases hg2 : lk Gtab g <;> rw [hg2] at hf <;> simp at hf
      | const v =>
        simp only [calle] at hf
        split at hf
        · rename_i f' caps' hX
          simp only [Option.some.injEq, Prod.mk.injEq] at hf; obtain ⟨rfl, rfl⟩ := hf
          have hr := aval_rep hI hX
          simp only [RepV, RepS] at hr
          obtain ⟨cs, h1, h2⟩ := hr
          exact ⟨cs, h1, h2.keep hE⟩
        · rename_i f' caps' hX
          rw [if_pos trivial] at hf
          obtain ⟨zs, hz, he⟩ := Option.map_eq_some_iff.1 hf
          simp only [Prod.mk.injEq] at he; obtain ⟨rfl, rfl⟩ := he
          have hr := arg_rep hI (X := .fnv f' caps') (y := .fn f' zs) (by simp [AV.arg, hz]) (aval_rep hI hX)
          simp only [RepS] at hr
          exact hr
        · cases hf
      | tmp t =>
        simp only [calle] at hf
        split at hf
        · rename_i f' caps' hX
          simp only [Option.some.injEq, Prod.mk.injEq] at hf; obtain ⟨rfl, rfl⟩ := hf
          have hr := aval_rep hI hX
          simp only [RepV, RepS] at hr
          obtain ⟨cs, h1, h2⟩ := hr
          exact ⟨cs, h1, h2.keep hE⟩
        · rename_i f' caps' hX
          rw [if_pos trivial] at hf
          obtain ⟨zs, hz, he⟩ := Option.map_eq_some_iff.1 hf
          simp only [Prod.mk.injEq] at he; obtain ⟨rfl, rfl⟩ := he
          have hr := arg_rep hI (X := .fnv f' caps') (y := .fn f' zs) (by simp [AV.arg, hz]) (aval_rep hI hX)
          simp only [RepS] at hr
          exact hr
        · cases hf
    | false =>
      refine ⟨E.ok, hI.okl, argS_rep hI (by simpa using ha), .inl fun b h => h, ?_⟩
      cases f with
      | func f' => simp only [calle, Option.some.injEq, Prod.mk.injEq] at hf; obtain ⟨rfl, rfl⟩ := hf; exact ⟨#[], rfl, RepL.nil⟩
      | global g =>
        simp only [calle, aval] at hf
        cases hg2 : lk Gtab g <;> rw [hg2] at hf <;> simp at hf
      | const v =>
        simp only [calle] at hf
        split at hf
        · rename_i f' caps' hX
          simp only [Option.some.injEq, Prod.mk.injEq] at hf; obtain ⟨rfl, rfl⟩ := hf
          have hr := aval_rep hI hX
          simp only [RepV, RepS] at hr
          exact hr
        · simp at hf
        · cases hf
      | tmp t =>
        simp only [calle] at hf
        split at hf
        · rename_i f' caps' hX
          simp only [Option.some.injEq, Prod.mk.injEq] at hf; obtain ⟨rfl, rfl⟩ := hf
          have hr := aval_rep hI hX
          simp only [RepV, RepS] at hr
          exact hr
        · simp at hf
        · cases hf
  obtain ⟨ok, hok, hr, hor, cs, hfe, hcs⟩ := hargs
  have hcall := hc2 w ok ((xs.map a.eval) ++ cs) hok (by simpa using hr.append hcs)
  have hrun : (execOp a.eval o).run P w = .ok (.enter g' (xs.map a.eval ++ cs)) w := by
    unfold execOp
    rw [ho]
    simp [resolve, Deferred.ofValue, hfe, invoke, hc1]
  unfold Oper.wp
  rw [hrun, Oper.upon_enter]
  refine hcall.mono ?_
  rintro e w' ⟨r, vs, E1, hR, rfl, h1, h2⟩
  obtain ⟨hF, hk⟩ := h r hR
  obtain ⟨E2, q1, q2⟩ := hI.import h1 h2 hF (hor.imp (fun h => h) (fun h => hl h r hR))
  refine Rn.freeze.wpList_mono' ?_ (hk keep w' E2 _ q1)
  rintro e a2 w2 ⟨st2, E3, k1, k2, k3⟩
  exact ⟨st2, E3, k1, q2.trans k2, k3⟩
end

/-! ### What a function's body comes to -/
def params : Nat → List SV → List (Nat × AV)
  | _, [] => []
  | i, x :: xs => (i, .sv x) :: params (i + 1) xs
theorem params_get : ∀ (xs : List SV) (i d : Nat) (x : AV), lk (params i xs) d = some x → ∃ j y, d = i + j ∧ xs[j]? = some y ∧ x = .sv y
  | [], i, d, x, h => by simp [params, lk] at h
  | y :: xs, i, d, x, h => by
    simp only [params, lk] at h
    split at h
    · rename_i e; simp only [Option.some.injEq] at h; exact ⟨0, y, by omega, rfl, h.symm⟩
    · obtain ⟨j, z, h1, h2, h3⟩ := params_get xs (i + 1) d x h
      exact ⟨j + 1, z, by omega, by simpa using h2, h3⟩
/-- What the results' places hold. -/
def resAV (P : Program) (st : St) : List ResultVar → Option (List AV)
  | [] => some []
  | .tmp t :: l => match lk st.t t, resAV P st l with
    | some x, some xs => some (x :: xs)
    | _, _ => none
  | .cell p ty :: l => match (lk st.t p).bind (aload P st ty), resAV P st l with
    | some x, some xs => if (P.underlying ty).isSome = true then some (x :: xs) else none
    | _, _ => none
def toR1 (st : St) : AV → Option R1
  | .sv x => some (.sv x)
  | .nil => some .nil
  | .own t => match lk st.m t with
    | some (.row sz xs) => some (.own sz xs)
    | _ => none
  | _ => none
def ownIn : AV → List AV → Bool
  | .own t, xs => AV.holdsL t xs
  | _, _ => false
def toR (st : St) : List AV → Option (List R1)
  | [] => some []
  | x :: xs => match toR1 st x, toR st xs with
    | some y, some ys => if ownIn x xs = true then none else some (y :: ys)
    | _, _ => none
def mkRV : List R1 → RV
  | [r] => .one r
  | rs => .many rs
/-- What a state returns. -/
def retv (P : Program) (fn : Func) (st : St) : Option RV := ((resAV P st fn.results.toList).bind (toR st)).map mkRV
def Ret (P : Program) (fn : Func) (st : St) (r : RV) : Prop := retv P fn st = some r
/-- The post of a body. -/
def bodyQ (P : Program) (fn : Func) (R : RV → Prop) (e : Exit) (st : St) : Prop := (e = .ret ∨ e = .normal) ∧ ∃ r, R r ∧ Ret P fn st r
theorem bodyQ_ret {P : Program} {fn : Func} {R : RV → Prop} {st : St} : bodyQ P fn R .ret st ↔ match retv P fn st with | some r => R r | none => False := by
  unfold bodyQ Ret
  cases retv P fn st with
  | none => simp
  | some r => simp
theorem bodyQ_normal {P : Program} {fn : Func} {R : RV → Prop} {st : St} : bodyQ P fn R .normal st ↔ match retv P fn st with | some r => R r | none => False := by
  unfold bodyQ Ret
  cases retv P fn st with
  | none => simp
  | some r => simp
section
variable {kp : Nat → Prop} {w : World} {E : Env} {st : St} {a : Act} {P : Program}
theorem load_ptr (hI : Inv kp w E st a) {X Y : AV} {v : Value} {ty : TypeId} (hv : RepV w E (lk st.m) X v) (hu : (P.underlying ty).isSome = true) (hl : aload P st ty X = some Y) : ∃ ad u, v = .pointer (some ad) ∧ (loadVar ty ad).run P w = .ok u w ∧ RepV w E (lk st.m) Y u := by
  unfold aload at hl
  split at hl
  · rename_i cl hp
    obtain ⟨ad, us, hv, hr, hc⟩ := ptr_rep hI hp hv
    refine ⟨ad, ?_⟩
    split at hl
    · rename_i hg
      split at hl
      · rename_i hle
        obtain ⟨xs, hs, rfl⟩ := Option.map_eq_some_iff.1 hl
        have hrt := hr.take (tsz P ty)
        have hlen : (us.take (tsz P ty)).length = tsz P ty := by rw [List.length_take, ← hr.len]; omega
        refine ⟨.agg (us.take (tsz P ty)).toArray, hv, ?_, by simp only [RepV, RepS]; exact ⟨_, rfl, RepVL.svs hs hrt⟩⟩
        have hcells := run_loadCells_list (P := P) w ad (us.take (tsz P ty)) (fun j u hu => hc j u (by rw [List.getElem?_take] at hu; split at hu <;> simp_all))
        rw [hlen] at hcells
        unfold loadVar
        simp [run_isAgg hu, hg, run_sizeOf (info_of_underlying hu), hcells]
      · cases hl
    · rename_i hg
      cases cl with
      | nil => simp at hl
      | cons Z cl =>
        simp only [List.head?_cons, Option.some.injEq] at hl
        subst hl
        simp only [RepVL] at hr
        obtain ⟨u, us', rfl, hZ, _⟩ := hr
        refine ⟨u, hv, ?_, hZ⟩
        have h0 := hc 0 u rfl
        have hz : ad.add 0 = ad := by simp [Addr.add]
        rw [hz] at h0
        unfold loadVar
        simp [run_isAgg hu, hg, load, Sem.run, h0]
  · cases hl
def resOne (tmps : Array Value) : ResultVar → Sem Value
  | .tmp t => pure (tmps.getD t undef)
  | .cell p t => do loadVar t (← asAddr (tmps.getD p undef))
theorem resAV_run (hI : Inv kp w E st a) : ∀ {l : List ResultVar} {xs : List AV}, resAV P st l = some xs → ∃ vs, (l.mapM (resOne a.tmps)).run P w = .ok vs w ∧ RepVL w E (lk st.m) xs vs
  | [], xs, h => by simp only [resAV, Option.some.injEq] at h; subst h; exact ⟨[], by simp, RepVL.nil⟩
  | .tmp t :: l, xs, h => by
    simp only [resAV] at h
    split at h
    · rename_i x xs' h1 h2
      simp only [Option.some.injEq] at h; subst h
      obtain ⟨vs, k1, k2⟩ := resAV_run hI h2
      obtain ⟨v, k3, k4⟩ := hI.tm t x h1
      refine ⟨v :: vs, ?_, RepVL.cons k4 k2⟩
      have k5 : (resOne a.tmps (.tmp t)).run P w = .ok v w := by simp [resOne, k3]
      simp [List.mapM_cons, k1, k5]
    · cases h
  | .cell p ty :: l, xs, h => by
    simp only [resAV] at h
    split at h
    · rename_i x xs' h1 h2
      split at h
      case isFalse => cases h
      rename_i hu
      simp only [Option.some.injEq] at h; subst h
      obtain ⟨X, hX, h1⟩ := Option.bind_eq_some_iff.1 h1
      obtain ⟨vs, k1, k2⟩ := resAV_run hI h2
      obtain ⟨v, k3, k4⟩ := hI.tm p X hX
      obtain ⟨ad, u, rfl, q1, q2⟩ := load_ptr (P := P) hI k4 hu h1
      refine ⟨u :: vs, ?_, RepVL.cons q2 k2⟩
      have k5 : (resOne a.tmps (.cell p ty)).run P w = .ok u w := by simp [resOne, k3, asAddr, q1]
      simp [List.mapM_cons, k1, k5]
    · cases h
theorem toR_get : ∀ {xs : List AV} {rs : List R1}, toR st xs = some rs → xs.length = rs.length ∧ ∀ (i : Nat) (x : AV) (c : R1), xs[i]? = some x → rs[i]? = some c → toR1 st x = some c
  | [], rs, h => by simp only [toR, Option.some.injEq] at h; subst h; exact ⟨rfl, fun i x c hx => by simp at hx⟩
  | x :: xs, rs, h => by
    simp only [toR] at h
    split at h
    · rename_i y ys h1 h2
      split at h
      case isTrue => cases h
      simp only [Option.some.injEq] at h; subst h
      obtain ⟨k1, k2⟩ := toR_get h2
      refine ⟨by simp [k1], fun i z c hz hc => ?_⟩
      cases i with
      | zero => simp at hz hc; subst hz; subst hc; exact h1
      | succ i => exact k2 i z c (by simpa using hz) (by simpa using hc)
    · cases h
theorem toR_tags : ∀ {xs : List AV} {rs : List R1}, toR st xs = some rs → ∀ (i j t : Nat), xs[i]? = some (.own t) → xs[j]? = some (.own t) → i = j
  | [], rs, h, i, j, t, hi, hj => by simp at hi
  | x :: xs, rs, h, i, j, t, hi, hj => by
    simp only [toR] at h
    split at h
    case h_2 => cases h
    rename_i y ys h1 h2
    split at h
    case isTrue => cases h
    rename_i hc
    have hno : ∀ (k : Nat), xs[k]? = some (AV.own t) → x = AV.own t → False := fun k hk hx => by
      subst hx
      simp only [ownIn] at hc
      have : ∀ {l : List AV} {k : Nat}, l[k]? = some (.own t) → AV.holdsL t l = true := by
        intro l
        induction l with
        | nil => intro k h; simp at h
        | cons z l ih =>
          intro k h
          cases k with
          | zero => simp at h; subst h; simp [AV.holdsL, AV.holds]
          | succ k => simp [AV.holdsL, ih (by simpa using h)]
      exact hc (this hk)
    cases i with
    | zero =>
      simp at hi
      cases j with
      | zero => rfl
      | succ j => exact (hno j (by simpa using hj) hi).elim
    | succ i =>
      cases j with
      | zero => simp at hj; exact (hno i (by simpa using hi) hj).elim
      | succ j => rw [toR_tags h2 i j t (by simpa using hi) (by simpa using hj)]

theorem ACalls.of_body {g : FuncId} {fn : Func} {c : Code} {args : List SV} {R : RV → Prop} (hcall : ∀ (cargs : Array Value) (w : World), (callFunc g cargs).run P w = .ok (.enter g cargs) w) (hf : P.funcs[g]? = some fn) (hb : fn.body = some c) {n : Nat} (hn : fn.ntmps = n) (hle : args.length ≤ n)
    (h : Tr P c (bodyQ P fn R) { n := n, t := params 0 args, m := [] }) : ACalls P g args R := by
  refine ⟨g, hcall, fun w ok cargs hok hargs => calls_of_wp hf hb (Code.wp_mono ?_ (h (· < w.heap.size) w ⟨ok, fun _ => none⟩ _ ?_))⟩
  · rintro e a' w' ⟨st', E', hI, hev, he, r, hR, hret⟩
    unfold Ret retv at hret
    obtain ⟨rs, hrs, rfl⟩ := Option.map_eq_some_iff.1 hret
    obtain ⟨xs, h1, h2⟩ := Option.bind_eq_some_iff.1 hrs
    obtain ⟨vs, hrun, hr⟩ := resAV_run (P := P) hI h1
    obtain ⟨hlen, hget⟩ := toR_get h2
    have htag := toR_tags h2
    have hcomps : (mkRV rs).comps = rs := by
      unfold mkRV
      split <;> rfl
    have hres : (results fn a'.tmps).run P w' = .ok ((mkRV rs).val vs) w' := by
      have h3 : (fn.results.mapM (resOne a'.tmps)).run P w' = .ok vs.toArray w' := by
        rw [Array.mapM_eq_mapM_toList]
        simp [hrun]
      have h4 : results fn a'.tmps = (do let vs ← fn.results.mapM (resOne a'.tmps); pure (if h : vs.size = 1 then vs[0] else .tuple vs)) := by
        unfold results
        congr 2
      rw [h4, Sem.run_bind, h3]
      have hl3 := hr.len
      match rs, hlen with
      | [r], hlen =>
        have : ∃ u, vs = [u] := List.length_eq_one_iff.1 (by simp at hlen; omega)
        obtain ⟨u, rfl⟩ := this
        simp [mkRV, RV.val]
      | [], hlen =>
        have : vs = [] := List.eq_nil_of_length_eq_zero (by simp at hlen; simp [hlen] at hl3; omega)
        subst this
        simp [mkRV, RV.val]
      | r1 :: r2 :: rs', hlen =>
        simp only [mkRV, RV.val]
        have : vs.length ≠ 1 := by simp at hlen; omega
        simp [this]
    have hfin : ∃ (r : RV) (us : List Value) (E1 : Env), R r ∧ Ending.returned ((mkRV rs).val vs) = .returned (r.val us) ∧ Inv (· < w.heap.size) w' E1 (cst r.comps) ⟨us.toArray, []⟩ ∧ Evo (· < w.heap.size) w ⟨ok, E1.at_⟩ w' E1 := by
      refine ⟨mkRV rs, vs, ⟨E'.ok, fun i => match xs[i]? with | some (.own t) => E'.at_ t | _ => none⟩, hR, rfl, ?_, ⟨hev.os, hev.tape, hev.output, hev.size, hev.kp, hev.oks, hev.new, fun _ _ => rfl⟩⟩
      rw [hcomps]
      have hl3 := hr.len
      -- each of the results' rows
      have own : ∀ (i sz : Nat) (ys : List SV), rs[i]? = some (R1.own sz ys) → ∃ t, xs[i]? = some (AV.own t) ∧ lk st'.m t = some (.row sz ys) := fun i sz ys hi => by
        have hlt : i < xs.length := by rw [hlen]; exact (List.getElem?_eq_some_iff.1 hi).1
        have hx := List.getElem?_eq_getElem hlt
        have hc := hget i _ _ hx hi
        rw [hx]
        unfold toR1 at hc
        split at hc
        · cases hc
        · cases hc
        · rename_i t he
          split at hc
          · rename_i sz' xs' hm
            simp only [Option.some.injEq, R1.own.injEq] at hc
            obtain ⟨rfl, rfl⟩ := hc
            exact ⟨t, by rw [he], hm⟩
          · cases hc
        · cases hc
      have hcl : ∀ (i sz : Nat) (ys : List SV), rs[i]? = some (R1.own sz ys) → lk (cst rs).m i = some (.row sz ys) := fun i sz ys hi => by
        rcases impM_lk (f := id) (fun _ _ h => h) rs 0 [] i with ⟨j', sz', xs', h1', h2', h3'⟩ | ⟨h1', _⟩
        · simp only [id, Nat.zero_add] at h2'; subst h2'
          rw [hi] at h1'; simp only [Option.some.injEq, R1.own.injEq] at h1'; obtain ⟨rfl, rfl⟩ := h1'
          exact h3'
        · exact (h1' i sz ys hi (by simp)).elim
      refine ⟨rfl, by simp [cst]; omega, fun d x hx => ?_, fun t o ho => ?_, fun t t' o o' g c s c' s' k1 k2 e1 e2 => ?_, fun t o g c s ho hg => ?_, hI.okl, hI.kpl⟩
      · have hg := ent1_get (f := id) rs 0 d
        simp only [Nat.zero_add, id] at hg
        rw [show lk (cst rs).t d = lk (ent1 id 0 rs) d from rfl, hg] at hx
        obtain ⟨c, hc, rfl⟩ := Option.map_eq_some_iff.1 hx
        have hlt : d < xs.length := by rw [hlen]; exact (List.getElem?_eq_some_iff.1 hc).1
        have hX := List.getElem?_eq_getElem hlt
        have hV : vs[d]? = some vs[d] := List.getElem?_eq_getElem (by omega)
        have hrep := hr.get d _ _ hX hV
        refine ⟨vs[d], by simp, ?_⟩
        have hc1 := hget d _ _ hX hc
        cases c with
        | sv y =>
          unfold toR1 at hc1
          split at hc1 <;> first | (simp only [Option.some.injEq, R1.sv.injEq] at hc1; subst hc1; rename_i he; rw [he] at hrep; simpa only [R1.av, RepV] using hrep) | (split at hc1 <;> cases hc1) | cases hc1
        | nil =>
          unfold toR1 at hc1
          split at hc1 <;> first | (rename_i he; rw [he] at hrep; simpa only [R1.av, RepV] using hrep) | (split at hc1 <;> cases hc1) | cases hc1
        | own sz ys =>
          obtain ⟨t, ht, hm⟩ := own d sz ys hc
          rw [hX] at ht
          simp only [Option.some.injEq] at ht
          rw [ht] at hrep
          simp only [R1.av, RepV] at hrep ⊢
          rw [hm] at hrep
          rw [hcl d sz ys hc, hX, ht]
          exact hrep
      · obtain ⟨sz, ys, hi, rfl⟩ := cst_mem rs t o ho
        obtain ⟨t', ht, hm⟩ := own t sz ys hi
        obtain ⟨h0, h⟩ := hI.mm t' _ hm
        refine ⟨h0, ?_⟩
        simp only [ht]
        exact h
      · obtain ⟨sz, ys, hi, rfl⟩ := cst_mem rs t o k1
        obtain ⟨sz', ys', hi', rfl⟩ := cst_mem rs t' o' k2
        obtain ⟨u, hu, hm⟩ := own t sz ys hi
        obtain ⟨u', hu', hm'⟩ := own t' sz' ys' hi'
        simp only [hu] at e1
        simp only [hu'] at e2
        have := hI.inj u u' _ _ g c s c' s' hm hm' e1 e2
        subst this
        exact htag t t' u hu hu'
      · obtain ⟨sz, ys, hi, rfl⟩ := cst_mem rs t o ho
        obtain ⟨u, hu, hm⟩ := own t sz ys hi
        simp only [hu] at hg
        exact hI.own u _ g c s hm hg
    rcases he with rfl | rfl
    · refine ⟨hI.df, _, hres, ?_⟩
      exact hfin
    · refine ⟨hI.df, _, hres, ?_⟩
      exact hfin
  · have hal := hargs.len
    simp only [Array.length_toList] at hal
    refine ⟨rfl, by simp [hn]; omega, fun d x hx => ?_, fun t o ho => by simp [lk] at ho, fun t t' o o' g c s c' s' k1 => by simp [lk] at k1, fun t o g c s k1 => by simp [lk] at k1, hok, fun b hb => hb⟩
    obtain ⟨j, y, rfl, hj, rfl⟩ := params_get args 0 d x hx
    obtain ⟨v, hv, hr⟩ := hargs.at hj
    have hlt : j < cargs.size := by rw [← hal]; exact (List.getElem?_eq_some_iff.1 hj).1
    refine ⟨v, ?_, by simpa only [RepV] using hr⟩
    rw [Nat.zero_add, Array.getElem?_append_left hlt]
    simpa using hv
end
end Go.Proofs.YtfcojlagmmgagaaDoor.Ab
