/- The abstract layer, part I: len, slices cut, what is frozen. -/
import Derived.Test.YtfcojlagmmgagaaDoorAbH
namespace Go.Proofs.YtfcojlagmmgagaaDoor.Ab
open Go.RowKit
set_option linter.unusedVariables false
set_option linter.unusedSimpArgs false
section
variable {P : Program} {o : Oper} {st : St} {d : Nat} {e ty tr : TypeId} {x y : Operand} {X Y : AV}

theorem does_len {xs : List SV} (ho : o.op = .call { callee := .builtin .len, args := #[x], argTypes := #[ty] }) (hx : aval st x = some X) (he : selem P ty = some e) (hxs : rowOf st X = some xs) (hd : st.fitsDst o.dst = true) :
    Does P o st (st.put o.dst (.sv (.val (.int .i64 xs.length)))) := by
  refine Does.puts hd fun keep w E a hI => ⟨_, ?_, RepV.val_mk _⟩
  obtain ⟨b, c, hv, _⟩ := src_rep hI hxs (aval_rep hI hx)
  obtain ⟨hu, hi⟩ := selem_eq he
  unfold execOp
  rw [ho]
  simp [resolve, invoke, builtin, hv, Builtin.len_, run_underlying hu, goInt]
theorem does_len_str {s : ByteArray} (ho : o.op = .call { callee := .builtin .len, args := #[x], argTypes := #[ty] }) (hx : aval st x = some (.sv (.val (.string s)))) (hu : P.underlying ty = some .string) (hd : st.fitsDst o.dst = true) :
    Does P o st (st.put o.dst (.sv (.val (.int .i64 s.size)))) := by
  refine Does.puts hd fun keep w E a hI => ⟨_, ?_, RepV.val_mk _⟩
  have hv := (aval_rep hI hx).val
  unfold execOp
  rw [ho]
  simp [resolve, invoke, builtin, hv, Builtin.len_, run_underlying hu, goInt]

theorem does_min {k : IntKind} {m n : Int} (ho : o.op = .call { callee := .builtin .min, args := #[x, y], argTypes := #[ty, tr] }) (hx : aval st x = some (.sv (.val (.int k m)))) (hy : aval st y = some (.sv (.val (.int k n)))) (hd : st.fitsDst o.dst = true) :
    Does P o st (st.put o.dst (.sv (.val (.int k (if n < m then n else m))))) := by
  refine Does.puts hd fun keep w E a hI => ⟨_, ?_, RepV.val_mk _⟩
  have hv := (aval_rep hI hx).val
  have hw := (aval_rep hI hy).val
  unfold execOp
  rw [ho]
  simp [resolve, invoke, builtin, hv, hw, Builtin.min_, Builtin.min2]
theorem does_max {k : IntKind} {m n : Int} (ho : o.op = .call { callee := .builtin .max, args := #[x, y], argTypes := #[ty, tr] }) (hx : aval st x = some (.sv (.val (.int k m)))) (hy : aval st y = some (.sv (.val (.int k n)))) (hd : st.fitsDst o.dst = true) :
    Does P o st (st.put o.dst (.sv (.val (.int k (if m < n then n else m))))) := by
  refine Does.puts hd fun keep w E a hI => ⟨_, ?_, RepV.val_mk _⟩
  have hv := (aval_rep hI hx).val
  have hw := (aval_rep hI hy).val
  unfold execOp
  rw [ho]
  simp [resolve, invoke, builtin, hv, hw, Builtin.max_, Builtin.max2]

/-- A bound of a slice: not told, or a number. -/
def bnd (st : St) (z : Int) : Option Operand → Option Int
  | none => some z
  | some y => match aval st y with
    | some (.sv (.val (.int _ n))) => some n
    | _ => none
theorem bnd_run {keep : Nat → Prop} {w : World} {E : Env} {a : Act} (hI : Inv keep w E st a) {z n : Int} {y : Option Operand} (h : bnd st z y = some n) : (y = none ∧ n = z) ∨ ∃ y' k, y = some y' ∧ a.eval y' = .int k n := by
  cases y with
  | none => simp only [bnd, Option.some.injEq] at h; exact .inl ⟨rfl, h.symm⟩
  | some y =>
    simp only [bnd] at h
    split at h
    · rename_i k m hy
      simp only [Option.some.injEq] at h; subst h
      exact .inr ⟨y, k, rfl, (aval_rep hI hy).val⟩
    · cases h

theorem does_slice {lo hi : Option Operand} {xs : List SV} {l h : Int} (ho : o.op = .slice ty x lo hi none) (hx : aval st x = some (.sv (.lst xs))) (he : selem P ty = some e) (hl : bnd st 0 lo = some l) (hh : bnd st xs.length hi = some h)
    (hb : 0 ≤ l ∧ l ≤ h ∧ h ≤ (xs.length : Int)) (hsz : ∀ z ∈ xs, z.fits (tsz P e) = true) (hd : st.fitsDst o.dst = true) : Does P o st (st.put o.dst (.sv (.lst ((xs.take h.toNat).drop l.toNat)))) := by
  refine Does.puts hd fun keep w E a hI => ?_
  have rx := aval_rep hI hx
  simp only [RepV, RepS] at rx
  obtain ⟨b, c, hv, hc, hor⟩ := rx
  obtain ⟨hu, hi'⟩ := selem_eq he
  have hlen : ((xs.take h.toNat).drop l.toNat).length = h.toNat - l.toNat := by rw [List.length_drop, List.length_take]; omega
  have hrun : (execOp a.eval o).run P w = .ok (.value (.slice (if c = l.toNat then b else b.map (·.add (l.toNat * tsz P e))) (h.toNat - l.toNat) (c - l.toNat))) w := by
    unfold execOp
    rw [ho]
    have b1 : 0 ≤ h := by omega
    have b2 : h ≤ (c : Int) := by omega
    rcases bnd_run hI hl with ⟨rfl, rfl⟩ | ⟨y1, k1, rfl, e1⟩ <;> rcases bnd_run hI hh with ⟨rfl, rfl⟩ | ⟨y2, k2, rfl, e2⟩
    · simp [hv, Instr.sliceAt, Instr.slice, run_underlying hu, Instr.sliceBounds, run_sizeOf hi']
    · simp [hv, e2, Instr.sliceAt, Instr.slice, run_underlying hu, Instr.sliceBounds, Instr.sliceBound, asIntOf, run_sizeOf hi', b1, b2]
    · have b3 : l ≤ (xs.length : Int) := by omega
      simp [hv, e1, Instr.sliceAt, Instr.slice, run_underlying hu, Instr.sliceBounds, Instr.sliceBound, asIntOf, run_sizeOf hi', hb.1, b3]
    · have b3 : l ≤ (h.toNat : Int) := by omega
      simp [hv, e1, e2, Instr.sliceAt, Instr.slice, run_underlying hu, Instr.sliceBounds, Instr.sliceBound, asIntOf, run_sizeOf hi', b1, b2, hb.1, b3]
      omega
  refine ⟨_, hrun, ?_⟩
  simp only [RepV, RepS]
  refine ⟨_, c - l.toNat, by rw [hlen], by rw [hlen]; omega, ?_⟩
  rcases hor with rfl | ⟨ad, sz, vs, rfl, hok, hr, hat⟩
  · left; simp
  · by_cases hemp : (xs.take h.toNat).drop l.toNat = []
    · exact .inl hemp
    · refine .inr ⟨ad.add (l.toNat * tsz P e), sz, (vs.take h.toNat).drop l.toNat, ?_, by rw [add_block]; exact hok, (hr.take _).drop _, fun i u hu' => ?_⟩
      · have hpos : 0 < h.toNat - l.toNat := by
          rw [← hlen]; exact List.length_pos_iff.2 hemp
        rw [if_neg (by omega)]
        rfl
      · rw [List.getElem?_drop, List.getElem?_take] at hu'
        split at hu'
        case isFalse => cases hu'
        obtain ⟨k1, k2⟩ := hat _ u hu'
        have hsz' : sz = tsz P e := by rw [← k1]; exact (fits_repL hsz hr u (List.mem_of_getElem? hu')).1
        refine ⟨k1, ?_⟩
        rw [Go.Deep.add_add, ← hsz', ← Nat.add_mul]
        exact k2

/-- 'xs[:0:0]': nothing, and no room. -/
theorem does_slice0 {lo : Option Operand} {xs : List SV} {k1 k2 : IntKind} {sz : Nat} (ho : o.op = .slice ty x lo (some (.const (.int k1 0))) (some (.const (.int k2 0)))) (hx : aval st x = some X) (hxs : rowOf st X = some xs) (he : selem P ty = some e) (hl : bnd st 0 lo = some 0)
    (hd : o.dst = some d) (hf : st.fresh d = true) (hn : d < st.n) (hsz : 0 < tsz P e) : Does P o st { st with t := up st.t d (.own d), m := up st.m d (.row (tsz P e) []) } := by
  intro keep w E a hI
  obtain ⟨b, c, hv, hc, _⟩ := src_rep hI hxs (aval_rep hI hx)
  obtain ⟨hu, hi'⟩ := selem_eq he
  have hlk : lk st.m d = none := by simp only [St.fresh, Bool.and_eq_true, Option.isNone_iff_eq_none] at hf; exact hf.2.2
  have hrun : (execOp a.eval o).run P w = .ok (.value (.slice b 0 0)) w := by
    unfold execOp
    rw [ho]
    have c1 : a.eval (.const (.int k1 0)) = .int k1 0 := rfl
    have c2 : a.eval (.const (.int k2 0)) = .int k2 0 := rfl
    rcases bnd_run hI hl with ⟨rfl, _⟩ | ⟨y1, k3, rfl, e1⟩
    · simp [hv, c1, c2, Instr.sliceAt, Instr.slice, run_underlying hu, Instr.sliceBounds, Instr.sliceBound, asIntOf, run_sizeOf hi']
    · simp [hv, c1, c2, e1, Instr.sliceAt, Instr.slice, run_underlying hu, Instr.sliceBounds, Instr.sliceBound, asIntOf, run_sizeOf hi']
  refine ⟨_, w, E.set d none, .inl hrun, ?_, Evo.re hI (t := d) ⟨rfl, rfl, rfl⟩ (Nat.le_refl _) (fun _ _ _ => rfl) rfl (Env.set_pin (St.fresh_pin hf))⟩
  have h1 := hI.re hf (t := d) (o := .row (tsz P e) []) (x := none) (w' := w) (Nat.le_refl _) (fun _ _ _ => rfl) (fun g c s h => by cases h) ⟨hsz, .inl ⟨by simp [Env.set], rfl⟩⟩
  rw [rm_none hlk] at h1
  rw [hd]
  exact h1.put (dst := some d) (x := .own d) (by simpa [St.fitsDst] using hn) (by
    simp only [RepV]
    rw [lk_up, if_pos rfl]
    simp [Env.set])

theorem does_slice_str {lo hi : Option Operand} {s : ByteArray} {l h : Int} (ho : o.op = .slice ty x lo hi none) (hx : aval st x = some (.sv (.val (.string s)))) (hu : P.underlying ty = some .string) (hl : bnd st 0 lo = some l) (hh : bnd st s.size hi = some h)
    (hb : 0 ≤ l ∧ l ≤ h ∧ h ≤ (s.size : Int)) (hd : st.fitsDst o.dst = true) : Does P o st (st.put o.dst (.sv (.val (.string (s.extract l.toNat h.toNat))))) := by
  refine Does.puts hd fun keep w E a hI => ⟨_, ?_, RepV.val_mk _⟩
  have hv := (aval_rep hI hx).val
  unfold execOp
  rw [ho]
  have b1 : 0 ≤ h := by omega
  rcases bnd_run hI hl with ⟨rfl, rfl⟩ | ⟨y1, k1, rfl, e1⟩ <;> rcases bnd_run hI hh with ⟨rfl, rfl⟩ | ⟨y2, k2, rfl, e2⟩
  · simp [hv, Instr.sliceAt, Instr.slice, run_underlying hu, Instr.sliceBounds]
  · simp [hv, e2, Instr.sliceAt, Instr.slice, run_underlying hu, Instr.sliceBounds, Instr.sliceBound, asIntOf, b1, hb.2.2]
  · have b3 : l ≤ (s.size : Int) := by omega
    simp [hv, e1, Instr.sliceAt, Instr.slice, run_underlying hu, Instr.sliceBounds, Instr.sliceBound, asIntOf, hb.1, b3]
  · have b3 : l ≤ (h.toNat : Int) := by omega
    simp [hv, e1, e2, Instr.sliceAt, Instr.slice, run_underlying hu, Instr.sliceBounds, Instr.sliceBound, asIntOf, b1, hb.1, hb.2.2, b3]
    omega
end

/-! ### Freezing: what is owned is shared from now on -/
mutual
def AV.frz (t : Nat) (o : Obj') : AV → AV
  | .own s => if s = t then (match o with | .row _ xs => .sv (.lst xs) | _ => .sv .any) else .own s
  | .elt s i off => if s = t then (match o with | .row _ xs => (match xs[i]? with | some x => .sv (.ref x off) | none => .sv .any) | _ => .sv .any) else .elt s i off
  | .box s off => if s = t then (match o with | .box cs => (match AV.svs cs with | some xs => .sv (.ref (.agg xs) off) | none => .sv .any) | _ => .sv .any) else .box s off
  | .sv x => .sv x
  | .nil => .nil
  | .tup xs => .tup (AV.frzL t o xs)
  | .agg xs => .agg (AV.frzL t o xs)
  | .sl s n => if s = t then (match o with | .box cs => (match AV.svs cs with | some xs => if n = xs.length ∧ xs.all SV.one = true then .sv (.lst xs) else .sv .any | none => .sv .any) | _ => .sv .any) else .sl s n
  | .fnv f xs => .fnv f (AV.frzL t o xs)
def AV.frzL (t : Nat) (o : Obj') : List AV → List AV
  | [] => []
  | x :: xs => AV.frz t o x :: AV.frzL t o xs
end
def Obj'.frz (t : Nat) (o : Obj') : Obj' → Obj'
  | .row sz xs => .row sz xs
  | .box cs => .box (AV.frzL t o cs)
def mapv {α β : Type} (f : α → β) : List (Nat × α) → List (Nat × β)
  | [] => []
  | (k, x) :: l => (k, f x) :: mapv f l
theorem lk_mapv {α β : Type} (f : α → β) : ∀ (l : List (Nat × α)) (d : Nat), lk (mapv f l) d = (lk l d).map f
  | [], d => rfl
  | (k, x) :: l, d => by
    simp only [mapv, lk]
    split
    · rfl
    · exact lk_mapv f l d
def St.freeze (st : St) (t : Nat) : St :=
  match lk st.m t with
  | some o => { st with t := mapv (AV.frz t o) st.t, m := mapv (Obj'.frz t o) (rm st.m t) }
  | none => st

section
variable {kp : Nat → Prop} {w : World} {E : Env} {st : St} {a : Act} {t : Nat} {o : Obj'}
def Env.share (E : Env) (t : Nat) : Env := { E with ok := fun b => E.ok b ∨ ∃ c s, E.at_ t = some (b, c, s) }

theorem frz_rep (hmm : MemRep w E (lk st.m) t o) (ho : lk st.m t = some o) (m' : Mem) (hm' : ∀ s, s ≠ t → (m' s = none ∧ lk st.m s = none) ∨ (∃ k xs, lk st.m s = some (.row k xs) ∧ m' s = some (.row k xs)) ∨ (∃ cs ds, lk st.m s = some (.box cs) ∧ m' s = some (.box ds))) :
    ∀ {x : AV} {v : Value}, RepV w E (lk st.m) x v → RepV w (E.share t) m' (x.frz t o) v := by
  have hok : ∀ b, E.ok b → (E.share t).ok b ∧ w.heap[b]? = w.heap[b]? := fun b hb => ⟨.inl hb, rfl⟩
  have row : ∀ {sz xs}, o = .row sz xs → ∀ {v}, RepV w E (lk st.m) (.own t) v → RepS w (E.share t).ok (.lst xs) v := by
    intro sz xs ho' v hv
    subst ho'
    simp only [RepV, ho] at hv
    obtain ⟨h0, h⟩ := hmm
    simp only [RepS]
    rcases h with ⟨h1, rfl⟩ | ⟨g, c, e, cur, vs, h1, h2, h3, h4, h5, h6, h7, h8⟩
    · rw [h1] at hv; obtain ⟨b, rfl⟩ := hv; exact ⟨b, 0, rfl, Nat.le_refl _, .inl rfl⟩
    · rw [h1] at hv
      refine ⟨_, c, hv, h4, .inr ⟨⟨g, 0, none⟩, sz, vs, rfl, .inr ⟨c, sz, h1⟩, h7.keep hok, fun i u hu => ⟨(h8 i u hu).1, fun j y hy => ?_⟩⟩⟩
      rw [Go.Deep.add_add, add_lit, cell_of_row w g _ cur e (0, 0) h2, Nat.zero_add]
      exact (h8 i u hu).2.2 j y hy
  intro x
  refine AV.rec (motive_1 := fun x => ∀ {v : Value}, RepV w E (lk st.m) x v → RepV w (E.share t) m' (x.frz t o) v) (motive_2 := fun l => ∀ {vs : List Value}, RepVL w E (lk st.m) l vs → RepVL w (E.share t) m' (AV.frzL t o l) vs)
    ?_ ?_ ?_ ?_ ?_ ?_ ?_ ?_ ?_ ?_ ?_ x
  · intro x v h; simp only [RepV, AV.frz] at h ⊢; exact h.keep hok
  · intro v h; simpa only [RepV, AV.frz] using h
  · intro s v h
    simp only [AV.frz]
    by_cases hs : s = t
    · subst hs
      rw [if_pos rfl]
      cases o with
      | row sz xs => simp only [RepV]; exact row rfl h
      | box cs => simp only [RepV, RepS]
    · rw [if_neg hs]
      simp only [RepV] at h ⊢
      rcases hm' s hs with ⟨h1, h2⟩ | ⟨k, xs, h1, h2⟩ | ⟨cs, ds, h1, h2⟩
      · rw [h1]; trivial
      · rw [h1] at h; rw [h2]; exact h
      · rw [h2]; trivial
  · intro s off v h
    simp only [AV.frz]
    by_cases hs : s = t
    · subst hs
      rw [if_pos rfl]
      cases o with
      | row sz xs => simp only [RepV, RepS]
      | box cs =>
        simp only
        split
        · rename_i xs hxs
          simp only [RepV, ho] at h
          obtain ⟨g, c, sz, hg, rfl⟩ := h
          obtain ⟨g', c', sz', e, cur, hg', hh, hr⟩ := hmm
          rw [hg] at hg'
          simp only [Option.some.injEq, Prod.mk.injEq] at hg'
          obtain ⟨rfl, rfl, rfl⟩ := hg'
          simp only [RepV, RepS]
          refine ⟨⟨g, 0, none⟩, .agg cur, by rw [add_lit, Nat.zero_add], .inr ⟨c, sz, hg⟩, ⟨cur, rfl, (RepVL.svs hxs hr).keep hok⟩, fun j y hy => ?_⟩
          rw [add_lit, cell_of_row w g _ cur e (0, 0) hh, Nat.zero_add]
          exact hy
        · simp only [RepV, RepS]
    · rw [if_neg hs]
      simp only [RepV] at h ⊢
      rcases hm' s hs with ⟨h1, h2⟩ | ⟨k, xs, h1, h2⟩ | ⟨cs, ds, h1, h2⟩
      · rw [h1]; trivial
      · rw [h2]; trivial
      · rw [h1] at h; rw [h2]; exact h
  · intro s i off v h
    simp only [AV.frz]
    by_cases hs : s = t
    · subst hs
      rw [if_pos rfl]
      cases o with
      | row sz xs =>
        simp only
        split
        · rename_i x hx
          simp only [RepV, ho] at h
          obtain ⟨g, c, sz', hg, rfl, hi, hof⟩ := h
          obtain ⟨g', c', e, cur, u, hpos, hg', hh, hcs, hlen, hr, hus, h1, hcur⟩ := row_elem hmm hx
          rw [hg] at hg'
          simp only [Option.some.injEq, Prod.mk.injEq] at hg'
          obtain ⟨rfl, rfl, rfl⟩ := hg'
          simp only [RepV, RepS]
          refine ⟨⟨g, i * sz', none⟩, u, by rw [add_lit], .inr ⟨c, _, hg⟩, hr.keep hok, fun j y hy => ?_⟩
          rw [add_lit, cell_of_row w g _ cur e (0, 0) hh]
          exact hcur j y hy
        · simp only [RepV, RepS]
      | box cs => simp only [RepV, RepS]
    · rw [if_neg hs]
      simp only [RepV] at h ⊢
      rcases hm' s hs with ⟨h1, h2⟩ | ⟨k, xs, h1, h2⟩ | ⟨cs, ds, h1, h2⟩
      · rw [h1]; trivial
      · rw [h1] at h; rw [h2]; exact h
      · rw [h2]; trivial
  · intro xs ih v h
    simp only [RepV, AV.frz] at h ⊢
    obtain ⟨cs, rfl, h⟩ := h
    exact ⟨cs, rfl, ih h⟩
  · intro f xs ih v h
    simp only [RepV, AV.frz] at h ⊢
    obtain ⟨cs, rfl, h⟩ := h
    exact ⟨cs, rfl, ih h⟩
  · intro xs ih v h
    simp only [RepV, AV.frz] at h ⊢
    obtain ⟨cs, rfl, h⟩ := h
    exact ⟨cs, rfl, ih h⟩
  · intro s n v h
    simp only [AV.frz]
    by_cases hs : s = t
    · subst hs
      rw [if_pos rfl]
      cases o with
      | row sz xs => simp only [RepV, RepS]
      | box cs =>
        simp only
        split
        · rename_i xs hxs
          split
          · rename_i hn
            obtain ⟨hn, hone⟩ := hn
            subst hn
            simp only [RepV, ho] at h
            obtain ⟨g, c, sz, hg, rfl⟩ := h
            obtain ⟨g', c', sz', e, cur, hg', hh, hr⟩ := hmm
            rw [hg] at hg'
            simp only [Option.some.injEq, Prod.mk.injEq] at hg'
            obtain ⟨rfl, rfl, rfl⟩ := hg'
            simp only [RepV, RepS]
            have hrs := RepVL.svs hxs hr
            refine ⟨_, _, rfl, Nat.le_refl _, .inr ⟨⟨g, 0, none⟩, 1, cur.toList, rfl, .inr ⟨c, sz, hg⟩, hrs.keep hok, fun i u hu => ?_⟩⟩
            have hu1 : u.oneCell' = true := RepL.oneCell hone hrs u (List.mem_of_getElem? hu)
            refine ⟨by rw [cells_one hu1]; rfl, fun j y hy => ?_⟩
            rw [cells_one hu1] at hy
            have hj : j = 0 := by
              have := (Array.getElem?_eq_some_iff.1 hy).1
              simp at this; omega
            subst hj
            simp only [List.getElem?_toArray, List.getElem?_cons_zero, Option.some.injEq] at hy
            subst hy
            rw [Go.Deep.add_add, add_lit, cell_of_row w g _ cur e (0, 0) hh, Nat.zero_add, Nat.mul_one, Nat.add_zero]
            simpa using hu
          · simp only [RepV, RepS]
        · simp only [RepV, RepS]
    · rw [if_neg hs]
      simp only [RepV] at h ⊢
      rcases hm' s hs with ⟨h1, h2⟩ | ⟨k, xs, h1, h2⟩ | ⟨cs, ds, h1, h2⟩
      · rw [h1]; trivial
      · rw [h2]; trivial
      · rw [h1] at h; rw [h2]; exact h
  · intro vs h; simpa only [RepVL, AV.frzL] using h
  · intro x xs ihx ihs vs h
    simp only [RepVL, AV.frzL] at h ⊢
    obtain ⟨v, vs', rfl, hx, hs⟩ := h
    exact ⟨v, vs', rfl, ihx hx, ihs hs⟩
theorem frzL_rep (hmm : MemRep w E (lk st.m) t o) (ho : lk st.m t = some o) (m' : Mem) (hm' : ∀ s, s ≠ t → (m' s = none ∧ lk st.m s = none) ∨ (∃ k xs, lk st.m s = some (.row k xs) ∧ m' s = some (.row k xs)) ∨ (∃ cs ds, lk st.m s = some (.box cs) ∧ m' s = some (.box ds))) :
    ∀ {l : List AV} {vs : List Value}, RepVL w E (lk st.m) l vs → RepVL w (E.share t) m' (AV.frzL t o l) vs
  | [], vs, h => by simpa only [RepVL, AV.frzL] using h
  | x :: xs, vs, h => by
    simp only [RepVL, AV.frzL] at h ⊢
    obtain ⟨v, vs', rfl, hx, hs⟩ := h
    exact ⟨v, vs', rfl, frz_rep hmm ho m' hm' hx, frzL_rep hmm ho m' hm' hs⟩

theorem freeze_inv (hI : Inv kp w E st a) (t : Nat) : ∃ E', Inv kp w E' (st.freeze t) a ∧ Evo kp w E w E' := by
  unfold St.freeze
  split
  case h_2 => exact ⟨E, hI, Evo.refl _ _ _⟩
  rename_i o ho
  have hmm := hI.mm t o ho
  have hok : ∀ b, E.ok b → (E.share t).ok b ∧ w.heap[b]? = w.heap[b]? := fun b hb => ⟨.inl hb, rfl⟩
  have hlk : ∀ s, lk (mapv (Obj'.frz t o) (rm st.m t)) s = if t = s then none else (lk st.m s).map (Obj'.frz t o) := fun s => by
    rw [lk_mapv, lk_rm]; split <;> rfl
  have hm' : ∀ s, s ≠ t → (lk (mapv (Obj'.frz t o) (rm st.m t)) s = none ∧ lk st.m s = none) ∨ (∃ k xs, lk st.m s = some (.row k xs) ∧ lk (mapv (Obj'.frz t o) (rm st.m t)) s = some (.row k xs)) ∨ (∃ cs ds, lk st.m s = some (.box cs) ∧ lk (mapv (Obj'.frz t o) (rm st.m t)) s = some (.box ds)) := by
    intro s hs
    rw [hlk, if_neg (Ne.symm hs)]
    cases lk st.m s with
    | none => exact .inl ⟨rfl, rfl⟩
    | some o' => cases o' with
      | row k xs => exact .inr (.inl ⟨k, xs, rfl, rfl⟩)
      | box cs => exact .inr (.inr ⟨cs, _, rfl, rfl⟩)
  have hsome : ∀ s o1, lk (mapv (Obj'.frz t o) (rm st.m t)) s = some o1 → s ≠ t ∧ ∃ o2, lk st.m s = some o2 ∧ o1 = Obj'.frz t o o2 := fun s o1 hs => by
    rw [hlk] at hs
    split at hs
    · cases hs
    · obtain ⟨o2, h1, h2⟩ := Option.map_eq_some_iff.1 hs
      exact ⟨by omega, o2, h1, h2.symm⟩
  refine ⟨E.share t, ⟨hI.df, hI.sz, fun d x hx => ?_, fun s o1 hs => ?_, fun s s' o1 o2 g c1 z1 c2 z2 h1 h2 e1 e2 => ?_, fun s o1 g c z hs hg => ?_, ⟨fun b hb => ?_, hI.okl.gw.keep hok⟩, hI.kpl⟩, ⟨rfl, rfl, rfl, Nat.le_refl _, fun _ _ => rfl, hok, fun b hb => ?_, fun _ _ => rfl⟩⟩
  · rw [lk_mapv] at hx
    obtain ⟨x0, hx0, rfl⟩ := Option.map_eq_some_iff.1 hx
    obtain ⟨v, hv, hr⟩ := hI.tm d x0 hx0
    exact ⟨v, hv, frz_rep hmm ho _ hm' hr⟩
  · obtain ⟨hne, o2, h1, rfl⟩ := hsome s o1 hs
    have h2 := hI.mm s o2 h1
    cases o2 with
    | row sz xs =>
      obtain ⟨h0, h⟩ := h2
      refine ⟨h0, ?_⟩
      rcases h with h | ⟨g, c, e, cur, vs, k1, k2, k3, k4, k5, k6, k7, k8⟩
      · exact .inl h
      · exact .inr ⟨g, c, e, cur, vs, k1, k2, k3, k4, k5, k6, k7.keep hok, k8⟩
    | box cs =>
      obtain ⟨g, c, sz, e, cur, k1, k2, k3⟩ := h2
      exact ⟨g, c, sz, e, cur, k1, k2, frzL_rep hmm ho _ hm' k3⟩
  · obtain ⟨_, p1, h1, _⟩ := hsome s o1 h1
    obtain ⟨_, p2, h2, _⟩ := hsome s' o2 h2
    exact hI.inj s s' p1 p2 g c1 z1 c2 z2 h1 h2 e1 e2
  · obtain ⟨hne, p1, h1, _⟩ := hsome s o1 hs
    have h2 := hI.own s p1 g c z h1 hg
    refine ⟨h2.1, ?_, h2.2.2⟩
    rintro (h3 | ⟨c', s', h3⟩)
    · exact h2.2.1 h3
    · exact hne (hI.inj s t p1 o g c z c' s' h1 ho hg h3)
  · rcases hb with hb | ⟨c, s, hb⟩
    · exact hI.okl b hb
    · exact (hI.own t o b c s ho hb).1
  · rcases hb with hb | ⟨c, s, hb⟩
    · exact .inl hb
    · exact .inr (hI.own t o b c s ho hb).2.2

/-- A nil slice is a row of nothing. -/
theorem thaw_inv (hI : Inv kp w E st a) {d t sz : Nat} (hd : lk st.t d = some .nil) (hf : st.fresh t = true) (hs : 0 < sz) : Inv kp w (E.set t none) { st with t := up st.t d (.own t), m := up st.m t (.row sz []) } a ∧ Evo kp w E w (E.set t none) := by
  have hlk : lk st.m t = none := by simp only [St.fresh, Bool.and_eq_true, Option.isNone_iff_eq_none] at hf; exact hf.2.2
  have h1 := hI.re hf (t := t) (o := .row sz []) (x := none) (w' := w) (Nat.le_refl _) (fun _ _ _ => rfl) (fun g c s h => by cases h) ⟨hs, .inl ⟨by simp [Env.set], rfl⟩⟩
  rw [rm_none hlk] at h1
  refine ⟨⟨h1.df, h1.sz, fun e x hx => ?_, h1.mm, h1.inj, h1.own, h1.okl, h1.kpl⟩, Evo.re hI (t := t) ⟨rfl, rfl, rfl⟩ (Nat.le_refl _) (fun _ _ _ => rfl) rfl (Env.set_pin (St.fresh_pin hf))⟩
  simp only at hx
  rw [lk_up] at hx
  split at hx
  · rename_i he; subst he
    simp only [Option.some.injEq] at hx; subst hx
    obtain ⟨v, hv, hr⟩ := hI.tm d .nil hd
    refine ⟨v, hv, ?_⟩
    simp only [RepV] at hr ⊢
    rw [lk_up, if_pos rfl]
    simp only [Env.set, if_true]
    exact ⟨none, hr⟩
  · exact h1.tm e x hx
end
end Go.Proofs.YtfcojlagmmgagaaDoor.Ab
