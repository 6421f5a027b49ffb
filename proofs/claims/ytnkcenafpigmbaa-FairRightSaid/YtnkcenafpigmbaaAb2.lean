/- The abstract layer, part I: len, slices cut, what is frozen. The abstract layer, part J: code, regions, calls, contracts. The abstract layer, part K: contracts of functions, calls, what a function returns. The abstract layer, part L: one function that tells what each operation does. The abstract layer, part M: what is made; code that is run by itself. -/
import Derived.Test.YtnkcenafpigmbaaAb1
import Derived.Scope
import Derived.Laws.StructEq
import Derived.ChangeKeysEq
import Derived.Laws.BytesString
import Derived.Laws.FloatArith
namespace Go.Proofs.Ytnkcenafpigmbaa.Ab
open Go.RowKit
set_option linter.unusedVariables false
set_option linter.unusedSimpArgs false
section
variable {P : Program} {o : Oper} {st : St} {d : Nat} {e ty tr : TypeId} {x y : Operand} {X Y : AV}

theorem does_len {xs : List SV} (ho : o.op = .call { callee := .builtin .len, args := #[x], argTypes := #[ty] }) (hx : aval st x = some X) (he : selem P ty = some e) (hxs : rowOf st X = some xs) (hd : st.fitsDst o.dst = true) :
    Does P o st (st.put o.dst (.sv (.val (.int .i64 xs.length)))) := by
  refine Does.puts hd fun keep w E a hI => ⟨_, ?_, RepV.val_mk _⟩
  obtain ⟨b, c, hv, _⟩ := src_rep hI hxs (aval_rep hI hx)
  obtain ⟨hu, hi⟩ := selem_eq he
  unfold execOp
  rw [ho]
  simp [resolve, invoke, builtin, hv, Builtin.len_, run_underlying hu, goInt]
theorem does_len_str {s : ByteArray} (ho : o.op = .call { callee := .builtin .len, args := #[x], argTypes := #[ty] }) (hx : aval st x = some (.sv (.val (.string s)))) (hu : P.underlying ty = some .string) (hd : st.fitsDst o.dst = true) :
    Does P o st (st.put o.dst (.sv (.val (.int .i64 s.size)))) := by
  refine Does.puts hd fun keep w E a hI => ⟨_, ?_, RepV.val_mk _⟩
  have hv := (aval_rep hI hx).val
  unfold execOp
  rw [ho]
  simp [resolve, invoke, builtin, hv, Builtin.len_, run_underlying hu, goInt]

theorem does_min {k : IntKind} {m n : Int} (ho : o.op = .call { callee := .builtin .min, args := #[x, y], argTypes := #[ty, tr] }) (hx : aval st x = some (.sv (.val (.int k m)))) (hy : aval st y = some (.sv (.val (.int k n)))) (hd : st.fitsDst o.dst = true) :
    Does P o st (st.put o.dst (.sv (.val (.int k (if n < m then n else m))))) := by
  refine Does.puts hd fun keep w E a hI => ⟨_, ?_, RepV.val_mk _⟩
  have hv := (aval_rep hI hx).val
  have hw := (aval_rep hI hy).val
  unfold execOp
  rw [ho]
  simp [resolve, invoke, builtin, hv, hw, Builtin.min_, Builtin.min2]
theorem does_max {k : IntKind} {m n : Int} (ho : o.op = .call { callee := .builtin .max, args := #[x, y], argTypes := #[ty, tr] }) (hx : aval st x = some (.sv (.val (.int k m)))) (hy : aval st y = some (.sv (.val (.int k n)))) (hd : st.fitsDst o.dst = true) :
    Does P o st (st.put o.dst (.sv (.val (.int k (if m < n then n else m))))) := by
  refine Does.puts hd fun keep w E a hI => ⟨_, ?_, RepV.val_mk _⟩
  have hv := (aval_rep hI hx).val
  have hw := (aval_rep hI hy).val
  unfold execOp
  rw [ho]
  simp [resolve, invoke, builtin, hv, hw, Builtin.max_, Builtin.max2]

/-- A bound of a slice: not told, or a number. -/
def bnd (st : St) (z : Int) : Option Operand → Option Int
  | none => some z
  | some y => match aval st y with
    | some (.sv (.val (.int _ n))) => some n
    | _ => none
theorem bnd_run {keep : Nat → Prop} {w : World} {E : Env} {a : Act} (hI : Inv keep w E st a) {z n : Int} {y : Option Operand} (h : bnd st z y = some n) : (y = none ∧ n = z) ∨ ∃ y' k, y = some y' ∧ a.eval y' = .int k n := by
  cases y with
  | none => simp only [bnd, Option.some.injEq] at h; exact .inl ⟨rfl, h.symm⟩
  | some y =>
    simp only [bnd] at h
    split at h
    · rename_i k m hy
      simp only [Option.some.injEq] at h; subst h
      exact .inr ⟨y, k, rfl, (aval_rep hI hy).val⟩
    · cases h

theorem does_slice {lo hi : Option Operand} {xs : List SV} {l h : Int} (ho : o.op = .slice ty x lo hi none) (hx : aval st x = some (.sv (.lst xs))) (he : selem P ty = some e) (hl : bnd st 0 lo = some l) (hh : bnd st xs.length hi = some h)
    (hb : 0 ≤ l ∧ l ≤ h ∧ h ≤ (xs.length : Int)) (hsz : ∀ z ∈ xs, z.fits (tsz P e) = true) (hd : st.fitsDst o.dst = true) : Does P o st (st.put o.dst (.sv (.lst ((xs.take h.toNat).drop l.toNat)))) := by
  refine Does.puts hd fun keep w E a hI => ?_
  have rx := aval_rep hI hx
  simp only [RepV, RepS] at rx
  obtain ⟨b, c, hv, hc, hor⟩ := rx
  obtain ⟨hu, hi'⟩ := selem_eq he
  have hlen : ((xs.take h.toNat).drop l.toNat).length = h.toNat - l.toNat := by rw [List.length_drop, List.length_take]; omega
  have hrun : (execOp a.eval o).run P w = .ok (.value (.slice (if c = l.toNat then b else b.map (·.add (l.toNat * tsz P e))) (h.toNat - l.toNat) (c - l.toNat))) w := by
    unfold execOp
    rw [ho]
    have b1 : 0 ≤ h := by omega
    have b2 : h ≤ (c : Int) := by omega
    rcases bnd_run hI hl with ⟨rfl, rfl⟩ | ⟨y1, k1, rfl, e1⟩ <;> rcases bnd_run hI hh with ⟨rfl, rfl⟩ | ⟨y2, k2, rfl, e2⟩
    · simp [hv, Instr.sliceAt, Instr.slice, run_underlying hu, Instr.sliceBounds, run_sizeOf hi']
    · simp [hv, e2, Instr.sliceAt, Instr.slice, run_underlying hu, Instr.sliceBounds, Instr.sliceBound, asIntOf, run_sizeOf hi', b1, b2]
    · have b3 : l ≤ (xs.length : Int) := by omega
      simp [hv, e1, Instr.sliceAt, Instr.slice, run_underlying hu, Instr.sliceBounds, Instr.sliceBound, asIntOf, run_sizeOf hi', hb.1, b3]
    · have b3 : l ≤ (h.toNat : Int) := by omega
      simp [hv, e1, e2, Instr.sliceAt, Instr.slice, run_underlying hu, Instr.sliceBounds, Instr.sliceBound, asIntOf, run_sizeOf hi', b1, b2, hb.1, b3]
      omega
  refine ⟨_, hrun, ?_⟩
  simp only [RepV, RepS]
  refine ⟨_, c - l.toNat, by rw [hlen], by rw [hlen]; omega, ?_⟩
  rcases hor with rfl | ⟨ad, sz, vs, rfl, hok, hr, hat⟩
  · left; simp
  · by_cases hemp : (xs.take h.toNat).drop l.toNat = []
    · exact .inl hemp
    · refine .inr ⟨ad.add (l.toNat * tsz P e), sz, (vs.take h.toNat).drop l.toNat, ?_, by rw [add_block]; exact hok, (hr.take _).drop _, fun i u hu' => ?_⟩
      · have hpos : 0 < h.toNat - l.toNat := by
          rw [← hlen]; exact List.length_pos_iff.2 hemp
        rw [if_neg (by omega)]
        rfl
      · rw [List.getElem?_drop, List.getElem?_take] at hu'
        split at hu'
        case isFalse => cases hu'
        obtain ⟨k1, k2⟩ := hat _ u hu'
        have hsz' : sz = tsz P e := by rw [← k1]; exact (fits_repL hsz hr u (List.mem_of_getElem? hu')).1
        refine ⟨k1, ?_⟩
        rw [Go.Deep.add_add, ← hsz', ← Nat.add_mul]
        exact k2

/-- 'xs[:0:0]': nothing, and no room. -/
theorem does_slice0 {lo : Option Operand} {xs : List SV} {k1 k2 : IntKind} {sz : Nat} (ho : o.op = .slice ty x lo (some (.const (.int k1 0))) (some (.const (.int k2 0)))) (hx : aval st x = some X) (hxs : rowOf st X = some xs) (he : selem P ty = some e) (hl : bnd st 0 lo = some 0)
    (hd : o.dst = some d) (hf : st.fresh d = true) (hn : d < st.n) (hsz : 0 < tsz P e) : Does P o st { st with t := up st.t d (.own d), m := up st.m d (.row (tsz P e) []) } := by
  intro keep w E a hI
  obtain ⟨b, c, hv, hc, _⟩ := src_rep hI hxs (aval_rep hI hx)
  obtain ⟨hu, hi'⟩ := selem_eq he
  have hlk : lk st.m d = none := by simp only [St.fresh, Bool.and_eq_true, Option.isNone_iff_eq_none] at hf; exact hf.2.2
  have hrun : (execOp a.eval o).run P w = .ok (.value (.slice b 0 0)) w := by
    unfold execOp
    rw [ho]
    have c1 : a.eval (.const (.int k1 0)) = .int k1 0 := rfl
    have c2 : a.eval (.const (.int k2 0)) = .int k2 0 := rfl
    rcases bnd_run hI hl with ⟨rfl, _⟩ | ⟨y1, k3, rfl, e1⟩
    · simp [hv, c1, c2, Instr.sliceAt, Instr.slice, run_underlying hu, Instr.sliceBounds, Instr.sliceBound, asIntOf, run_sizeOf hi']
    · simp [hv, c1, c2, e1, Instr.sliceAt, Instr.slice, run_underlying hu, Instr.sliceBounds, Instr.sliceBound, asIntOf, run_sizeOf hi']
  refine ⟨_, w, E.set d none, .inl hrun, ?_, Evo.re hI (t := d) ⟨rfl, rfl, rfl⟩ (Nat.le_refl _) (fun _ _ _ => rfl) rfl (Env.set_pin (St.fresh_pin hf))⟩
  have h1 := hI.re hf (t := d) (o := .row (tsz P e) []) (x := none) (w' := w) (Nat.le_refl _) (fun _ _ _ => rfl) (fun g c s h => by cases h) ⟨hsz, .inl ⟨by simp [Env.set], rfl⟩⟩
  rw [rm_none hlk] at h1
  rw [hd]
  exact h1.put (dst := some d) (x := .own d) (by simpa [St.fitsDst] using hn) (by
    simp only [RepV]
    rw [lk_up, if_pos rfl]
    simp [Env.set])

theorem does_slice_str {lo hi : Option Operand} {s : ByteArray} {l h : Int} (ho : o.op = .slice ty x lo hi none) (hx : aval st x = some (.sv (.val (.string s)))) (hu : P.underlying ty = some .string) (hl : bnd st 0 lo = some l) (hh : bnd st s.size hi = some h)
    (hb : 0 ≤ l ∧ l ≤ h ∧ h ≤ (s.size : Int)) (hd : st.fitsDst o.dst = true) : Does P o st (st.put o.dst (.sv (.val (.string (s.extract l.toNat h.toNat))))) := by
  refine Does.puts hd fun keep w E a hI => ⟨_, ?_, RepV.val_mk _⟩
  have hv := (aval_rep hI hx).val
  unfold execOp
  rw [ho]
  have b1 : 0 ≤ h := by omega
  rcases bnd_run hI hl with ⟨rfl, rfl⟩ | ⟨y1, k1, rfl, e1⟩ <;> rcases bnd_run hI hh with ⟨rfl, rfl⟩ | ⟨y2, k2, rfl, e2⟩
  · simp [hv, Instr.sliceAt, Instr.slice, run_underlying hu, Instr.sliceBounds]
  · simp [hv, e2, Instr.sliceAt, Instr.slice, run_underlying hu, Instr.sliceBounds, Instr.sliceBound, asIntOf, b1, hb.2.2]
  · have b3 : l ≤ (s.size : Int) := by omega
    simp [hv, e1, Instr.sliceAt, Instr.slice, run_underlying hu, Instr.sliceBounds, Instr.sliceBound, asIntOf, hb.1, b3]
  · have b3 : l ≤ (h.toNat : Int) := by omega
    simp [hv, e1, e2, Instr.sliceAt, Instr.slice, run_underlying hu, Instr.sliceBounds, Instr.sliceBound, asIntOf, b1, hb.1, hb.2.2, b3]
    omega
end

/-! ### Freezing: what is owned is shared from now on -/
mutual
def AV.frz (t : Nat) (o : Obj') : AV → AV
  | .own s => if s = t then (match o with | .row _ xs => .sv (.lst xs) | _ => .sv .any) else .own s
  | .elt s i off => if s = t then (match o with | .row _ xs => (match xs[i]? with | some x => .sv (.ref x off) | none => .sv .any) | _ => .sv .any) else .elt s i off
  | .box s off => if s = t then (match o with | .box cs => (match AV.svs cs with | some xs => .sv (.ref (.agg xs) off) | none => .sv .any) | _ => .sv .any) else .box s off
  | .sv x => .sv x
  | .nil => .nil
  | .tup xs => .tup (AV.frzL t o xs)
  | .agg xs => .agg (AV.frzL t o xs)
  | .sl s n => if s = t then (match o with | .box cs => (match AV.svs cs with | some xs => if n = xs.length ∧ xs.all SV.one = true then .sv (.lst xs) else .sv .any | none => .sv .any) | _ => .sv .any) else .sl s n
  | .fnv f xs => .fnv f (AV.frzL t o xs)
def AV.frzL (t : Nat) (o : Obj') : List AV → List AV
  | [] => []
  | x :: xs => AV.frz t o x :: AV.frzL t o xs
end
def Obj'.frz (t : Nat) (o : Obj') : Obj' → Obj'
  | .row sz xs => .row sz xs
  | .box cs => .box (AV.frzL t o cs)
def mapv {α β : Type} (f : α → β) : List (Nat × α) → List (Nat × β)
  | [] => []
  | (k, x) :: l => (k, f x) :: mapv f l
theorem lk_mapv {α β : Type} (f : α → β) : ∀ (l : List (Nat × α)) (d : Nat), lk (mapv f l) d = (lk l d).map f
  | [], d => rfl
  | (k, x) :: l, d => by
    simp only [mapv, lk]
    split
    · rfl
    · exact lk_mapv f l d
def St.freeze (st : St) (t : Nat) : St :=
  match lk st.m t with
  | some o => { st with t := mapv (AV.frz t o) st.t, m := mapv (Obj'.frz t o) (rm st.m t) }
  | none => st

section
variable {kp : Nat → Prop} {w : World} {E : Env} {st : St} {a : Act} {t : Nat} {o : Obj'}
def Env.share (E : Env) (t : Nat) : Env := { E with ok := fun b => E.ok b ∨ ∃ c s, E.at_ t = some (b, c, s) }

theorem frz_rep (hmm : MemRep w E (lk st.m) t o) (ho : lk st.m t = some o) (m' : Mem) (hm' : ∀ s, s ≠ t → (m' s = none ∧ lk st.m s = none) ∨ (∃ k xs, lk st.m s = some (.row k xs) ∧ m' s = some (.row k xs)) ∨ (∃ cs ds, lk st.m s = some (.box cs) ∧ m' s = some (.box ds))) :
    ∀ {x : AV} {v : Value}, RepV w E (lk st.m) x v → RepV w (E.share t) m' (x.frz t o) v := by
  have hok : ∀ b, E.ok b → (E.share t).ok b ∧ w.heap[b]? = w.heap[b]? := fun b hb => ⟨.inl hb, rfl⟩
  have row : ∀ {sz xs}, o = .row sz xs → ∀ {v}, RepV w E (lk st.m) (.own t) v → RepS w (E.share t).ok (.lst xs) v := by
    intro sz xs ho' v hv
    subst ho'
    simp only [RepV, ho] at hv
    obtain ⟨h0, h⟩ := hmm
    simp only [RepS]
    rcases h with ⟨h1, rfl⟩ | ⟨g, c, e, cur, vs, h1, h2, h3, h4, h5, h6, h7, h8⟩
    · rw [h1] at hv; obtain ⟨b, rfl⟩ := hv; exact ⟨b, 0, rfl, Nat.le_refl _, .inl rfl⟩
    · rw [h1] at hv
      refine ⟨_, c, hv, h4, .inr ⟨⟨g, 0, none⟩, sz, vs, rfl, .inr ⟨c, sz, h1⟩, h7.keep hok, fun i u hu => ⟨(h8 i u hu).1, fun j y hy => ?_⟩⟩⟩
      rw [Go.Deep.add_add, add_lit, cell_of_row w g _ cur e (0, 0) h2, Nat.zero_add]
      exact (h8 i u hu).2.2 j y hy
  intro x
  refine AV.rec (motive_1 := fun x => ∀ {v : Value}, RepV w E (lk st.m) x v → RepV w (E.share t) m' (x.frz t o) v) (motive_2 := fun l => ∀ {vs : List Value}, RepVL w E (lk st.m) l vs → RepVL w (E.share t) m' (AV.frzL t o l) vs)
    ?_ ?_ ?_ ?_ ?_ ?_ ?_ ?_ ?_ ?_ ?_ x
  · intro x v h; simp only [RepV, AV.frz] at h ⊢; exact h.keep hok
  · intro v h; simpa only [RepV, AV.frz] using h
  · intro s v h
    simp only [AV.frz]
    by_cases hs : s = t
    · subst hs
      rw [if_pos rfl]
      cases o with
      | row sz xs => simp only [RepV]; exact row rfl h
      | box cs => simp only [RepV, RepS]
    · rw [if_neg hs]
      simp only [RepV] at h ⊢
      rcases hm' s hs with ⟨h1, h2⟩ | ⟨k, xs, h1, h2⟩ | ⟨cs, ds, h1, h2⟩
      · rw [h1]; trivial
      · rw [h1] at h; rw [h2]; exact h
      · rw [h2]; trivial
  · intro s off v h
    simp only [AV.frz]
    by_cases hs : s = t
    · subst hs
      rw [if_pos rfl]
      cases o with
      | row sz xs => simp only [RepV, RepS]
      | box cs =>
        simp only
        split
        · rename_i xs hxs
          simp only [RepV, ho] at h
          obtain ⟨g, c, sz, hg, rfl⟩ := h
          obtain ⟨g', c', sz', e, cur, hg', hh, hr⟩ := hmm
          rw [hg] at hg'
          simp only [Option.some.injEq, Prod.mk.injEq] at hg'
          obtain ⟨rfl, rfl, rfl⟩ := hg'
          simp only [RepV, RepS]
          refine ⟨⟨g, 0, none⟩, .agg cur, by rw [add_lit, Nat.zero_add], .inr ⟨c, sz, hg⟩, ⟨cur, rfl, (RepVL.svs hxs hr).keep hok⟩, fun j y hy => ?_⟩
          rw [add_lit, cell_of_row w g _ cur e (0, 0) hh, Nat.zero_add]
          exact hy
        · simp only [RepV, RepS]
    · rw [if_neg hs]
      simp only [RepV] at h ⊢
      rcases hm' s hs with ⟨h1, h2⟩ | ⟨k, xs, h1, h2⟩ | ⟨cs, ds, h1, h2⟩
      · rw [h1]; trivial
      · rw [h2]; trivial
      · rw [h1] at h; rw [h2]; exact h
  · intro s i off v h
    simp only [AV.frz]
    by_cases hs : s = t
    · subst hs
      rw [if_pos rfl]
      cases o with
      | row sz xs =>
        simp only
        split
        · rename_i x hx
          simp only [RepV, ho] at h
          obtain ⟨g, c, sz', hg, rfl, hi, hof⟩ := h
          obtain ⟨g', c', e, cur, u, hpos, hg', hh, hcs, hlen, hr, hus, h1, hcur⟩ := row_elem hmm hx
          rw [hg] at hg'
          simp only [Option.some.injEq, Prod.mk.injEq] at hg'
          obtain ⟨rfl, rfl, rfl⟩ := hg'
          simp only [RepV, RepS]
          refine ⟨⟨g, i * sz', none⟩, u, by rw [add_lit], .inr ⟨c, _, hg⟩, hr.keep hok, fun j y hy => ?_⟩
          rw [add_lit, cell_of_row w g _ cur e (0, 0) hh]
          exact hcur j y hy
        · simp only [RepV, RepS]
      | box cs => simp only [RepV, RepS]
    · rw [if_neg hs]
      simp only [RepV] at h ⊢
      rcases hm' s hs with ⟨h1, h2⟩ | ⟨k, xs, h1, h2⟩ | ⟨cs, ds, h1, h2⟩
      · rw [h1]; trivial
      · rw [h1] at h; rw [h2]; exact h
      · rw [h2]; trivial
  · intro xs ih v h
    simp only [RepV, AV.frz] at h ⊢
    obtain ⟨cs, rfl, h⟩ := h
    exact ⟨cs, rfl, ih h⟩
  · intro f xs ih v h
    simp only [RepV, AV.frz] at h ⊢
    obtain ⟨cs, rfl, h⟩ := h
    exact ⟨cs, rfl, ih h⟩
  · intro xs ih v h
    simp only [RepV, AV.frz] at h ⊢
    obtain ⟨cs, rfl, h⟩ := h
    exact ⟨cs, rfl, ih h⟩
  · intro s n v h
    simp only [AV.frz]
    by_cases hs : s = t
    · subst hs
      rw [if_pos rfl]
      cases o with
      | row sz xs => simp only [RepV, RepS]
      | box cs =>
        simp only
        split
        · rename_i xs hxs
          split
          · rename_i hn
            obtain ⟨hn, hone⟩ := hn
            subst hn
            simp only [RepV, ho] at h
            obtain ⟨g, c, sz, hg, rfl⟩ := h
            obtain ⟨g', c', sz', e, cur, hg', hh, hr⟩ := hmm
            rw [hg] at hg'
            simp only [Option.some.injEq, Prod.mk.injEq] at hg'
            obtain ⟨rfl, rfl, rfl⟩ := hg'
            simp only [RepV, RepS]
            have hrs := RepVL.svs hxs hr
            refine ⟨_, _, rfl, Nat.le_refl _, .inr ⟨⟨g, 0, none⟩, 1, cur.toList, rfl, .inr ⟨c, sz, hg⟩, hrs.keep hok, fun i u hu => ?_⟩⟩
            have hu1 : u.oneCell' = true := RepL.oneCell hone hrs u (List.mem_of_getElem? hu)
            refine ⟨by rw [cells_one hu1]; rfl, fun j y hy => ?_⟩
            rw [cells_one hu1] at hy
            have hj : j = 0 := by
              have := (Array.getElem?_eq_some_iff.1 hy).1
              simp at this; omega
            subst hj
            simp only [List.getElem?_toArray, List.getElem?_cons_zero, Option.some.injEq] at hy
            subst hy
            rw [Go.Deep.add_add, add_lit, cell_of_row w g _ cur e (0, 0) hh, Nat.zero_add, Nat.mul_one, Nat.add_zero]
            simpa using hu
          · simp only [RepV, RepS]
        · simp only [RepV, RepS]
    · rw [if_neg hs]
      simp only [RepV] at h ⊢
      rcases hm' s hs with ⟨h1, h2⟩ | ⟨k, xs, h1, h2⟩ | ⟨cs, ds, h1, h2⟩
      · rw [h1]; trivial
      · rw [h2]; trivial
      · rw [h1] at h; rw [h2]; exact h
  · intro vs h; simpa only [RepVL, AV.frzL] using h
  · intro x xs ihx ihs vs h
    simp only [RepVL, AV.frzL] at h ⊢
    obtain ⟨v, vs', rfl, hx, hs⟩ := h
    exact ⟨v, vs', rfl, ihx hx, ihs hs⟩
theorem frzL_rep (hmm : MemRep w E (lk st.m) t o) (ho : lk st.m t = some o) (m' : Mem) (hm' : ∀ s, s ≠ t → (m' s = none ∧ lk st.m s = none) ∨ (∃ k xs, lk st.m s = some (.row k xs) ∧ m' s = some (.row k xs)) ∨ (∃ cs ds, lk st.m s = some (.box cs) ∧ m' s = some (.box ds))) :
    ∀ {l : List AV} {vs : List Value}, RepVL w E (lk st.m) l vs → RepVL w (E.share t) m' (AV.frzL t o l) vs
  | [], vs, h => by simpa only [RepVL, AV.frzL] using h
  | x :: xs, vs, h => by
    simp only [RepVL, AV.frzL] at h ⊢
    obtain ⟨v, vs', rfl, hx, hs⟩ := h
    exact ⟨v, vs', rfl, frz_rep hmm ho m' hm' hx, frzL_rep hmm ho m' hm' hs⟩

theorem freeze_inv (hI : Inv kp w E st a) (t : Nat) : ∃ E', Inv kp w E' (st.freeze t) a ∧ Evo kp w E w E' := by
  unfold St.freeze
  split
  case h_2 => exact ⟨E, hI, Evo.refl _ _ _⟩
  rename_i o ho
  have hmm := hI.mm t o ho
  have hok : ∀ b, E.ok b → (E.share t).ok b ∧ w.heap[b]? = w.heap[b]? := fun b hb => ⟨.inl hb, rfl⟩
  have hlk : ∀ s, lk (mapv (Obj'.frz t o) (rm st.m t)) s = if t = s then none else (lk st.m s).map (Obj'.frz t o) := fun s => by
    rw [lk_mapv, lk_rm]; split <;> rfl
  have hm' : ∀ s, s ≠ t → (lk (mapv (Obj'.frz t o) (rm st.m t)) s = none ∧ lk st.m s = none) ∨ (∃ k xs, lk st.m s = some (.row k xs) ∧ lk (mapv (Obj'.frz t o) (rm st.m t)) s = some (.row k xs)) ∨ (∃ cs ds, lk st.m s = some (.box cs) ∧ lk (mapv (Obj'.frz t o) (rm st.m t)) s = some (.box ds)) := by
    intro s hs
    rw [hlk, if_neg (Ne.symm hs)]
    cases lk st.m s with
    | none => exact .inl ⟨rfl, rfl⟩
    | some o' => cases o' with
      | row k xs => exact .inr (.inl ⟨k, xs, rfl, rfl⟩)
      | box cs => exact .inr (.inr ⟨cs, _, rfl, rfl⟩)
  have hsome : ∀ s o1, lk (mapv (Obj'.frz t o) (rm st.m t)) s = some o1 → s ≠ t ∧ ∃ o2, lk st.m s = some o2 ∧ o1 = Obj'.frz t o o2 := fun s o1 hs => by
    rw [hlk] at hs
    split at hs
    · cases hs
    · obtain ⟨o2, h1, h2⟩ := Option.map_eq_some_iff.1 hs
      exact ⟨by omega, o2, h1, h2.symm⟩
  refine ⟨E.share t, ⟨hI.df, hI.sz, fun d x hx => ?_, fun s o1 hs => ?_, fun s s' o1 o2 g c1 z1 c2 z2 h1 h2 e1 e2 => ?_, fun s o1 g c z hs hg => ?_, ⟨fun b hb => ?_, hI.okl.gw.keep hok⟩, hI.kpl⟩, ⟨rfl, rfl, rfl, Nat.le_refl _, fun _ _ => rfl, hok, fun b hb => ?_, fun _ _ => rfl, Nat.le_refl _⟩⟩
  · rw [lk_mapv] at hx
    obtain ⟨x0, hx0, rfl⟩ := Option.map_eq_some_iff.1 hx
    obtain ⟨v, hv, hr⟩ := hI.tm d x0 hx0
    exact ⟨v, hv, frz_rep hmm ho _ hm' hr⟩
  · obtain ⟨hne, o2, h1, rfl⟩ := hsome s o1 hs
    have h2 := hI.mm s o2 h1
    cases o2 with
    | row sz xs =>
      obtain ⟨h0, h⟩ := h2
      refine ⟨h0, ?_⟩
      rcases h with h | ⟨g, c, e, cur, vs, k1, k2, k3, k4, k5, k6, k7, k8⟩
      · exact .inl h
      · exact .inr ⟨g, c, e, cur, vs, k1, k2, k3, k4, k5, k6, k7.keep hok, k8⟩
    | box cs =>
      obtain ⟨g, c, sz, e, cur, k1, k2, k3⟩ := h2
      exact ⟨g, c, sz, e, cur, k1, k2, frzL_rep hmm ho _ hm' k3⟩
  · obtain ⟨_, p1, h1, _⟩ := hsome s o1 h1
    obtain ⟨_, p2, h2, _⟩ := hsome s' o2 h2
    exact hI.inj s s' p1 p2 g c1 z1 c2 z2 h1 h2 e1 e2
  · obtain ⟨hne, p1, h1, _⟩ := hsome s o1 hs
    have h2 := hI.own s p1 g c z h1 hg
    refine ⟨h2.1, ?_, h2.2.2⟩
    rintro (h3 | ⟨c', s', h3⟩)
    · exact h2.2.1 h3
    · exact hne (hI.inj s t p1 o g c z c' s' h1 ho hg h3)
  · rcases hb with hb | ⟨c, s, hb⟩
    · exact hI.okl b hb
    · exact (hI.own t o b c s ho hb).1
  · rcases hb with hb | ⟨c, s, hb⟩
    · exact .inl hb
    · exact .inr (hI.own t o b c s ho hb).2.2

/-- A nil slice is a row of nothing. -/
theorem thaw_inv (hI : Inv kp w E st a) {d t sz : Nat} (hd : lk st.t d = some .nil) (hf : st.fresh t = true) (hs : 0 < sz) : Inv kp w (E.set t none) { st with t := up st.t d (.own t), m := up st.m t (.row sz []) } a ∧ Evo kp w E w (E.set t none) := by
  have hlk : lk st.m t = none := by simp only [St.fresh, Bool.and_eq_true, Option.isNone_iff_eq_none] at hf; exact hf.2.2
  have h1 := hI.re hf (t := t) (o := .row sz []) (x := none) (w' := w) (Nat.le_refl _) (fun _ _ _ => rfl) (fun g c s h => by cases h) ⟨hs, .inl ⟨by simp [Env.set], rfl⟩⟩
  rw [rm_none hlk] at h1
  refine ⟨⟨h1.df, h1.sz, fun e x hx => ?_, h1.mm, h1.inj, h1.own, h1.okl, h1.kpl⟩, Evo.re hI (t := t) ⟨rfl, rfl, rfl⟩ (Nat.le_refl _) (fun _ _ _ => rfl) rfl (Env.set_pin (St.fresh_pin hf))⟩
  simp only at hx
  rw [lk_up] at hx
  split at hx
  · rename_i he; subst he
    simp only [Option.some.injEq] at hx; subst hx
    obtain ⟨v, hv, hr⟩ := hI.tm d .nil hd
    refine ⟨v, hv, ?_⟩
    simp only [RepV] at hr ⊢
    rw [lk_up, if_pos rfl]
    simp only [Env.set, if_true]
    exact ⟨none, hr⟩
  · exact h1.tm e x hx
end
end Go.Proofs.Ytnkcenafpigmbaa.Ab

namespace Go.Proofs.Ytnkcenafpigmbaa.Ab
open Go.RowKit
set_option linter.unusedVariables false
set_option linter.unusedSimpArgs false

/-- What a piece of code comes to, from a state. -/
def Tr (P : Program) (c : Code) (Q : Exit → St → Prop) (st : St) : Prop :=
  ∀ (keep : Nat → Prop) (w : World) (E : Env) (a : Act), Inv keep w E st a → c.wp P (fun e a' w' => ∃ st' E', Inv keep w' E' st' a' ∧ Evo keep w E w' E' ∧ Q e st') a w
/-- What the rest of a region comes to. -/
def Rn (P : Program) (ops : Array Oper) (l : List Oper) (K : St → Prop) (st : St) : Prop :=
  ∀ (keep : Nat → Prop) (w : World) (E : Env) (a : Act), Inv keep w E st a → wpList P ops (fun e a' w' => ∃ st' E', Inv keep w' E' st' a' ∧ Evo keep w E w' E' ∧ e = .normal ∧ K st') l a w

def thenQ (K : St → Prop) (Q : Exit → St → Prop) : Exit → St → Prop
  | .normal, st => K st
  | e, st => Q e st
def blockQ (id : Nat) (Q : Exit → St → Prop) : Exit → St → Prop
  | .exit i, st => if i = id then Q .normal st else Q (.exit i) st
  | e, st => Q e st

section
variable {P : Program} {Q Q' : Exit → St → Prop} {K K' : St → Prop} {st : St} {ops : Array Oper} {l : List Oper} {o : Oper}

theorem Tr.mono {c : Code} (h : Tr P c Q st) (hq : ∀ e st, Q e st → Q' e st) : Tr P c Q' st := fun keep w E a hI =>
  Code.wp_mono (fun e a' w' ⟨st', E', h1, h2, h3⟩ => ⟨st', E', h1, h2, hq _ _ h3⟩) (h keep w E a hI)
theorem Tr.skip (h : Q .normal st) : Tr P .skip Q st := fun keep w E a hI => wp_skip ⟨st, E, hI, Evo.refl _ _ _, h⟩
theorem Tr.ret (h : Q .ret st) : Tr P .ret Q st := fun keep w E a hI => wp_ret ⟨st, E, hI, Evo.refl _ _ _, h⟩
theorem Tr.exit {id : Nat} (h : Q (.exit id) st) : Tr P (.exit id) Q st := fun keep w E a hI => wp_exit ⟨st, E, hI, Evo.refl _ _ _, h⟩
theorem Tr.label {id : Nat} (h : Q .normal st) : Tr P (.label id) Q st := fun keep w E a hI => wp_label ⟨st, E, hI, Evo.refl _ _ _, h⟩
theorem Tr.seq {x y : Code} (h : Tr P x (thenQ (Tr P y Q) Q) st) : Tr P (.seq x y) Q st := fun keep w E a hI => by
  refine wp_seq (Code.wp_mono ?_ (h keep w E a hI))
  rintro e a' w' ⟨st', E', h1, h2, h3⟩
  cases e with
  | normal =>
    refine Code.wp_mono ?_ (h3 keep w' E' a' h1)
    rintro e a2 w2 ⟨st2, E2, k1, k2, k3⟩
    exact ⟨st2, E2, k1, h2.trans k2, k3⟩
  | _ => exact ⟨st', E', h1, h2, h3⟩
theorem Tr.block {id : Nat} {c : Code} (h : Tr P c (blockQ id Q) st) : Tr P (.block id c) Q st := fun keep w E a hI => by
  refine wp_block (Code.wp_mono ?_ (h keep w E a hI))
  rintro e a' w' ⟨st', E', h1, h2, h3⟩
  cases e with
  | exit i =>
    simp only [blockQ, Exit.inBlock] at h3 ⊢
    split at h3
    · rw [if_pos ‹_›]; exact ⟨st', E', h1, h2, h3⟩
    · rw [if_neg ‹_›]; exact ⟨st', E', h1, h2, h3⟩
  | _ => exact ⟨st', E', h1, h2, h3⟩
/-- No jump leaves it. -/
def scopeQ (Q : Exit → St → Prop) (e : Exit) (st : St) : Prop :=
  match e with
  | .goto _ => False
  | e => Q e st
theorem Tr.scope {c : Code} (h : Tr P c (scopeQ Q) st) : Tr P (.scope c) Q st := fun keep w E a hI => by
  refine wp_scope_straight (Code.wp_mono ?_ (h keep w E a hI))
  rintro e a' w' ⟨st', E', h1, h2, h3⟩
  cases e with
  | goto l => exact h3.elim
  | _ => exact ⟨st', E', h1, h2, h3⟩
theorem Tr.cond {c : Operand} {x y : Code} {b : Bool} (hc : aval st c = some (.sv (.val (.bool b)))) (ht : b = true → Tr P x Q st) (hf : b = false → Tr P y Q st) : Tr P (.cond c x y) Q st := fun keep w E a hI => by
  have hv := (aval_rep hI hc).val
  cases b with
  | true => exact wp_cond (t := true) hv (ht rfl keep w E a hI)
  | false => exact wp_cond (t := false) hv (hf rfl keep w E a hI)
theorem Tr.freeze {c : Code} (t : Nat) (h : Tr P c Q (st.freeze t)) : Tr P c Q st := fun keep w E a hI => by
  obtain ⟨E', h1, h2⟩ := freeze_inv hI t
  refine Code.wp_mono ?_ (h keep w E' a h1)
  rintro e a' w' ⟨st', E2, k1, k2, k3⟩
  exact ⟨st', E2, k1, h2.trans k2, k3⟩
theorem Tr.thaw {c : Code} (d t sz : Nat) (hd : lk st.t d = some .nil) (hf : st.fresh t = true) (hs : 0 < sz) (h : Tr P c Q { st with t := up st.t d (.own t), m := up st.m t (.row sz []) }) : Tr P c Q st := fun keep w E a hI => by
  obtain ⟨h1, h2⟩ := thaw_inv hI hd hf hs
  refine Code.wp_mono ?_ (h keep w _ a h1)
  rintro e a' w' ⟨st', E2, k1, k2, k3⟩
  exact ⟨st', E2, k1, h2.trans k2, k3⟩

theorem Rn.nil (h : K st) : Rn P ops [] K st := fun keep w E a hI => ⟨st, E, hI, Evo.refl _ _ _, rfl, h⟩
theorem Rn.freeze (t : Nat) (h : Rn P ops l K (st.freeze t)) : Rn P ops l K st := fun keep w E a hI => by
  obtain ⟨E', h1, h2⟩ := freeze_inv hI t
  refine wpList_mono' ?_ (h keep w E' a h1)
  rintro e a' w' ⟨st', E2, k1, k2, k3⟩
  exact ⟨st', E2, k1, h2.trans k2, k3⟩
  where wpList_mono' {Q Q' : Exit → Act → World → Prop} (hq : ∀ e a w, Q e a w → Q' e a w) : ∀ {l : List Oper} {a : Act} {w : World}, wpList P ops Q l a w → wpList P ops Q' l a w
  | [], a, w, h => hq _ _ _ h
  | o :: l, a, w, h => by
    unfold wpList at h ⊢
    split at h
    · rename_i hw
      rw [if_pos hw]
      rcases h with h | ⟨h1, a0, w0, h2⟩
      · left
        have key : ∀ {r : Result Next}, o.upon P a (wpList P ops Q l) Q r → o.upon P a (wpList P ops Q' l) Q' r := by
          intro r hr
          unfold Oper.upon at hr ⊢
          split at hr
          · exact wpList_mono' hq hr
          · exact wpList_mono' hq hr
          · exact wpList_mono' hq hr
          · refine Calls.mono hr ?_
            intro e w' he
            cases e with
            | returned v => exact wpList_mono' hq he
            | panicked c => exact hq _ _ _ he
            | outgrown => obtain ⟨a1, w1, h1⟩ := he; exact ⟨a1, w1, hq _ _ _ h1⟩
          · refine Rows.mono hr ?_
            intro v w' he
            exact wpList_mono' hq he
          · exact hq _ _ _ hr
          · exact hr.elim
        exact key h
      · exact .inr ⟨h1, a0, w0, hq _ _ _ h2⟩
    · rename_i hw
      rw [if_neg hw]
      exact wpList_mono' hq h
theorem Tr.region {id : Nat} {l : List Oper} (h : Rn P l.toArray l (fun st' => Q .normal st') st) : Tr P (.region id l.toArray false) Q st := fun keep w E a hI => by
  refine wp_region_lit (Rn.freeze.wpList_mono' ?_ (h keep w E a hI))
  rintro e a' w' ⟨st', E', h1, h2, rfl, h3⟩
  exact ⟨st', E', h1, h2, h3⟩

/-- Is an operation wanted? -/
def grd (ops : Array Oper) (st : St) (o : Oper) : Option Bool :=
  match o.guard with
  | none => some true
  | some (j, want) => match (ops[j]?).bind (·.dst) with
    | some d => match lk st.t d with
      | some (.sv (.val (.bool b))) => some (b == want)
      | some (.sv (.val _)) => some false
      | _ => none
    | none => none
theorem grd_run {keep : Nat → Prop} {w : World} {E : Env} {a : Act} {b : Bool} (hI : Inv keep w E st a) (h : grd ops st o = some b) : Region.wanted o (yielded ops a.tmps) = b := by
  unfold grd at h
  unfold Region.wanted
  split at h
  · rename_i hg; rw [hg]; simpa using h
  · rename_i j want hg
    rw [hg]
    dsimp only
    split at h
    case h_2 => cases h
    rename_i d hd
    split at h
    · rename_i b' hl
      obtain ⟨v, hv, hr⟩ := hI.tm d _ hl
      have := hr.val; subst this
      simp only [Option.some.injEq] at h; subst h
      simp [yielded, hd, hv]
    · rename_i u hnb hl
      obtain ⟨v, hv, hr⟩ := hI.tm d _ hl
      have := hr.val; subst this
      simp only [Option.some.injEq] at h; subst h
      have : yielded ops a.tmps j = none := by
        unfold yielded
        rw [hd]
        simp only [Option.bind_some, hv]
        split
        · rename_i b hb; exact (hnb b (by simpa using hb)).elim
        · rfl
      rw [this]
      rfl
    · cases h

theorem Does.wp {P : Program} {o : Oper} {st st' : St} (h : Does P o st st') {keep : Nat → Prop} {w : World} {E : Env} {a : Act} (hI : Inv keep w E st a) {N : Act → World → Prop} {Q : Exit → Act → World → Prop}
    (hN : ∀ a' w' E', Inv keep w' E' st' a' → Evo keep w E w' E' → N a' w') : o.wp P a w N Q := by
  obtain ⟨v, w', E', h1, h2, h3⟩ := h keep w E a hI
  unfold Oper.wp
  rcases h1 with h1 | ⟨h1, rfl⟩
  · rw [h1]; exact hN _ _ _ h2 h3
  · rw [h1]; exact hN _ _ _ h2 h3
theorem Rn.step {st' : St} (hg : grd ops st o = some true) (hd : Does P o st st') (h : Rn P ops l K st') : Rn P ops (o :: l) K st := fun keep w E a hI => by
  unfold wpList
  rw [if_pos (grd_run hI hg)]
  refine .inl (hd.wp hI fun a' w' E' h1 h2 => ?_)
  refine Rn.freeze.wpList_mono' ?_ (h keep w' E' a' h1)
  rintro e a2 w2 ⟨st2, E2, k1, k2, k3⟩
  exact ⟨st2, E2, k1, h2.trans k2, k3⟩
theorem Rn.skip (hg : grd ops st o = some false) (hd : st.fitsDst o.dst = true) (h : Rn P ops l K (st.put o.dst (.sv (.val undef)))) : Rn P ops (o :: l) K st := fun keep w E a hI => by
  unfold wpList
  rw [if_neg (by rw [grd_run hI hg]; simp)]
  exact h keep w E _ (hI.put hd (RepV.val_mk _))
theorem Rn.mono (h : Rn P ops l K st) (hk : ∀ st, K st → K' st) : Rn P ops l K' st := fun keep w E a hI => by
  refine Rn.freeze.wpList_mono' ?_ (h keep w E a hI)
  rintro e a2 w2 ⟨st2, E2, k1, k2, k3, k4⟩
  exact ⟨st2, E2, k1, k2, k3, hk _ k4⟩
end

/-! ### Loops -/
/-- So much of a state is known at least. -/
def St.le (st st' : St) : Prop := st.n = st'.n ∧ (∀ d x, lk st'.t d = some x → lk st.t d = some x) ∧ ∀ t o, lk st'.m t = some o → lk st.m t = some o
theorem Inv.le {keep : Nat → Prop} {w : World} {E : Env} {st st' : St} {a : Act} (h : Inv keep w E st a) (hl : st.le st') : Inv keep w E st' a := by
  obtain ⟨h1, h2, h3⟩ := hl
  have hp : ∀ s, Pass E E (lk st.m) (lk st'.m) s := fun s => by
    unfold Pass
    cases hs : lk st'.m s with
    | none => exact .inl rfl
    | some o =>
      refine .inr ⟨rfl, ?_⟩
      rw [h3 s o hs]
      cases o with
      | row k xs => exact .inl ⟨k, xs, xs, rfl, rfl, rfl⟩
      | box cs => exact .inr ⟨cs, cs, rfl, rfl⟩
  have hk : ∀ b, E.ok b → E.ok b ∧ w.heap[b]? = w.heap[b]? := fun b hb => ⟨hb, rfl⟩
  exact ⟨h.df, h.sz.trans h1, fun d x hx => let ⟨v, k1, k2⟩ := h.tm d x (h2 d x hx); ⟨v, k1, k2.keep hk (fun t _ => hp t)⟩,
    fun t o ho => (h.mm t o (h3 t o ho)).keep hk rfl (fun _ _ _ _ => rfl) (fun s _ _ _ => hp s),
    fun t t' o o' g c s c' s' k1 k2 => h.inj t t' o o' g c s c' s' (h3 _ _ k1) (h3 _ _ k2), fun t o g c s k1 => h.own t o g c s (h3 _ _ k1), h.okl, h.kpl⟩

mutual
/-- A tag is named anew. -/
def AV.ren (t t' : Nat) : AV → AV
  | .own s => .own (if s = t then t' else s)
  | .box s off => .box (if s = t then t' else s) off
  | .elt s i off => .elt (if s = t then t' else s) i off
  | .sv x => .sv x
  | .nil => .nil
  | .tup xs => .tup (AV.renL t t' xs)
  | .agg xs => .agg (AV.renL t t' xs)
  | .sl s n => .sl (if s = t then t' else s) n
  | .fnv g xs => .fnv g (AV.renL t t' xs)
def AV.renL (t t' : Nat) : List AV → List AV
  | [] => []
  | x :: xs => AV.ren t t' x :: AV.renL t t' xs
end
def Obj'.ren (t t' : Nat) : Obj' → Obj'
  | .row sz xs => .row sz xs
  | .box cs => .box (AV.renL t t' cs)
def St.rename (st : St) (t t' : Nat) : St :=
  match lk st.m t with
  | some o => { st with t := mapv (AV.ren t t') st.t, m := up (mapv (Obj'.ren t t') (rm st.m t)) t' (Obj'.ren t t' o) }
  | none => st
section
variable {kp : Nat → Prop} {w : World} {E : Env} {st : St} {a : Act} {t t' : Nat} {o : Obj'}
theorem ren_rep (m m' : Mem) (hne : t ≠ t') (h1 : ∀ s, s ≠ t → s ≠ t' → (m' s = none ∧ m s = none) ∨ (∃ k xs, m s = some (.row k xs) ∧ m' s = some (.row k xs)) ∨ (∃ cs ds, m s = some (.box cs) ∧ m' s = some (.box ds)))
    (h2 : (∃ k xs, m t = some (.row k xs) ∧ m' t' = some (.row k xs)) ∨ (∃ cs ds, m t = some (.box cs) ∧ m' t' = some (.box ds))) :
    ∀ {x : AV} {v : Value}, x.holds t' = false → RepV w E m x v → RepV w (E.set t' (E.at_ t)) m' (x.ren t t') v := by
  have hE : ∀ s, s ≠ t' → (E.set t' (E.at_ t)).at_ s = E.at_ s := fun s hs => by simp [Env.set, hs]
  have hE' : (E.set t' (E.at_ t)).at_ t' = E.at_ t := by simp [Env.set]
  intro x
  refine AV.rec (motive_1 := fun x => ∀ {v : Value}, x.holds t' = false → RepV w E m x v → RepV w (E.set t' (E.at_ t)) m' (x.ren t t') v) (motive_2 := fun l => ∀ {vs : List Value}, AV.holdsL t' l = false → RepVL w E m l vs → RepVL w (E.set t' (E.at_ t)) m' (AV.renL t t' l) vs)
    ?_ ?_ ?_ ?_ ?_ ?_ ?_ ?_ ?_ ?_ ?_ x
  · intro x v _ h; simp only [RepV, AV.ren] at h ⊢; exact h
  · intro v _ h; simpa only [RepV, AV.ren] using h
  · intro s v hh h
    simp only [AV.ren]
    simp only [AV.holds, beq_eq_false_iff_ne, ne_eq] at hh
    by_cases hs : s = t
    · subst hs
      rw [if_pos rfl]
      simp only [RepV] at h ⊢
      rcases h2 with ⟨k, xs, e1, e2⟩ | ⟨cs, ds, e1, e2⟩
      · rw [e1] at h; rw [e2, hE']; exact h
      · rw [e2]; trivial
    · rw [if_neg hs]
      simp only [RepV] at h ⊢
      rcases h1 s hs hh with ⟨e1, e2⟩ | ⟨k, xs, e1, e2⟩ | ⟨cs, ds, e1, e2⟩
      · rw [e1]; trivial
      · rw [e1] at h; rw [e2, hE s hh]; exact h
      · rw [e2]; trivial
  · intro s off v hh h
    simp only [AV.ren]
    simp only [AV.holds, beq_eq_false_iff_ne, ne_eq] at hh
    by_cases hs : s = t
    · subst hs
      rw [if_pos rfl]
      simp only [RepV] at h ⊢
      rcases h2 with ⟨k, xs, e1, e2⟩ | ⟨cs, ds, e1, e2⟩
      · rw [e2]; trivial
      · rw [e1] at h; rw [e2, hE']; exact h
    · rw [if_neg hs]
      simp only [RepV] at h ⊢
      rcases h1 s hs hh with ⟨e1, e2⟩ | ⟨k, xs, e1, e2⟩ | ⟨cs, ds, e1, e2⟩
      · rw [e1]; trivial
      · rw [e2]; trivial
      · rw [e1] at h; rw [e2, hE s hh]; exact h
  · intro s i off v hh h
    simp only [AV.ren]
    simp only [AV.holds, beq_eq_false_iff_ne, ne_eq] at hh
    by_cases hs : s = t
    · subst hs
      rw [if_pos rfl]
      simp only [RepV] at h ⊢
      rcases h2 with ⟨k, xs, e1, e2⟩ | ⟨cs, ds, e1, e2⟩
      · rw [e1] at h; rw [e2, hE']; exact h
      · rw [e2]; trivial
    · rw [if_neg hs]
      simp only [RepV] at h ⊢
      rcases h1 s hs hh with ⟨e1, e2⟩ | ⟨k, xs, e1, e2⟩ | ⟨cs, ds, e1, e2⟩
      · rw [e1]; trivial
      · rw [e1] at h; rw [e2, hE s hh]; exact h
      · rw [e2]; trivial
  · intro xs ih v hh h
    simp only [RepV, AV.ren] at h ⊢
    obtain ⟨cs, rfl, h⟩ := h
    exact ⟨cs, rfl, ih (by simpa only [AV.holds] using hh) h⟩
  · intro f xs ih v hh h
    simp only [RepV, AV.ren] at h ⊢
    obtain ⟨cs, rfl, h⟩ := h
    exact ⟨cs, rfl, ih (by simpa only [AV.holds] using hh) h⟩
  · intro xs ih v hh h
    simp only [RepV, AV.ren] at h ⊢
    obtain ⟨cs, rfl, h⟩ := h
    exact ⟨cs, rfl, ih (by simpa only [AV.holds] using hh) h⟩
  · intro s n v hh h
    simp only [AV.ren]
    simp only [AV.holds, beq_eq_false_iff_ne, ne_eq] at hh
    by_cases hs : s = t
    · subst hs
      rw [if_pos rfl]
      simp only [RepV] at h ⊢
      rcases h2 with ⟨k, xs, e1, e2⟩ | ⟨cs, ds, e1, e2⟩
      · rw [e2]; trivial
      · rw [e1] at h; rw [e2, hE']; exact h
    · rw [if_neg hs]
      simp only [RepV] at h ⊢
      rcases h1 s hs hh with ⟨e1, e2⟩ | ⟨k, xs, e1, e2⟩ | ⟨cs, ds, e1, e2⟩
      · rw [e1]; trivial
      · rw [e2]; trivial
      · rw [e1] at h; rw [e2, hE s hh]; exact h
  · intro vs _ h; simpa only [RepVL, AV.renL] using h
  · intro x xs ihx ihs vs hh h
    simp only [AV.holdsL, Bool.or_eq_false_iff] at hh
    simp only [RepVL, AV.renL] at h ⊢
    obtain ⟨v, vs', rfl, hx, hs⟩ := h
    exact ⟨v, vs', rfl, ihx hh.1 hx, ihs hh.2 hs⟩
theorem renL_rep (m m' : Mem) (hne : t ≠ t') (h1 : ∀ s, s ≠ t → s ≠ t' → (m' s = none ∧ m s = none) ∨ (∃ k xs, m s = some (.row k xs) ∧ m' s = some (.row k xs)) ∨ (∃ cs ds, m s = some (.box cs) ∧ m' s = some (.box ds)))
    (h2 : (∃ k xs, m t = some (.row k xs) ∧ m' t' = some (.row k xs)) ∨ (∃ cs ds, m t = some (.box cs) ∧ m' t' = some (.box ds))) :
    ∀ {l : List AV} {vs : List Value}, AV.holdsL t' l = false → RepVL w E m l vs → RepVL w (E.set t' (E.at_ t)) m' (AV.renL t t' l) vs
  | [], vs, _, h => by simpa only [RepVL, AV.renL] using h
  | x :: xs, vs, hh, h => by
    simp only [AV.holdsL, Bool.or_eq_false_iff] at hh
    simp only [RepVL, AV.renL] at h ⊢
    obtain ⟨v, vs', rfl, hx, hs⟩ := h
    exact ⟨v, vs', rfl, ren_rep m m' hne h1 h2 hh.1 hx, renL_rep m m' hne h1 h2 hh.2 hs⟩

theorem rename_inv (hI : Inv kp w E st a) (t t' : Nat) (hf : st.fresh t' = true) : ∃ E', Inv kp w E' (st.rename t t') a ∧ Evo kp w E w E' := by
  unfold St.rename
  split
  case h_2 => exact ⟨E, hI, Evo.refl _ _ _⟩
  rename_i o ho
  simp only [St.fresh, Bool.and_eq_true, Bool.not_eq_true', Option.isNone_iff_eq_none, decide_eq_true_eq] at hf
  obtain ⟨hpin, hh, hn⟩ := hf
  have hne : t ≠ t' := fun e => by rw [e, hn] at ho; cases ho
  have hlk : ∀ s, lk (up (mapv (Obj'.ren t t') (rm st.m t)) t' (Obj'.ren t t' o)) s = if t' = s then some (Obj'.ren t t' o) else if t = s then none else (lk st.m s).map (Obj'.ren t t') := fun s => by
    rw [lk_up, lk_mapv, lk_rm]
    split
    · rfl
    · split <;> rfl
  have h1 : ∀ s, s ≠ t → s ≠ t' → (lk (up (mapv (Obj'.ren t t') (rm st.m t)) t' (Obj'.ren t t' o)) s = none ∧ lk st.m s = none) ∨ (∃ k xs, lk st.m s = some (.row k xs) ∧ lk (up (mapv (Obj'.ren t t') (rm st.m t)) t' (Obj'.ren t t' o)) s = some (.row k xs)) ∨ (∃ cs ds, lk st.m s = some (.box cs) ∧ lk (up (mapv (Obj'.ren t t') (rm st.m t)) t' (Obj'.ren t t' o)) s = some (.box ds)) := by
    intro s hs hs'
    rw [hlk, if_neg (Ne.symm hs'), if_neg (Ne.symm hs)]
    cases lk st.m s with
    | none => exact .inl ⟨rfl, rfl⟩
    | some o' => cases o' with
      | row k xs => exact .inr (.inl ⟨k, xs, rfl, rfl⟩)
      | box cs => exact .inr (.inr ⟨cs, _, rfl, rfl⟩)
  have h2 : (∃ k xs, lk st.m t = some (.row k xs) ∧ lk (up (mapv (Obj'.ren t t') (rm st.m t)) t' (Obj'.ren t t' o)) t' = some (.row k xs)) ∨ (∃ cs ds, lk st.m t = some (.box cs) ∧ lk (up (mapv (Obj'.ren t t') (rm st.m t)) t' (Obj'.ren t t' o)) t' = some (.box ds)) := by
    rw [hlk, if_pos rfl, ho]
    cases o with
    | row k xs => exact .inl ⟨k, xs, rfl, rfl⟩
    | box cs => exact .inr ⟨cs, _, rfl, rfl⟩
  -- where each of the new memory's objects was
  have hsome : ∀ s o1, lk (up (mapv (Obj'.ren t t') (rm st.m t)) t' (Obj'.ren t t' o)) s = some o1 → ∃ s0 o2, lk st.m s0 = some o2 ∧ o1 = Obj'.ren t t' o2 ∧ (E.set t' (E.at_ t)).at_ s = E.at_ s0 ∧ ((s = t' ∧ s0 = t) ∨ (s ≠ t' ∧ s0 = s)) := by
    intro s o1 hs
    rw [hlk] at hs
    split at hs
    · rename_i e
      simp only [Option.some.injEq] at hs
      exact ⟨t, o, ho, hs.symm, by simp [Env.set, e], .inl ⟨e.symm, rfl⟩⟩
    · rename_i e
      split at hs
      · cases hs
      · obtain ⟨o2, k1, k2⟩ := Option.map_eq_some_iff.1 hs
        exact ⟨s, o2, k1, k2.symm, by simp [Env.set, Ne.symm e], .inr ⟨Ne.symm e, rfl⟩⟩
  refine ⟨E.set t' (E.at_ t), ⟨hI.df, hI.sz, fun d x hx => ?_, fun s o1 hs => ?_, fun s s' o1 o2 g c1 z1 c2 z2 k1 k2 e1 e2 => ?_, fun s o1 g c z hs hg => ?_, hI.okl, hI.kpl⟩, ⟨rfl, rfl, rfl, Nat.le_refl _, fun _ _ => rfl, fun b hb => ⟨hb, rfl⟩, fun b hb => .inl hb, Env.set_pin hpin, Nat.le_refl _⟩⟩
  · rw [lk_mapv] at hx
    obtain ⟨x0, hx0, rfl⟩ := Option.map_eq_some_iff.1 hx
    obtain ⟨v, hv, hr⟩ := hI.tm d x0 hx0
    exact ⟨v, hv, ren_rep _ _ hne h1 h2 (held_t hh hx0) hr⟩
  · obtain ⟨s0, o2, k1, rfl, k3, _⟩ := hsome s o1 hs
    have k4 := hI.mm s0 o2 k1
    cases o2 with
    | row sz xs =>
      obtain ⟨h0, h⟩ := k4
      refine ⟨h0, ?_⟩
      rw [k3]
      exact h
    | box cs =>
      obtain ⟨g, c, sz, e, cur, q1, q2, q3⟩ := k4
      exact ⟨g, c, sz, e, cur, by rw [k3]; exact q1, q2, renL_rep _ _ hne h1 h2 (held_m hh k1) q3⟩
  · obtain ⟨s0, p1, q1, _, q3, q4⟩ := hsome s o1 k1
    obtain ⟨s1, p2, r1, _, r3, r4⟩ := hsome s' o2 k2
    rw [q3] at e1
    rw [r3] at e2
    have := hI.inj s0 s1 p1 p2 g c1 z1 c2 z2 q1 r1 e1 e2
    have n1 : s0 ≠ t' := fun e => by rw [e, hn] at q1; cases q1
    have n2 : s1 ≠ t' := fun e => by rw [e, hn] at r1; cases r1
    have n3 : s ≠ t := fun e => by rw [e, hlk, if_neg (Ne.symm hne), if_pos rfl] at k1; cases k1
    have n4 : s' ≠ t := fun e => by rw [e, hlk, if_neg (Ne.symm hne), if_pos rfl] at k2; cases k2
    omega
  · obtain ⟨s0, p1, q1, _, q3, _⟩ := hsome s o1 hs
    rw [q3] at hg
    exact hI.own s0 p1 g c z q1 hg
end

/-- What a state says, another one says too. -/
def Ent (st st' : St) : Prop := ∀ (keep : Nat → Prop) (w : World) (E : Env) (a : Act), Inv keep w E st a → ∃ E', Inv keep w E' st' a ∧ Evo keep w E w E'
theorem Ent.refl (st : St) : Ent st st := fun _ _ E _ h => ⟨E, h, Evo.refl _ _ _⟩
theorem Ent.trans {a b c : St} (h : Ent a b) (k : Ent b c) : Ent a c := fun kp w E x hI => by
  obtain ⟨E1, h1, h2⟩ := h kp w E x hI
  obtain ⟨E2, k1, k2⟩ := k kp w E1 x h1
  exact ⟨E2, k1, h2.trans k2⟩
theorem Ent.le {a b : St} (h : a.le b) : Ent a b := fun kp w E x hI => ⟨E, hI.le h, Evo.refl _ _ _⟩
theorem Ent.freeze {a b : St} (t : Nat) (h : Ent (a.freeze t) b) : Ent a b := fun kp w E x hI => by
  obtain ⟨E1, h1, h2⟩ := freeze_inv hI t
  obtain ⟨E2, k1, k2⟩ := h kp w E1 x h1
  exact ⟨E2, k1, h2.trans k2⟩
theorem Ent.rename {a b : St} (t t' : Nat) (hf : a.fresh t' = true) (h : Ent (a.rename t t') b) : Ent a b := fun kp w E x hI => by
  obtain ⟨E1, h1, h2⟩ := rename_inv hI t t' hf
  obtain ⟨E2, k1, k2⟩ := h kp w E1 x h1
  exact ⟨E2, k1, h2.trans k2⟩
theorem Ent.thaw {a b : St} (d t sz : Nat) (hd : lk a.t d = some .nil) (hf : a.fresh t = true) (hs : 0 < sz) (h : Ent { a with t := up a.t d (.own t), m := up a.m t (.row sz []) } b) : Ent a b := fun kp w E x hI => by
  obtain ⟨h1, h2⟩ := thaw_inv hI hd hf hs
  obtain ⟨E2, k1, k2⟩ := h kp w _ x h1
  exact ⟨E2, k1, h2.trans k2⟩
theorem Tr.ent {P : Program} {c : Code} {Q : Exit → St → Prop} {st st' : St} (h : Ent st st') (k : Tr P c Q st') : Tr P c Q st := fun keep w E a hI => by
  obtain ⟨E1, h1, h2⟩ := h keep w E a hI
  refine Code.wp_mono ?_ (k keep w E1 a h1)
  rintro e a' w' ⟨st2, E2, k1, k2, k3⟩
  exact ⟨st2, E2, k1, h2.trans k2, k3⟩
theorem Rn.ent {P : Program} {ops : Array Oper} {l : List Oper} {K : St → Prop} {st st' : St} (h : Ent st st') (k : Rn P ops l K st') : Rn P ops l K st := fun keep w E a hI => by
  obtain ⟨E1, h1, h2⟩ := h keep w E a hI
  refine Rn.freeze.wpList_mono' ?_ (k keep w E1 a h1)
  rintro e a' w' ⟨st2, E2, k1, k2, k3⟩
  exact ⟨st2, E2, k1, h2.trans k2, k3⟩

theorem wp_loop' {P : Program} {Q : Exit → Act → World → Prop} {c : Code} (I : Nat → Act → World → Prop)
    (round : ∀ n a w, I n a w → c.wp P (Exit.then (fun a' w' => ∃ m, m < n ∧ I m a' w') Q) a w) {n0 : Nat} {a : Act} {w : World} (h₀ : I n0 a w) : (Code.loop c).wp P Q a w := by
  intro b k cs
  have key : ∀ n a w, I n a w → ∃ e a' w', Q e a' w' ∧ Arrives P (lone (b.at a (.code c :: .inLoop c :: k)) cs w) b k cs e a' w' := by
    intro n
    induction n using Nat.strongRecOn with
    | _ n ih =>
      intro a w hI
      obtain ⟨e, a₁, w₁, hq, harr⟩ := round n a w hI b (.inLoop c :: k) cs
      cases e with
      | normal =>
        obtain ⟨m, hlt, hI₁⟩ := hq
        obtain ⟨e₂, a₂, w₂, hq₂, harr₂⟩ := ih m hlt a₁ w₁ hI₁
        exact ⟨e₂, a₂, w₂, hq₂, .of_steps (Steps.trans harr (.one step_inLoop)) harr₂⟩
      | exit id => exact ⟨_, a₁, w₁, hq, .pass (x := .inLoop c) rfl (fun _ _ => .inl (by simp)) harr⟩
      | goto l => exact ⟨_, a₁, w₁, hq, .pass (x := .inLoop c) rfl (fun _ _ => .inl (by simp)) harr⟩
      | ret => exact ⟨_, a₁, w₁, hq, .pass (x := .inLoop c) rfl (fun _ _ => .inl (by simp)) harr⟩
      | panic ch => exact ⟨_, a₁, w₁, hq, .pass (x := .inLoop c) rfl (fun _ _ => .inl (by simp)) harr⟩
      | outgrown => exact ⟨_, a₁, w₁, hq, .pass (x := .inLoop c) rfl (fun _ _ => .inl (by simp)) harr⟩
  obtain ⟨e, a', w', hq, harr⟩ := key _ a w h₀
  exact ⟨e, a', w', hq, .of_steps (.one step_loop) harr⟩

/-- A loop: states told by s, of which I holds; what is left grows less. -/
theorem Tr.loop {P : Program} {c : Code} {Q : Exit → St → Prop} {st : St} {σ : Type} (S : σ → St) (I : σ → Prop) (μ : σ → Nat) (s0 : σ) (h0 : I s0) (hst : Ent st (S s0))
    (round : ∀ s, I s → Tr P c (thenQ (fun st' => ∃ s', I s' ∧ μ s' < μ s ∧ Ent st' (S s')) Q) (S s)) : Tr P (.loop c) Q st := fun keep w E a hI => by
  obtain ⟨E0, k1, k2⟩ := hst keep w E a hI
  refine wp_loop' (fun n a' w' => ∃ s E', μ s = n ∧ I s ∧ Inv keep w' E' (S s) a' ∧ Evo keep w E w' E') ?_ ⟨s0, E0, rfl, h0, k1, k2⟩
  rintro n a1 w1 ⟨s, E1, rfl, hs, q1, q2⟩
  refine Code.wp_mono ?_ (round s hs keep w1 E1 a1 q1)
  rintro e a2 w2 ⟨st2, E2, r1, r2, r3⟩
  cases e with
  | normal =>
    obtain ⟨s', hs', hlt, hent⟩ := r3
    obtain ⟨E3, u1, u2⟩ := hent keep w2 E2 a2 r1
    exact ⟨μ s', hlt, s', E3, rfl, hs', u1, q2.trans (r2.trans u2)⟩
  | _ => exact ⟨st2, E2, r1, q2.trans r2, r3⟩
end Go.Proofs.Ytnkcenafpigmbaa.Ab

namespace Go.Proofs.Ytnkcenafpigmbaa.Ab
open Go.RowKit
set_option linter.unusedVariables false
set_option linter.unusedSimpArgs false

/-- One result. -/
inductive R1 where
  | sv (x : SV)
  | nil
  | own (sz : Nat) (xs : List SV)
def R1.av (t : Nat) : R1 → AV
  | .sv x => .sv x
  | .nil => .nil
  | .own _ _ => .own t
def R1.flat : R1 → Prop
  | .sv x => x.flat = true
  | .nil => True
  | .own _ xs => ∀ x ∈ xs, x.flat = true
/-- The memory of results, by tags f i, f (i + 1), .. -/
def impM (f : Nat → Nat) : Nat → List R1 → List (Nat × Obj') → List (Nat × Obj')
  | _, [], m => m
  | i, .own sz xs :: rs, m => impM f (i + 1) rs (up m (f i) (.row sz xs))
  | i, _ :: rs, m => impM f (i + 1) rs m
def impT (f : Nat → Nat) : Nat → List R1 → List AV
  | _, [] => []
  | i, r :: rs => r.av (f i) :: impT f (i + 1) rs
/-- Are the tags fresh? -/
def impF (st : St) (f : Nat → Nat) : Nat → List R1 → Bool
  | _, [] => true
  | i, .own _ _ :: rs => st.fresh (f i) && impF st f (i + 1) rs
  | i, _ :: rs => impF st f (i + 1) rs
theorem impM_lk {f : Nat → Nat} (hf : ∀ i j, f i = f j → i = j) : ∀ (rs : List R1) (i : Nat) (m : List (Nat × Obj')) (t : Nat), (∃ j sz xs, rs[j]? = some (.own sz xs) ∧ t = f (i + j) ∧ lk (impM f i rs m) t = some (.row sz xs)) ∨ ((∀ j sz xs, rs[j]? = some (.own sz xs) → t ≠ f (i + j)) ∧ lk (impM f i rs m) t = lk m t)
  | [], i, m, t => .inr ⟨fun j sz xs h => by simp at h, rfl⟩
  | r :: rs, i, m, t => by
    have skip : (∀ sz xs, r ≠ .own sz xs) → impM f i (r :: rs) m = impM f (i + 1) rs m → ((∃ j sz xs, (r :: rs)[j]? = some (.own sz xs) ∧ t = f (i + j) ∧ lk (impM f i (r :: rs) m) t = some (.row sz xs)) ∨ ((∀ j sz xs, (r :: rs)[j]? = some (.own sz xs) → t ≠ f (i + j)) ∧ lk (impM f i (r :: rs) m) t = lk m t)) := fun hr he => by
      rw [he]
      rcases impM_lk hf rs (i + 1) m t with ⟨j, sz, xs, h1, h2, h3⟩ | ⟨h1, h2⟩
      · exact Or.inl ⟨j + 1, sz, xs, by simpa using h1, by rw [h2]; congr 1; omega, h3⟩
      · refine Or.inr ⟨fun j sz xs h => ?_, h2⟩
        cases j with
        | zero => simp at h; exact (hr sz xs h).elim
        | succ j => have := h1 j sz xs (by simpa using h); rw [show i + (j + 1) = i + 1 + j by omega]; exact this
    cases r with
    | sv x => exact skip (fun _ _ h => by cases h) rfl
    | nil => exact skip (fun _ _ h => by cases h) rfl
    | own sz xs =>
      simp only [impM]
      rcases impM_lk hf rs (i + 1) (up m (f i) (.row sz xs)) t with ⟨j, sz', xs', h1, h2, h3⟩ | ⟨h1, h2⟩
      · exact .inl ⟨j + 1, sz', xs', by simpa using h1, by rw [h2]; congr 1; omega, h3⟩
      · by_cases ht : t = f i
        · refine .inl ⟨0, sz, xs, rfl, by simpa using ht, ?_⟩
          rw [h2, lk_up, if_pos ht.symm]
        · refine .inr ⟨fun j sz' xs' h => ?_, ?_⟩
          · cases j with
            | zero => simpa using ht
            | succ j => have := h1 j sz' xs' (by simpa using h); rw [show i + (j + 1) = i + 1 + j by omega]; exact this
          · rw [h2, lk_up, if_neg (Ne.symm ht)]
theorem impT_get {f : Nat → Nat} : ∀ (rs : List R1) (i j : Nat), (impT f i rs)[j]? = (rs[j]?).map (R1.av (f (i + j)))
  | [], i, j => by simp [impT]
  | r :: rs, i, 0 => by simp [impT]
  | r :: rs, i, j + 1 => by
    simp only [impT, List.getElem?_cons_succ]
    rw [impT_get rs (i + 1) j, show i + 1 + j = i + (j + 1) by omega]
theorem impT_len {f : Nat → Nat} : ∀ (rs : List R1) (i : Nat), (impT f i rs).length = rs.length
  | [], _ => rfl
  | r :: rs, i => by simp [impT, impT_len rs (i + 1)]
theorem impF_get {st : St} {f : Nat → Nat} : ∀ (rs : List R1) (i : Nat), impF st f i rs = true → ∀ j sz xs, rs[j]? = some (.own sz xs) → st.fresh (f (i + j)) = true
  | [], i, _, j, sz, xs, h => by simp at h
  | r :: rs, i, hF, 0, sz, xs, h => by
    simp at h; subst h
    simp only [impF, Bool.and_eq_true] at hF
    exact hF.1
  | r :: rs, i, hF, j + 1, sz, xs, h => by
    have hF' : impF st f (i + 1) rs = true := by cases r <;> simp_all [impF]
    rw [show i + (j + 1) = i + 1 + j by omega]
    exact impF_get rs (i + 1) hF' j sz xs (by simpa using h)

/-- What a function returns. -/
inductive RV where
  | one (r : R1)
  | many (rs : List R1)
def RV.comps : RV → List R1
  | .one r => [r]
  | .many rs => rs
def RV.val : RV → List Value → Value
  | .one _, vs => vs.headD undef
  | .many _, vs => .tuple vs.toArray
def RV.flat (r : RV) : Prop := ∀ c ∈ r.comps, c.flat

/-- The results as a state of their own. -/
def ent1 (f : Nat → Nat) : Nat → List R1 → List (Nat × AV)
  | _, [] => []
  | i, r :: rs => (i, r.av (f i)) :: ent1 f (i + 1) rs
def cst (rs : List R1) : St := { n := rs.length, t := ent1 id 0 rs, m := impM id 0 rs [] }
theorem ent1_get {f : Nat → Nat} : ∀ (rs : List R1) (i j : Nat), lk (ent1 f i rs) (i + j) = (rs[j]?).map (R1.av (f (i + j)))
  | [], i, j => by simp [ent1, lk]
  | r :: rs, i, 0 => by simp [ent1, lk]
  | r :: rs, i, j + 1 => by
    simp only [ent1, lk]
    rw [if_neg (by omega), show i + (j + 1) = i + 1 + j by omega, ent1_get rs (i + 1) j, List.getElem?_cons_succ]

/-- The contract of a function: from arguments that are shared it returns what R tells; nothing that was has turned. -/
def ACalls (P : Program) (g : FuncId) (args : List SV) (R : RV → Prop) : Prop :=
  ∃ g', (∀ (cargs : Array Value) (w : World), (callFunc g cargs).run P w = .ok (.enter g' cargs) w) ∧
    ∀ (w : World) (ok : Nat → Prop) (cargs : Array Value), Okl w ok → RepL w ok args cargs.toList →
      Calls P g' cargs w (fun e w' => ∃ (r : RV) (vs : List Value) (E1 : Env), R r ∧ e = .returned (r.val vs) ∧ Inv (· < w.heap.size) w' E1 (cst r.comps) ⟨vs.toArray, []⟩ ∧ Evo (· < w.heap.size) w ⟨ok, E1.at_⟩ w' E1)
theorem ACalls.mono {P : Program} {g : FuncId} {args : List SV} {R R' : RV → Prop} (h : ACalls P g args R) (hr : ∀ r, R r → R' r) : ACalls P g args R' := by
  obtain ⟨g', h1, h2⟩ := h
  refine ⟨g', h1, fun w ok cargs k1 k2 => (h2 w ok cargs k1 k2).mono ?_⟩
  rintro e w' ⟨r, vs, E1, q1, q2⟩
  exact ⟨r, vs, E1, hr _ q1, q2⟩

/-- The state behind a call. -/
def tagf (d : Nat) (i : Nat) : Nat := d + 1000 * i
theorem tagf_inj (d : Nat) : ∀ i j, tagf d i = tagf d j → i = j := fun i j h => by unfold tagf at h; omega
def RV.av (f : Nat → Nat) : RV → AV
  | .one r => r.av (f 0)
  | .many rs => .tup (impT f 0 rs)
def St.imp (st : St) (dst : Option Nat) (r : RV) : St :=
  match dst with
  | some d => { st with t := up st.t d (r.av (tagf d)), m := impM (tagf d) 0 r.comps st.m }
  | none => st
def St.impFresh (st : St) (dst : Option Nat) (r : RV) : Bool :=
  match dst with
  | some d => impF st (tagf d) 0 r.comps && decide (d < st.n)
  | none => true

section
variable {kp : Nat → Prop} {w w' : World} {E E1 : Env} {st : St} {a : Act} {ok : Nat → Prop}

theorem cst_mem (rs : List R1) (t : Nat) (o : Obj') (h : lk (cst rs).m t = some o) : ∃ sz xs, rs[t]? = some (.own sz xs) ∧ o = .row sz xs := by
  rcases impM_lk (f := id) (fun _ _ h => h) rs 0 [] t with ⟨j, sz, xs, h1, h2, h3⟩ | ⟨h1, h2⟩
  · simp only [id, Nat.zero_add] at h2
    subst h2
    rw [show lk (cst rs).m t = lk (impM id 0 rs []) t from rfl, h3] at h
    simp only [Option.some.injEq] at h
    exact ⟨sz, xs, h1, h.symm⟩
  · rw [show lk (cst rs).m t = lk (impM id 0 rs []) t from rfl, h2] at h
    simp [lk] at h

open Classical in
theorem Inv.import (hI : Inv kp w E st a) {r : RV} {vs : List Value} (h1 : Inv (· < w.heap.size) w' E1 (cst r.comps) ⟨vs.toArray, []⟩) (hev : Evo (· < w.heap.size) w ⟨ok, E1.at_⟩ w' E1) {dst : Option Nat} (hF : st.impFresh dst r = true)
    (hok : (∀ b, ok b → E.ok b) ∨ r.flat) : ∃ E2, Inv kp w' E2 (st.imp dst r) (a.put dst (r.val vs)) ∧ Evo kp w E w' E2 := by
  have hsz := hev.size
  have hkeep : ∀ b, b < w.heap.size → w'.heap[b]? = w.heap[b]? := hev.kp
  -- what is shared now
  let ok2 : Nat → Prop := fun b => E.ok b ∨ (E1.ok b ∧ w.heap.size ≤ b)
  have hevo : ∀ at2, (∀ t, 1000000 ≤ t → at2 t = E.at_ t) → Evo kp w E w' ⟨ok2, at2⟩ := fun at2 hat2 =>
    ⟨hev.os, hev.tape, hev.output, hsz, fun b hb => hkeep b (hI.kpl b hb), fun b hb => ⟨.inl hb, hkeep b (hI.okl b hb)⟩, fun b hb => hb.elim .inl fun ⟨_, h9⟩ => .inr fun hk => by have := hI.kpl b hk; omega, hat2, hev.drawn⟩
  have hokold : ∀ b, E.ok b → ok2 b ∧ w'.heap[b]? = w.heap[b]? := fun b hb => ⟨.inl hb, hkeep b (hI.okl b hb)⟩
  have hok2l : Okl w' ok2 := ⟨fun b hb => hb.elim (fun h => Nat.lt_of_lt_of_le (hI.okl b h) hsz) (fun h => h1.okl b h.1), hI.okl.gw.keep hokold⟩
  cases dst with
  | none =>
    refine ⟨⟨ok2, E.at_⟩, ?_, hevo _ (fun _ _ => rfl)⟩
    have hp : ∀ s, Pass E ⟨ok2, E.at_⟩ (lk st.m) (lk st.m) s := fun s => by
      rcases same_tags E (lk st.m) s with h | ⟨_, h⟩
      · exact .inl h
      · exact .inr ⟨rfl, h⟩
    refine ⟨hI.df, hI.sz, fun d x hx => ?_, fun t o ho => ?_, hI.inj, fun t o g c s h9 h10 => ?_, hok2l, fun b hb => Nat.lt_of_lt_of_le (hI.kpl b hb) hsz⟩
    · obtain ⟨v, k1, k2⟩ := hI.tm d x hx
      exact ⟨v, k1, k2.keep hokold (fun t _ => hp t)⟩
    · exact (hI.mm t o ho).keep hokold rfl (fun g c s hg => hkeep g (hI.own t o g c s ho hg).1) (fun s _ _ _ => hp s)
    · have := hI.own t o g c s h9 h10
      exact ⟨by omega, fun h => h.elim this.2.1 (fun h => by omega), this.2.2⟩
  | some d =>
    simp only [St.impFresh, Bool.and_eq_true, decide_eq_true_eq] at hF
    obtain ⟨hF, hdn⟩ := hF
    have hfr := impF_get r.comps 0 hF
    -- where the results' tags are
    let at2 : Nat → Option (Nat × Nat × Nat) := fun t => if ∃ j sz xs, r.comps[j]? = some (.own sz xs) ∧ t = tagf d (0 + j) then E1.at_ ((t - d) / 1000) else E.at_ t
    have hdiv : ∀ j, (tagf d (0 + j) - d) / 1000 = j := fun j => by unfold tagf; omega
    have at_new : ∀ j sz xs, r.comps[j]? = some (.own sz xs) → at2 (tagf d (0 + j)) = E1.at_ j := fun j sz xs h => by
      show (if _ then _ else _) = _
      rw [if_pos ⟨j, sz, xs, h, rfl⟩, hdiv]
    have hnone : ∀ j sz xs, r.comps[j]? = some (.own sz xs) → lk st.m (tagf d (0 + j)) = none ∧ st.held (tagf d (0 + j)) = false := fun j sz xs h => by
      have := hfr j sz xs h
      simp only [St.fresh, Bool.and_eq_true, Bool.not_eq_true', Option.isNone_iff_eq_none] at this
      exact ⟨this.2.2, this.2.1⟩
    have at_old : ∀ t, (∀ j sz xs, r.comps[j]? = some (.own sz xs) → t ≠ tagf d (0 + j)) → at2 t = E.at_ t := fun t h => by
      show (if _ then _ else _) = _
      rw [if_neg]
      rintro ⟨j, sz, xs, h9, h10⟩
      exact h j sz xs h9 h10
    have hlk := impM_lk (tagf_inj d) r.comps 0 st.m
    have hp : ∀ s, (∀ j sz xs, r.comps[j]? = some (.own sz xs) → s ≠ tagf d (0 + j)) → Pass E ⟨ok2, at2⟩ (lk st.m) (lk (impM (tagf d) 0 r.comps st.m)) s := fun s hs => by
      unfold Pass
      rcases hlk s with ⟨j, sz, xs, h9, h10, _⟩ | ⟨_, h10⟩
      · exact (hs j sz xs h9 h10).elim
      · rw [h10]
        rcases same_tags E (lk st.m) s with h | ⟨_, h⟩
        · exact .inl h
        · exact .inr ⟨at_old s hs, h⟩
    have hlive : ∀ s, st.held s = true → ∀ j sz xs, r.comps[j]? = some (.own sz xs) → s ≠ tagf d (0 + j) := fun s hs j sz xs h e => by
      rw [e, (hnone j sz xs h).2] at hs; cases hs
    have hmem : ∀ s o, lk st.m s = some o → ∀ j sz xs, r.comps[j]? = some (.own sz xs) → s ≠ tagf d (0 + j) := fun s o hs j sz xs h e => by
      rw [e, (hnone j sz xs h).1] at hs; cases hs
    -- parts of results, seen from here
    have part : ∀ (c : R1), c ∈ r.comps → ∀ (x : SV), (c = .sv x ∨ ∃ sz xs, c = .own sz xs ∧ x ∈ xs) → ∀ {v : Value}, RepS w' E1.ok x v → RepS w' ok2 x v := fun c hc x hx v hv => by
      rcases hok with hok | hfl
      · refine hv.keep fun b hb => ⟨?_, rfl⟩
        by_cases hlt : b < w.heap.size
        · rcases hev.new b hb with h | h
          · exact .inl (hok b h)
          · exact (h hlt).elim
        · exact .inr ⟨hb, by omega⟩
      · have h9 := hfl c hc
        rcases hx with rfl | ⟨sz, xs, rfl, hx⟩
        · exact hv.flat h9
        · exact hv.flat (h9 x hx)
    have hdisj : ∀ j sz xs g c s, r.comps[j]? = some (.own sz xs) → E1.at_ j = some (g, c, s) → w.heap.size ≤ g ∧ g < w'.heap.size ∧ ¬ E1.ok g := fun j sz xs g c s hj hg => by
      have hl : lk (cst r.comps).m j = some (.row sz xs) := by
        rcases impM_lk (f := id) (fun _ _ h => h) r.comps 0 [] j with ⟨j', sz', xs', h1', h2', h3'⟩ | ⟨h1', _⟩
        · simp only [id, Nat.zero_add] at h2'; subst h2'
          rw [hj] at h1'; simp only [Option.some.injEq, R1.own.injEq] at h1'; obtain ⟨rfl, rfl⟩ := h1'
          exact h3'
        · exact (h1' j sz xs hj (by simp)).elim
      have := h1.own j _ g c s hl hg
      exact ⟨by omega, this.1, this.2.1⟩
    have hrow : ∀ j sz xs, r.comps[j]? = some (.own sz xs) → MemRep w' E1 (lk (cst r.comps).m) j (.row sz xs) := fun j sz xs hj => by
      have hl : lk (cst r.comps).m j = some (.row sz xs) := by
        rcases impM_lk (f := id) (fun _ _ h => h) r.comps 0 [] j with ⟨j', sz', xs', h1', h2', h3'⟩ | ⟨h1', _⟩
        · simp only [id, Nat.zero_add] at h2'; subst h2'
          rw [hj] at h1'; simp only [Option.some.injEq, R1.own.injEq] at h1'; obtain ⟨rfl, rfl⟩ := h1'
          exact h3'
        · exact (h1' j sz xs hj (by simp)).elim
      exact h1.mm j _ hl
    have hInv : Inv kp w' ⟨ok2, at2⟩ { st with m := impM (tagf d) 0 r.comps st.m } a := by
      refine ⟨hI.df, hI.sz, fun e x hx => ?_, fun t o ho => ?_, fun t t' o o' g c s c' s' k1 k2 e1 e2 => ?_, fun t o g c s ho hg => ?_, hok2l, fun b hb => Nat.lt_of_lt_of_le (hI.kpl b hb) hsz⟩
      · obtain ⟨v, k1, k2⟩ := hI.tm e x hx
        refine ⟨v, k1, k2.keep hokold (fun t ht => hp t (hlive t ?_))⟩
        cases hh : st.held t with
        | true => rfl
        | false => rw [held_t hh hx] at ht; cases ht
      · rcases hlk t with ⟨j, sz, xs, h9, h10, h11⟩ | ⟨h9, h10⟩
        · rw [h11] at ho
          simp only [Option.some.injEq] at ho; subst ho
          obtain ⟨h0, hr⟩ := hrow j sz xs h9
          refine ⟨h0, ?_⟩
          rw [h10, show (⟨ok2, at2⟩ : Env).at_ (tagf d (0 + j)) = E1.at_ j from at_new j sz xs h9]
          rcases hr with hr | ⟨g, c, e, cur, vs', k1, k2, k3, k4, k5, k6, k7, k8⟩
          · exact .inl hr
          · refine .inr ⟨g, c, e, cur, vs', k1, k2, k3, k4, k5, k6, RepL.of k7.len (fun i x v hx hv => ?_), k8⟩
            exact part _ (List.mem_of_getElem? h9) x (.inr ⟨sz, xs, rfl, List.mem_of_getElem? hx⟩) (k7.get i x v hx hv)
        · rw [h10] at ho
          refine (hI.mm t o ho).keep hokold (at_old t h9) (fun g c s hg => hkeep g (hI.own t o g c s ho hg).1) (fun s cs hcs hs => hp s (hlive s ?_))
          subst hcs
          cases hh : st.held s with
          | true => rfl
          | false => rw [held_m hh ho] at hs; cases hs
      · rcases hlk t with ⟨j, sz, xs, h9, h10, h11⟩ | ⟨h9, h10⟩ <;> rcases hlk t' with ⟨j', sz', xs', h9', h10', h11'⟩ | ⟨h9', h10'⟩
        · rw [h10] at e1 ⊢
          rw [h10'] at e2 ⊢
          simp only at e1 e2
          rw [at_new j sz xs h9] at e1
          rw [at_new j' sz' xs' h9'] at e2
          have l1 : ∃ o, lk (cst r.comps).m j = some o := by
            rcases impM_lk (f := id) (fun _ _ h => h) r.comps 0 [] j with ⟨_, _, _, _, _, h3'⟩ | ⟨h1', _⟩
            · exact ⟨_, h3'⟩
            · exact (h1' j sz xs h9 (by simp)).elim
          have l2 : ∃ o, lk (cst r.comps).m j' = some o := by
            rcases impM_lk (f := id) (fun _ _ h => h) r.comps 0 [] j' with ⟨_, _, _, _, _, h3'⟩ | ⟨h1', _⟩
            · exact ⟨_, h3'⟩
            · exact (h1' j' sz' xs' h9' (by simp)).elim
          obtain ⟨o1, l1⟩ := l1
          obtain ⟨o2, l2⟩ := l2
          rw [h1.inj j j' o1 o2 g c s c' s' l1 l2 e1 e2]
        · rw [h10] at e1
          simp only at e1 e2
          rw [at_new j sz xs h9] at e1
          rw [at_old t' h9'] at e2
          rw [h10'] at k2
          have q1 := (hdisj j sz xs g c s h9 e1).1
          have q2 := (hI.own t' o' g c' s' k2 e2).1
          omega
        · rw [h10'] at e2
          simp only at e1 e2
          rw [at_new j' sz' xs' h9'] at e2
          rw [at_old t h9] at e1
          rw [h10] at k1
          have q1 := (hdisj j' sz' xs' g c' s' h9' e2).1
          have q2 := (hI.own t o g c s k1 e1).1
          omega
        · simp only at e1 e2
          rw [at_old t h9] at e1
          rw [at_old t' h9'] at e2
          rw [h10] at k1
          rw [h10'] at k2
          exact hI.inj t t' o o' g c s c' s' k1 k2 e1 e2
      · rcases hlk t with ⟨j, sz, xs, h9, h10, h11⟩ | ⟨h9, h10⟩
        · rw [h10] at hg
          simp only at hg
          rw [at_new j sz xs h9] at hg
          have q := hdisj j sz xs g c s h9 hg
          refine ⟨q.2.1, fun h => ?_, fun h => by have := hI.kpl g h; omega⟩
          rcases h with h | h
          · have := hI.okl g h; omega
          · exact q.2.2 h.1
        · simp only at hg
          rw [at_old t h9] at hg
          rw [h10] at ho
          have q := hI.own t o g c s ho hg
          exact ⟨by omega, fun h => h.elim q.2.1 (fun h => by omega), q.2.2⟩
    refine ⟨⟨ok2, at2⟩, ?_, hevo _ (fun t ht => at_old t fun j sz xs h e => by have := St.fresh_pin (hfr j sz xs h); omega)⟩
    refine hInv.put (dst := some d) (by simpa [St.fitsDst] using hdn) ?_
    -- the value itself
    have comp : ∀ (j : Nat) (c : R1), r.comps[j]? = some c → ∃ v, vs[j]? = some v ∧ RepV w' ⟨ok2, at2⟩ (lk (impM (tagf d) 0 r.comps st.m)) (c.av (tagf d (0 + j))) v := fun j c hc => by
      have hl := ent1_get (f := id) r.comps 0 j
      rw [hc] at hl
      simp only [Nat.zero_add, Option.map_some, id] at hl
      obtain ⟨v, k1, k2⟩ := h1.tm j (c.av j) hl
      refine ⟨v, by simpa using k1, ?_⟩
      cases c with
      | sv x =>
        simp only [R1.av, RepV] at k2 ⊢
        exact part _ (List.mem_of_getElem? hc) x (.inl rfl) k2
      | nil => simpa only [R1.av, RepV] using k2
      | own sz xs =>
        simp only [R1.av, RepV] at k2 ⊢
        have l1 : lk (cst r.comps).m j = some (.row sz xs) := by
          rcases impM_lk (f := id) (fun _ _ h => h) r.comps 0 [] j with ⟨j', sz', xs', h1', h2', h3'⟩ | ⟨h1', _⟩
          · simp only [id, Nat.zero_add] at h2'; subst h2'
            rw [hc] at h1'; simp only [Option.some.injEq, R1.own.injEq] at h1'; obtain ⟨rfl, rfl⟩ := h1'
            exact h3'
          · exact (h1' j sz xs hc (by simp)).elim
        have l2 : lk (impM (tagf d) 0 r.comps st.m) (tagf d (0 + j)) = some (.row sz xs) := by
          rcases hlk (tagf d (0 + j)) with ⟨j', sz', xs', h9, h10, h11⟩ | ⟨h9, _⟩
          · have := tagf_inj d _ _ h10
            rw [show j' = j by omega, hc] at h9
            simp only [Option.some.injEq, R1.own.injEq] at h9
            obtain ⟨rfl, rfl⟩ := h9
            exact h11
          · exact (h9 j sz xs hc rfl).elim
        rw [l1] at k2
        rw [l2, at_new j sz xs hc]
        exact k2
    cases r with
    | one c =>
      obtain ⟨v, k1, k2⟩ := comp 0 c rfl
      simp only [RV.av, RV.val]
      cases vs with
      | nil => simp at k1
      | cons u vs => simp at k1; subst k1; exact k2
    | many rs =>
      simp only [RV.av, RV.val, RepV]
      refine ⟨vs.toArray, rfl, RepVL.of ?_ fun i x v hx hv => ?_⟩
      · have hn := h1.sz
        simp only [List.size_toArray, cst, RV.comps] at hn
        simp [impT_len, hn]
      · rw [impT_get] at hx
        obtain ⟨c, hc, rfl⟩ := Option.map_eq_some_iff.1 hx
        obtain ⟨u, k1, k2⟩ := comp i c hc
        simp only at hv
        rw [k1] at hv
        simp only [Option.some.injEq] at hv; subst hv
        exact k2
end

/-! ### Arguments, and the call -/
mutual
/-- A frame value as an argument: what is owned is lent. -/
def AV.arg (m : Mem) : AV → Option SV
  | .sv x => some x
  | .nil => some (.lst [])
  | .own t => match m t with
    | some (.row _ xs) => some (.lst xs)
    | _ => none
  | .box t off => match m t with
    | some (.box cs) => (AV.svs cs).map fun xs => .ref (.agg xs) off
    | _ => none
  | .elt _ _ _ => none
  | .tup _ | .agg _ | .sl _ _ => none
  | .fnv f caps => (AV.argL m caps).map fun xs => .fn f xs
def AV.argL (m : Mem) : List AV → Option (List SV)
  | [] => some []
  | x :: xs => match AV.arg m x, AV.argL m xs with
    | some y, some ys => some (y :: ys)
    | _, _ => none
end
theorem arg_rep {kp : Nat → Prop} {w : World} {E : Env} {st : St} {a : Act} (hI : Inv kp w E st a) : ∀ {X : AV} {y : SV} {v : Value}, X.arg (lk st.m) = some y → RepV w E (lk st.m) X v → RepS w (· < w.heap.size) y v := by
  have hok : ∀ b, E.ok b → (b < w.heap.size) ∧ w.heap[b]? = w.heap[b]? := fun b hb => ⟨hI.okl b hb, rfl⟩
  intro X
  refine AV.rec (motive_1 := fun X => ∀ {y : SV} {v : Value}, X.arg (lk st.m) = some y → RepV w E (lk st.m) X v → RepS w (· < w.heap.size) y v) (motive_2 := fun l => ∀ {ys : List SV} {vs : List Value}, AV.argL (lk st.m) l = some ys → RepVL w E (lk st.m) l vs → RepL w (· < w.heap.size) ys vs)
    ?_ ?_ ?_ ?_ ?_ ?_ ?_ ?_ ?_ ?_ ?_ X
  · intro x y v h hr; simp only [AV.arg, Option.some.injEq] at h; subst h; simp only [RepV] at hr; exact hr.keep hok
  · intro y v h hr; simp only [AV.arg, Option.some.injEq] at h; subst h; simp only [RepV] at hr; subst hr; simp [RepS]
  · intro t y v h hr
    simp only [AV.arg] at h
    split at h
    case h_2 => cases h
    rename_i sz xs hm
    simp only [Option.some.injEq] at h; subst h
    simp only [RepV, hm] at hr
    obtain ⟨h0, hmm⟩ := hI.mm t _ hm
    simp only [RepS]
    rcases hmm with ⟨h1, rfl⟩ | ⟨g, c, e, cur, vs, h1, h2, h3, h4, h5, h6, h7, h8⟩
    · rw [h1] at hr; obtain ⟨b, rfl⟩ := hr; exact ⟨b, 0, rfl, Nat.le_refl _, .inl rfl⟩
    · rw [h1] at hr
      refine ⟨_, c, hr, h4, .inr ⟨⟨g, 0, none⟩, sz, vs, rfl, (hI.own t _ g c sz hm h1).1, h7.keep hok, fun i u hu => ⟨(h8 i u hu).1, fun j y hy => ?_⟩⟩⟩
      rw [Go.Deep.add_add, add_lit, cell_of_row w g _ cur e (0, 0) h2, Nat.zero_add]
      exact (h8 i u hu).2.2 j y hy
  · intro t off y v h hr
    simp only [AV.arg] at h
    split at h
    case h_2 => cases h
    rename_i cs hm
    obtain ⟨xs, hxs, rfl⟩ := Option.map_eq_some_iff.1 h
    simp only [RepV, hm] at hr
    obtain ⟨g, c, sz, hg, rfl⟩ := hr
    obtain ⟨g', c', sz', e, cur, hg', hh, hr⟩ := hI.mm t _ hm
    rw [hg] at hg'
    simp only [Option.some.injEq, Prod.mk.injEq] at hg'
    obtain ⟨rfl, rfl, rfl⟩ := hg'
    simp only [RepS]
    refine ⟨⟨g, 0, none⟩, .agg cur, by rw [add_lit, Nat.zero_add], (hI.own t _ g c sz hm hg).1, ⟨cur, rfl, (RepVL.svs hxs hr).keep hok⟩, fun j y hy => ?_⟩
    rw [add_lit, cell_of_row w g _ cur e (0, 0) hh, Nat.zero_add]
    exact hy
  · intro t i off y v h; simp [AV.arg] at h
  · intro xs ih y v h; simp [AV.arg] at h
  · intro f caps ih y v h hr
    simp only [AV.arg] at h
    obtain ⟨xs, hxs, rfl⟩ := Option.map_eq_some_iff.1 h
    simp only [RepV, RepS] at hr ⊢
    obtain ⟨cs, rfl, hr⟩ := hr
    exact ⟨cs, rfl, ih hxs hr⟩
  · intro xs ih y v h; simp [AV.arg] at h
  · intro t n y v h; simp [AV.arg] at h
  · intro ys vs h hr; simp only [AV.argL, Option.some.injEq] at h; subst h; simp only [RepVL] at hr; subst hr; exact RepL.nil
  · intro x xs ihx ihs ys vs h hr
    simp only [RepVL] at hr
    obtain ⟨v, vs', rfl, hx, hs⟩ := hr
    simp only [AV.argL] at h
    split at h
    · rename_i y ys' h1 h2
      simp only [Option.some.injEq] at h; subst h
      exact RepL.cons (ihx h1 hx) (ihs h2 hs)
    · cases h

/-- The arguments of a call: shared (lent = false), or lent. -/
def argv (st : St) : List Operand → Option (List SV)
  | [] => some []
  | x :: xs => match (aval st x).bind (AV.arg (lk st.m)), argv st xs with
    | some y, some ys => some (y :: ys)
    | _, _ => none
def argS (st : St) : List Operand → Option (List SV)
  | [] => some []
  | x :: xs => match (aval st x).bind AV.elem, argS st xs with
    | some y, some ys => some (y :: ys)
    | _, _ => none
section
variable {kp : Nat → Prop} {w w' : World} {E E1 : Env} {st : St} {a : Act}
theorem argv_rep (hI : Inv kp w E st a) : ∀ {l : List Operand} {ys : List SV}, argv st l = some ys → RepL w (· < w.heap.size) ys (l.map a.eval)
  | [], ys, h => by simp only [argv, Option.some.injEq] at h; subst h; exact RepL.nil
  | x :: xs, ys, h => by
    simp only [argv] at h
    split at h
    · rename_i y ys' h1 h2
      simp only [Option.some.injEq] at h; subst h
      obtain ⟨X, hX, h1⟩ := Option.bind_eq_some_iff.1 h1
      exact RepL.cons (arg_rep hI h1 (aval_rep hI hX)) (argv_rep hI h2)
    · cases h
theorem argS_rep (hI : Inv kp w E st a) : ∀ {l : List Operand} {ys : List SV}, argS st l = some ys → RepL w E.ok ys (l.map a.eval)
  | [], ys, h => by simp only [argS, Option.some.injEq] at h; subst h; exact RepL.nil
  | x :: xs, ys, h => by
    simp only [argS] at h
    split at h
    · rename_i y ys' h1 h2
      simp only [Option.some.injEq] at h; subst h
      obtain ⟨X, hX, h1⟩ := Option.bind_eq_some_iff.1 h1
      exact RepL.cons (elem_rep h1 (aval_rep hI hX)) (argS_rep hI h2)
    · cases h

/-- The function that is called, and what it has captured. -/
def calle (st : St) (lent : Bool) : Operand → Option (FuncId × List SV)
  | .func f => some (f, [])
  | x => match aval st x with
    | some (.sv (.fn f caps)) => some (f, caps)
    | some (.fnv f caps) => if lent = true then (AV.argL (lk st.m) caps).map fun xs => (f, xs) else none
    | _ => none
variable {P : Program} {ops : Array Oper} {l : List Oper} {K : St → Prop} {o : Oper}
theorem Rn.call {f : Operand} {xs : Array Operand} {ts : Array TypeId} {g : FuncId} {caps ys : List SV} {R : RV → Prop} (lent : Bool) (hg : grd ops st o = some true) (ho : o.op = .call { callee := .value f, args := xs, argTypes := ts }) (hf : calle st lent f = some (g, caps))
    (ha : (if lent = true then argv st xs.toList else argS st xs.toList) = some ys) (hc : ACalls P g (ys ++ caps) R) (hl : lent = true → ∀ r, R r → r.flat) (h : ∀ r, R r → st.impFresh o.dst r = true ∧ Rn P ops l K (st.imp o.dst r)) : Rn P ops (o :: l) K st := fun keep w E a hI => by
  unfold wpList
  rw [if_pos (grd_run hI hg)]
  refine .inl ?_
  obtain ⟨g', hc1, hc2⟩ := hc
  have hargs : ∃ ok : Nat → Prop, Okl w ok ∧ RepL w ok ys (xs.toList.map a.eval) ∧ ((∀ b, ok b → E.ok b) ∨ lent = true) ∧ ∃ cs : Array Value, a.eval f = .func (.func g) #[] cs ∧ RepL w ok caps cs.toList := by
    have hE : ∀ b, E.ok b → (b < w.heap.size) ∧ w.heap[b]? = w.heap[b]? := fun b hb => ⟨hI.okl b hb, rfl⟩
    cases lent with
    | true =>
      refine ⟨(· < w.heap.size), ⟨fun b h => h, hI.okl.gw.keep hE⟩, argv_rep hI (by simpa using ha), .inr rfl, ?_⟩
      cases f with
      | func f' => simp only [calle, Option.some.injEq, Prod.mk.injEq] at hf; obtain ⟨rfl, rfl⟩ := hf; exact ⟨#[], rfl, RepL.nil⟩
      | global g =>
        simp only [calle, aval] at hf
        cases hg2 : lk Gtab g <;> rw [hg2] at hf <;> simp at hf
      | const v =>
        simp only [calle] at hf
        split at hf
        · rename_i f' caps' hX
          simp only [Option.some.injEq, Prod.mk.injEq] at hf; obtain ⟨rfl, rfl⟩ := hf
          have hr := aval_rep hI hX
          simp only [RepV, RepS] at hr
          obtain ⟨cs, h1, h2⟩ := hr
          exact ⟨cs, h1, h2.keep hE⟩
        · rename_i f' caps' hX
          rw [if_pos trivial] at hf
          obtain ⟨zs, hz, he⟩ := Option.map_eq_some_iff.1 hf
          simp only [Prod.mk.injEq] at he; obtain ⟨rfl, rfl⟩ := he
          have hr := arg_rep hI (X := .fnv f' caps') (y := .fn f' zs) (by simp [AV.arg, hz]) (aval_rep hI hX)
          simp only [RepS] at hr
          exact hr
        · cases hf
      | tmp t =>
        simp only [calle] at hf
        split at hf
        · rename_i f' caps' hX
          simp only [Option.some.injEq, Prod.mk.injEq] at hf; obtain ⟨rfl, rfl⟩ := hf
          have hr := aval_rep hI hX
          simp only [RepV, RepS] at hr
          obtain ⟨cs, h1, h2⟩ := hr
          exact ⟨cs, h1, h2.keep hE⟩
        · rename_i f' caps' hX
          rw [if_pos trivial] at hf
          obtain ⟨zs, hz, he⟩ := Option.map_eq_some_iff.1 hf
          simp only [Prod.mk.injEq] at he; obtain ⟨rfl, rfl⟩ := he
          have hr := arg_rep hI (X := .fnv f' caps') (y := .fn f' zs) (by simp [AV.arg, hz]) (aval_rep hI hX)
          simp only [RepS] at hr
          exact hr
        · cases hf
    | false =>
      refine ⟨E.ok, hI.okl, argS_rep hI (by simpa using ha), .inl fun b h => h, ?_⟩
      cases f with
      | func f' => simp only [calle, Option.some.injEq, Prod.mk.injEq] at hf; obtain ⟨rfl, rfl⟩ := hf; exact ⟨#[], rfl, RepL.nil⟩
      | global g =>
        simp only [calle, aval] at hf
        cases hg2 : lk Gtab g <;> rw [hg2] at hf <;> simp at hf
      | const v =>
        simp only [calle] at hf
        split at hf
        · rename_i f' caps' hX
          simp only [Option.some.injEq, Prod.mk.injEq] at hf; obtain ⟨rfl, rfl⟩ := hf
          have hr := aval_rep hI hX
          simp only [RepV, RepS] at hr
          exact hr
        · simp at hf
        · cases hf
      | tmp t =>
        simp only [calle] at hf
        split at hf
        · rename_i f' caps' hX
          simp only [Option.some.injEq, Prod.mk.injEq] at hf; obtain ⟨rfl, rfl⟩ := hf
          have hr := aval_rep hI hX
          simp only [RepV, RepS] at hr
          exact hr
        · simp at hf
        · cases hf
  obtain ⟨ok, hok, hr, hor, cs, hfe, hcs⟩ := hargs
  have hcall := hc2 w ok ((xs.map a.eval) ++ cs) hok (by simpa using hr.append hcs)
  have hrun : (execOp a.eval o).run P w = .ok (.enter g' (xs.map a.eval ++ cs)) w := by
    unfold execOp
    rw [ho]
    simp [resolve, Deferred.ofValue, hfe, invoke, hc1]
  unfold Oper.wp
  rw [hrun, Oper.upon_enter]
  refine hcall.mono ?_
  rintro e w' ⟨r, vs, E1, hR, rfl, h1, h2⟩
  obtain ⟨hF, hk⟩ := h r hR
  obtain ⟨E2, q1, q2⟩ := hI.import h1 h2 hF (hor.imp (fun h => h) (fun h => hl h r hR))
  refine Rn.freeze.wpList_mono' ?_ (hk keep w' E2 _ q1)
  rintro e a2 w2 ⟨st2, E3, k1, k2, k3⟩
  exact ⟨st2, E3, k1, q2.trans k2, k3⟩
end

/-! ### What a function's body comes to -/
def params : Nat → List SV → List (Nat × AV)
  | _, [] => []
  | i, x :: xs => (i, .sv x) :: params (i + 1) xs
theorem params_get : ∀ (xs : List SV) (i d : Nat) (x : AV), lk (params i xs) d = some x → ∃ j y, d = i + j ∧ xs[j]? = some y ∧ x = .sv y
  | [], i, d, x, h => by simp [params, lk] at h
  | y :: xs, i, d, x, h => by
    simp only [params, lk] at h
    split at h
    · rename_i e; simp only [Option.some.injEq] at h; exact ⟨0, y, by omega, rfl, h.symm⟩
    · obtain ⟨j, z, h1, h2, h3⟩ := params_get xs (i + 1) d x h
      exact ⟨j + 1, z, by omega, by simpa using h2, h3⟩
/-- What the results' places hold. -/
def resAV (P : Program) (st : St) : List ResultVar → Option (List AV)
  | [] => some []
  | .tmp t :: l => match lk st.t t, resAV P st l with
    | some x, some xs => some (x :: xs)
    | _, _ => none
  | .cell p ty :: l => match (lk st.t p).bind (aload P st ty), resAV P st l with
    | some x, some xs => if (P.underlying ty).isSome = true then some (x :: xs) else none
    | _, _ => none
def toR1 (st : St) : AV → Option R1
  | .sv x => some (.sv x)
  | .nil => some .nil
  | .own t => match lk st.m t with
    | some (.row sz xs) => some (.own sz xs)
    | _ => none
  | _ => none
def ownIn : AV → List AV → Bool
  | .own t, xs => AV.holdsL t xs
  | _, _ => false
def toR (st : St) : List AV → Option (List R1)
  | [] => some []
  | x :: xs => match toR1 st x, toR st xs with
    | some y, some ys => if ownIn x xs = true then none else some (y :: ys)
    | _, _ => none
def mkRV : List R1 → RV
  | [r] => .one r
  | rs => .many rs
/-- What a state returns. -/
def retv (P : Program) (fn : Func) (st : St) : Option RV := ((resAV P st fn.results.toList).bind (toR st)).map mkRV
def Ret (P : Program) (fn : Func) (st : St) (r : RV) : Prop := retv P fn st = some r
/-- The post of a body. -/
def bodyQ (P : Program) (fn : Func) (R : RV → Prop) (e : Exit) (st : St) : Prop := (e = .ret ∨ e = .normal) ∧ ∃ r, R r ∧ Ret P fn st r
theorem bodyQ_ret {P : Program} {fn : Func} {R : RV → Prop} {st : St} : bodyQ P fn R .ret st ↔ match retv P fn st with | some r => R r | none => False := by
  unfold bodyQ Ret
  cases retv P fn st with
  | none => simp
  | some r => simp
theorem bodyQ_normal {P : Program} {fn : Func} {R : RV → Prop} {st : St} : bodyQ P fn R .normal st ↔ match retv P fn st with | some r => R r | none => False := by
  unfold bodyQ Ret
  cases retv P fn st with
  | none => simp
  | some r => simp
section
variable {kp : Nat → Prop} {w : World} {E : Env} {st : St} {a : Act} {P : Program}
theorem load_ptr (hI : Inv kp w E st a) {X Y : AV} {v : Value} {ty : TypeId} (hv : RepV w E (lk st.m) X v) (hu : (P.underlying ty).isSome = true) (hl : aload P st ty X = some Y) : ∃ ad u, v = .pointer (some ad) ∧ (loadVar ty ad).run P w = .ok u w ∧ RepV w E (lk st.m) Y u := by
  unfold aload at hl
  split at hl
  · rename_i cl hp
    obtain ⟨ad, us, hv, hr, hc⟩ := ptr_rep hI hp hv
    refine ⟨ad, ?_⟩
    split at hl
    · rename_i hg
      split at hl
      · rename_i hle
        obtain ⟨xs, hs, rfl⟩ := Option.map_eq_some_iff.1 hl
        have hrt := hr.take (tsz P ty)
        have hlen : (us.take (tsz P ty)).length = tsz P ty := by rw [List.length_take, ← hr.len]; omega
        refine ⟨.agg (us.take (tsz P ty)).toArray, hv, ?_, by simp only [RepV, RepS]; exact ⟨_, rfl, RepVL.svs hs hrt⟩⟩
        have hcells := run_loadCells_list (P := P) w ad (us.take (tsz P ty)) (fun j u hu => hc j u (by rw [List.getElem?_take] at hu; split at hu <;> simp_all))
        rw [hlen] at hcells
        unfold loadVar
        simp [run_isAgg hu, hg, run_sizeOf (info_of_underlying hu), hcells]
      · cases hl
    · rename_i hg
      cases cl with
      | nil => simp at hl
      | cons Z cl =>
        simp only [List.head?_cons, Option.some.injEq] at hl
        subst hl
        simp only [RepVL] at hr
        obtain ⟨u, us', rfl, hZ, _⟩ := hr
        refine ⟨u, hv, ?_, hZ⟩
        have h0 := hc 0 u rfl
        have hz : ad.add 0 = ad := by simp [Addr.add]
        rw [hz] at h0
        unfold loadVar
        simp [run_isAgg hu, hg, load, Sem.run, h0]
  · cases hl
def resOne (tmps : Array Value) : ResultVar → Sem Value
  | .tmp t => pure (tmps.getD t undef)
  | .cell p t => do loadVar t (← asAddr (tmps.getD p undef))
theorem resAV_run (hI : Inv kp w E st a) : ∀ {l : List ResultVar} {xs : List AV}, resAV P st l = some xs → ∃ vs, (l.mapM (resOne a.tmps)).run P w = .ok vs w ∧ RepVL w E (lk st.m) xs vs
  | [], xs, h => by simp only [resAV, Option.some.injEq] at h; subst h; exact ⟨[], by simp, RepVL.nil⟩
  | .tmp t :: l, xs, h => by
    simp only [resAV] at h
    split at h
    · rename_i x xs' h1 h2
      simp only [Option.some.injEq] at h; subst h
      obtain ⟨vs, k1, k2⟩ := resAV_run hI h2
      obtain ⟨v, k3, k4⟩ := hI.tm t x h1
      refine ⟨v :: vs, ?_, RepVL.cons k4 k2⟩
      have k5 : (resOne a.tmps (.tmp t)).run P w = .ok v w := by simp [resOne, k3]
      simp [List.mapM_cons, k1, k5]
    · cases h
  | .cell p ty :: l, xs, h => by
    simp only [resAV] at h
    split at h
    · rename_i x xs' h1 h2
      split at h
      case isFalse => cases h
      rename_i hu
      simp only [Option.some.injEq] at h; subst h
      obtain ⟨X, hX, h1⟩ := Option.bind_eq_some_iff.1 h1
      obtain ⟨vs, k1, k2⟩ := resAV_run hI h2
      obtain ⟨v, k3, k4⟩ := hI.tm p X hX
      obtain ⟨ad, u, rfl, q1, q2⟩ := load_ptr (P := P) hI k4 hu h1
      refine ⟨u :: vs, ?_, RepVL.cons q2 k2⟩
      have k5 : (resOne a.tmps (.cell p ty)).run P w = .ok u w := by simp [resOne, k3, asAddr, q1]
      simp [List.mapM_cons, k1, k5]
    · cases h
theorem toR_get : ∀ {xs : List AV} {rs : List R1}, toR st xs = some rs → xs.length = rs.length ∧ ∀ (i : Nat) (x : AV) (c : R1), xs[i]? = some x → rs[i]? = some c → toR1 st x = some c
  | [], rs, h => by simp only [toR, Option.some.injEq] at h; subst h; exact ⟨rfl, fun i x c hx => by simp at hx⟩
  | x :: xs, rs, h => by
    simp only [toR] at h
    split at h
    · rename_i y ys h1 h2
      split at h
      case isTrue => cases h
      simp only [Option.some.injEq] at h; subst h
      obtain ⟨k1, k2⟩ := toR_get h2
      refine ⟨by simp [k1], fun i z c hz hc => ?_⟩
      cases i with
      | zero => simp at hz hc; subst hz; subst hc; exact h1
      | succ i => exact k2 i z c (by simpa using hz) (by simpa using hc)
    · cases h
theorem toR_tags : ∀ {xs : List AV} {rs : List R1}, toR st xs = some rs → ∀ (i j t : Nat), xs[i]? = some (.own t) → xs[j]? = some (.own t) → i = j
  | [], rs, h, i, j, t, hi, hj => by simp at hi
  | x :: xs, rs, h, i, j, t, hi, hj => by
    simp only [toR] at h
    split at h
    case h_2 => cases h
    rename_i y ys h1 h2
    split at h
    case isTrue => cases h
    rename_i hc
    have hno : ∀ (k : Nat), xs[k]? = some (AV.own t) → x = AV.own t → False := fun k hk hx => by
      subst hx
      simp only [ownIn] at hc
      have : ∀ {l : List AV} {k : Nat}, l[k]? = some (.own t) → AV.holdsL t l = true := by
        intro l
        induction l with
        | nil => intro k h; simp at h
        | cons z l ih =>
          intro k h
          cases k with
          | zero => simp at h; subst h; simp [AV.holdsL, AV.holds]
          | succ k => simp [AV.holdsL, ih (by simpa using h)]
      exact hc (this hk)
    cases i with
    | zero =>
      simp at hi
      cases j with
      | zero => rfl
      | succ j => exact (hno j (by simpa using hj) hi).elim
    | succ i =>
      cases j with
      | zero => simp at hj; exact (hno i (by simpa using hi) hj).elim
      | succ j => rw [toR_tags h2 i j t (by simpa using hi) (by simpa using hj)]

theorem ACalls.of_body {g : FuncId} {fn : Func} {c : Code} {args : List SV} {R : RV → Prop} (hcall : ∀ (cargs : Array Value) (w : World), (callFunc g cargs).run P w = .ok (.enter g cargs) w) (hf : P.funcs[g]? = some fn) (hb : fn.body = some c) {n : Nat} (hn : fn.ntmps = n) (hle : args.length ≤ n)
    (h : Tr P c (bodyQ P fn R) { n := n, t := params 0 args, m := [] }) : ACalls P g args R := by
  refine ⟨g, hcall, fun w ok cargs hok hargs => calls_of_wp hf hb (Code.wp_mono ?_ (h (· < w.heap.size) w ⟨ok, fun _ => none⟩ _ ?_))⟩
  · rintro e a' w' ⟨st', E', hI, hev, he, r, hR, hret⟩
    unfold Ret retv at hret
    obtain ⟨rs, hrs, rfl⟩ := Option.map_eq_some_iff.1 hret
    obtain ⟨xs, h1, h2⟩ := Option.bind_eq_some_iff.1 hrs
    obtain ⟨vs, hrun, hr⟩ := resAV_run (P := P) hI h1
    obtain ⟨hlen, hget⟩ := toR_get h2
    have htag := toR_tags h2
    have hcomps : (mkRV rs).comps = rs := by
      unfold mkRV
      split <;> rfl
    have hres : (results fn a'.tmps).run P w' = .ok ((mkRV rs).val vs) w' := by
      have h3 : (fn.results.mapM (resOne a'.tmps)).run P w' = .ok vs.toArray w' := by
        rw [Array.mapM_eq_mapM_toList]
        simp [hrun]
      have h4 : results fn a'.tmps = (do let vs ← fn.results.mapM (resOne a'.tmps); pure (if h : vs.size = 1 then vs[0] else .tuple vs)) := by
        unfold results
        congr 2
      rw [h4, Sem.run_bind, h3]
      have hl3 := hr.len
      match rs, hlen with
      | [r], hlen =>
        have : ∃ u, vs = [u] := List.length_eq_one_iff.1 (by simp at hlen; omega)
        obtain ⟨u, rfl⟩ := this
        simp [mkRV, RV.val]
      | [], hlen =>
        have : vs = [] := List.eq_nil_of_length_eq_zero (by simp at hlen; simp [hlen] at hl3; omega)
        subst this
        simp [mkRV, RV.val]
      | r1 :: r2 :: rs', hlen =>
        simp only [mkRV, RV.val]
        have : vs.length ≠ 1 := by simp at hlen; omega
        simp [this]
    have hfin : ∃ (r : RV) (us : List Value) (E1 : Env), R r ∧ Ending.returned ((mkRV rs).val vs) = .returned (r.val us) ∧ Inv (· < w.heap.size) w' E1 (cst r.comps) ⟨us.toArray, []⟩ ∧ Evo (· < w.heap.size) w ⟨ok, E1.at_⟩ w' E1 := by
      refine ⟨mkRV rs, vs, ⟨E'.ok, fun i => match xs[i]? with | some (.own t) => E'.at_ t | _ => none⟩, hR, rfl, ?_, ⟨hev.os, hev.tape, hev.output, hev.size, hev.kp, hev.oks, hev.new, fun _ _ => rfl, hev.drawn⟩⟩
      rw [hcomps]
      have hl3 := hr.len
      -- each of the results' rows
      have own : ∀ (i sz : Nat) (ys : List SV), rs[i]? = some (R1.own sz ys) → ∃ t, xs[i]? = some (AV.own t) ∧ lk st'.m t = some (.row sz ys) := fun i sz ys hi => by
        have hlt : i < xs.length := by rw [hlen]; exact (List.getElem?_eq_some_iff.1 hi).1
        have hx := List.getElem?_eq_getElem hlt
        have hc := hget i _ _ hx hi
        rw [hx]
        unfold toR1 at hc
        split at hc
        · cases hc
        · cases hc
        · rename_i t he
          split at hc
          · rename_i sz' xs' hm
            simp only [Option.some.injEq, R1.own.injEq] at hc
            obtain ⟨rfl, rfl⟩ := hc
            exact ⟨t, by rw [he], hm⟩
          · cases hc
        · cases hc
      have hcl : ∀ (i sz : Nat) (ys : List SV), rs[i]? = some (R1.own sz ys) → lk (cst rs).m i = some (.row sz ys) := fun i sz ys hi => by
        rcases impM_lk (f := id) (fun _ _ h => h) rs 0 [] i with ⟨j', sz', xs', h1', h2', h3'⟩ | ⟨h1', _⟩
        · simp only [id, Nat.zero_add] at h2'; subst h2'
          rw [hi] at h1'; simp only [Option.some.injEq, R1.own.injEq] at h1'; obtain ⟨rfl, rfl⟩ := h1'
          exact h3'
        · exact (h1' i sz ys hi (by simp)).elim
      refine ⟨rfl, by simp [cst]; omega, fun d x hx => ?_, fun t o ho => ?_, fun t t' o o' g c s c' s' k1 k2 e1 e2 => ?_, fun t o g c s ho hg => ?_, hI.okl, hI.kpl⟩
      · have hg := ent1_get (f := id) rs 0 d
        simp only [Nat.zero_add, id] at hg
        rw [show lk (cst rs).t d = lk (ent1 id 0 rs) d from rfl, hg] at hx
        obtain ⟨c, hc, rfl⟩ := Option.map_eq_some_iff.1 hx
        have hlt : d < xs.length := by rw [hlen]; exact (List.getElem?_eq_some_iff.1 hc).1
        have hX := List.getElem?_eq_getElem hlt
        have hV : vs[d]? = some vs[d] := List.getElem?_eq_getElem (by omega)
        have hrep := hr.get d _ _ hX hV
        refine ⟨vs[d], by simp, ?_⟩
        have hc1 := hget d _ _ hX hc
        cases c with
        | sv y =>
          unfold toR1 at hc1
          split at hc1 <;> first | (simp only [Option.some.injEq, R1.sv.injEq] at hc1; subst hc1; rename_i he; rw [he] at hrep; simpa only [R1.av, RepV] using hrep) | (split at hc1 <;> cases hc1) | cases hc1
        | nil =>
          unfold toR1 at hc1
          split at hc1 <;> first | (rename_i he; rw [he] at hrep; simpa only [R1.av, RepV] using hrep) | (split at hc1 <;> cases hc1) | cases hc1
        | own sz ys =>
          obtain ⟨t, ht, hm⟩ := own d sz ys hc
          rw [hX] at ht
          simp only [Option.some.injEq] at ht
          rw [ht] at hrep
          simp only [R1.av, RepV] at hrep ⊢
          rw [hm] at hrep
          rw [hcl d sz ys hc, hX, ht]
          exact hrep
      · obtain ⟨sz, ys, hi, rfl⟩ := cst_mem rs t o ho
        obtain ⟨t', ht, hm⟩ := own t sz ys hi
        obtain ⟨h0, h⟩ := hI.mm t' _ hm
        refine ⟨h0, ?_⟩
        simp only [ht]
        exact h
      · obtain ⟨sz, ys, hi, rfl⟩ := cst_mem rs t o k1
        obtain ⟨sz', ys', hi', rfl⟩ := cst_mem rs t' o' k2
        obtain ⟨u, hu, hm⟩ := own t sz ys hi
        obtain ⟨u', hu', hm'⟩ := own t' sz' ys' hi'
        simp only [hu] at e1
        simp only [hu'] at e2
        have := hI.inj u u' _ _ g c s c' s' hm hm' e1 e2
        subst this
        exact htag t t' u hu hu'
      · obtain ⟨sz, ys, hi, rfl⟩ := cst_mem rs t o ho
        obtain ⟨u, hu, hm⟩ := own t sz ys hi
        simp only [hu] at hg
        exact hI.own u _ g c s hm hg
    rcases he with rfl | rfl
    · refine ⟨hI.df, _, hres, ?_⟩
      exact hfin
    · refine ⟨hI.df, _, hres, ?_⟩
      exact hfin
  · have hal := hargs.len
    simp only [Array.length_toList] at hal
    refine ⟨rfl, by simp [hn]; omega, fun d x hx => ?_, fun t o ho => by simp [lk] at ho, fun t t' o o' g c s c' s' k1 => by simp [lk] at k1, fun t o g c s k1 => by simp [lk] at k1, hok, fun b hb => hb⟩
    obtain ⟨j, y, rfl, hj, rfl⟩ := params_get args 0 d x hx
    obtain ⟨v, hv, hr⟩ := hargs.at hj
    have hlt : j < cargs.size := by rw [← hal]; exact (List.getElem?_eq_some_iff.1 hj).1
    refine ⟨v, ?_, by simpa only [RepV] using hr⟩
    rw [Nat.zero_add, Array.getElem?_append_left hlt]
    simpa using hv
end
end Go.Proofs.Ytnkcenafpigmbaa.Ab

namespace Go.Proofs.Ytnkcenafpigmbaa.Ab
open Go.RowKit
set_option linter.unusedVariables false
set_option linter.unusedSimpArgs false

def av0 (st : St) (x : Operand) : AV := (aval st x).getD (.sv .any)
theorem av0_rep {keep : Nat → Prop} {w : World} {E : Env} {st : St} {a : Act} (h : Inv keep w E st a) (x : Operand) : RepV w E (lk st.m) (av0 st x) (a.eval x) := by
  unfold av0
  cases hx : aval st x with
  | none => simp only [Option.getD_none, RepV, RepS]
  | some y => exact aval_rep h hx

/-- Floats: less, equal, greater. -/
def fLt (k : FloatKind) (a b : Nat) : Bool := k.format.order a b == some .lt
def fEq (k : FloatKind) (a b : Nat) : Bool := k.format.order a b == some .eq
def fGt (k : FloatKind) (a b : Nat) : Bool := k.format.order a b == some .gt
def fbin (op : BinOp) (k : FloatKind) (a b : Nat) : Option Value :=
  match op with
  | .eql => some (.bool (fEq k a b))
  | .neq => some (.bool (!fEq k a b))
  | .lss => some (.bool (fLt k a b))
  | .leq => some (.bool (fLt k a b || fEq k a b))
  | .gtr => some (.bool (fGt k a b))
  | .geq => some (.bool (fGt k a b || fEq k a b))
  | op => (floatBits op k a b).map (.float k)
/-- What two values, known, come to. -/
def binv (op : BinOp) (X Y : AV) : Option Value :=
  match X, Y with
  | .sv (.val (.int k a)), .sv (.val (.int k' b)) => match op with
    | .shl | .shr => ishift op k a b
    | _ => if k = k' then ibin op k a b else none
  | .sv (.val (.string a)), .sv (.val (.string b)) => match op with
    | .eql => some (.bool (a.toList == b.toList))
    | .neq => some (.bool (!(a.toList == b.toList)))
    | _ => none
  | .sv (.val (.float k a)), .sv (.val (.float k' b)) => if k = k' then fbin op k a b else none
  | _, _ => none
/-! ### Structs and arrays that are compared -/
def bcode (P : Program) (t : TypeId) : Option Nat :=
  match P.underlying t with
  | some (.int _) => some 0
  | some .bool => some 1
  | some .string => some 2
  | _ => none
def ceqk : Nat → Value → Value → Option Bool
  | 0, .int k a, .int k' b => if k = k' then some (a == b) else none
  | 1, .bool a, .bool b => some (a == b)
  | 2, .string a, .string b => some (a.toList == b.toList)
  | _, _, _ => none
def eqfL (P : Program) : List Field → Option (List (Nat × Nat))
  | [] => some []
  | f :: fs => if f.name ≠ "_" then match bcode P f.type, eqfL P fs with
    | some k, some l => some ((k, f.offset) :: l)
    | _, _ => none
    else none
/-- The cells of a type that are to be compared: what they are, and where. -/
def eqf (P : Program) (t : TypeId) : Option (List (Nat × Nat)) :=
  if P.eqGuardType P.depth t = false then match P.underlying t with
    | some (.struct fs) => if P.stoodInHeld t = false then eqfL P fs.toList else none
    | some (.array n e) => if P.cellsOf e = 1 ∧ (P.info? e).isSome = true then (bcode P e).map fun k => (List.range n).map fun i => (k, i) else none
    | _ => none
  else none
def aeq : List (Nat × Nat) → List SV → List SV → Option Bool
  | [], _, _ => some true
  | (k, off) :: l, xs, ys => match xs[off]?, ys[off]? with
    | some (.val u), some (.val v) => match ceqk k u v, aeq l xs ys with
      | some b, some c => some (b && c)
      | _, _ => none
    | _, _ => none
section
variable {P : Program} {w : World} {ok ok' : Nat → Prop} {xs ys : List SV} {cs ds : Array Value}
theorem ceqk_run {k : Nat} {u v : Value} {b : Bool} {t : TypeId} (d : Nat) (hk : bcode P t = some k) (h : ceqk k u v = some b) : (Op.equalIn (d + 1) t u v).run P w = .ok b w := by
  cases hu : P.underlying t with
  | none => simp [bcode, hu] at hk
  | some q =>
    cases q <;> simp only [bcode, hu, Option.some.injEq, reduceCtorEq] at hk
    all_goals
      subst hk
      cases u <;> cases v <;> simp only [ceqk, reduceCtorEq, Option.some.injEq] at h
    · subst h; simp [Op.equalIn, run_underlying hu]
    · split at h
      · rename_i e; subst e
        simp only [Option.some.injEq] at h; subst h
        simp [Op.equalIn, run_underlying hu]
      · cases h
    · subst h; simp [Op.equalIn, run_underlying hu, beq_toListBytes]
theorem bcode_plain {t : TypeId} {k : Nat} (hk : bcode P t = some k) : (P.underlying t).isSome = true ∧ tagg P t = false := by
  unfold bcode at hk
  split at hk
  · rename_i hu; simp [tagg, hu]
  · rename_i hu; simp [tagg, hu]
  · rename_i hu; simp [tagg, hu]
  · cases hk
theorem part_cell {t : TypeId} {k off : Nat} {u : Value} (hk : bcode P t = some k) (hr : RepL w ok xs cs.toList) (hx : xs[off]? = some (.val u)) : (part t cs off).run P w = .ok u w := by
  obtain ⟨h1, h2⟩ := bcode_plain hk
  have hlt : off < cs.toList.length := by rw [← hr.len]; exact (List.getElem?_eq_some_iff.1 hx).1
  have h3 := hr.get off _ _ hx (List.getElem?_eq_getElem hlt)
  simp only [RepS] at h3
  have h4 : cs[off]? = some u := by
    rw [← h3]
    simp
  simp [part, run_isAgg h1, h2, h4]
theorem eqFields_run (d : Nat) (hx : RepL w ok xs cs.toList) (hy : RepL w ok' ys ds.toList) : ∀ {fs : List Field} {l : List (Nat × Nat)} {b : Bool}, eqfL P fs = some l → aeq l xs ys = some b → (Op.eqFields (d + 1) cs ds fs).run P w = .ok b w
  | [], l, b, hl, hb => by
    simp only [eqfL, Option.some.injEq] at hl; subst hl
    simp only [aeq, Option.some.injEq] at hb; subst hb
    simp [Op.eqFields]
  | f :: fs, l, b, hl, hb => by
    simp only [eqfL] at hl
    split at hl
    case isFalse => cases hl
    rename_i hn
    split at hl
    case h_2 => cases hl
    rename_i k l' hk hl'
    simp only [Option.some.injEq] at hl; subst hl
    simp only [aeq] at hb
    split at hb
    case h_2 => cases hb
    rename_i u v hu hv
    split at hb
    case h_2 => cases hb
    rename_i b1 b2 hb1 hb2
    simp only [Option.some.injEq] at hb; subst hb
    simp only [Op.eqFields, hn, ne_eq, not_false_eq_true, if_true, Sem.run_bind, part_cell hk hx hu, part_cell hk hy hv, Result.andThen_ok, ceqk_run d hk hb1]
    cases b1
    · simp
    · simpa using eqFields_run d hx hy hl' hb2
theorem eqItems_run (d : Nat) {e : TypeId} {k : Nat} (hk : bcode P e = some k) (hc : P.cellsOf e = 1) (hx : RepL w ok xs cs.toList) (hy : RepL w ok' ys ds.toList) : ∀ {is : List Nat} {b : Bool}, aeq (is.map fun i => (k, i)) xs ys = some b → (Op.eqItems (d + 1) e (P.cellsOf e) cs ds is).run P w = .ok b w
  | [], b, hb => by
    simp only [List.map_nil, aeq, Option.some.injEq] at hb; subst hb
    simp [Op.eqItems]
  | i :: is, b, hb => by
    simp only [List.map_cons, aeq] at hb
    split at hb
    case h_2 => cases hb
    rename_i u v hu hv
    split at hb
    case h_2 => cases hb
    rename_i b1 b2 hb1 hb2
    simp only [Option.some.injEq] at hb; subst hb
    have e1 : i * P.cellsOf e = i := by rw [hc, Nat.mul_one]
    simp only [Op.eqItems, Sem.run_bind, e1, part_cell hk hx hu, part_cell hk hy hv, Result.andThen_ok, ceqk_run d hk hb1]
    cases b1
    · simp
    · simpa using eqItems_run d hk hc hx hy hb2
theorem aeq_run {t : TypeId} {l : List (Nat × Nat)} {b : Bool} (hl : eqf P t = some l) (hb : aeq l xs ys = some b) (hx : RepL w ok xs cs.toList) (hy : RepL w ok' ys ds.toList) : P.eqGuardType P.depth t = false ∧ (Op.equalIn 10000 t (.agg cs) (.agg ds)).run P w = .ok b w := by
  unfold eqf at hl
  split at hl
  case isFalse => cases hl
  rename_i hg
  refine ⟨hg, ?_⟩
  split at hl
  · rename_i fs hu
    split at hl
    case isFalse => cases hl
    rename_i hs
    have hf : P.fieldsOf t = fs := by unfold Program.fieldsOf; rw [hu]
    rw [run_equalIn_struct w 9999 t cs ds (by rw [hf]; exact hu) hs, hf]
    exact eqFields_run 9998 hx hy hl hb
  · rename_i n e hu
    split at hl
    case isFalse => cases hl
    rename_i hc
    obtain ⟨k, hk, rfl⟩ := Option.map_eq_some_iff.1 hl
    obtain ⟨i, hi⟩ := Option.isSome_iff_exists.1 hc.2
    rw [run_equalIn_array w 9999 cs ds hu hi]
    exact eqItems_run 9998 hk hc.1 hx hy hb
  · cases hl
end

def beq2 (P : Program) (op : BinOp) (t : TypeId) (X Y : AV) : Option Value :=
  match X, Y with
  | .sv (.val (.bool a)), .sv (.val (.bool b)) => if (match P.underlying t with | some .bool => true | _ => false) = true then (match op with
    | .eql => some (.bool (a == b))
    | .neq => some (.bool (!(a == b)))
    | _ => none) else none
  | .sv (.agg xs), .sv (.agg ys) => match eqf P t with
    | some l => match aeq l xs ys with
      | some b => match op with
        | .eql => some (.bool b)
        | .neq => some (.bool (!b))
        | _ => none
      | none => none
    | none => none
  | _, _ => none
def convk (P : Program) (t : TypeId) (X : AV) : Option AV :=
  match P.underlying t, X with
  | some (.int k), .sv (.val (.int _ n)) => some (.sv (.val (.int k (k.wrap n))))
  | some .string, .sv (.val (.string s)) => some (.sv (.val (.string s)))
  | some .string, .sv (.val (.int _ n)) => some (.sv (.val (.string (Utf8.encode n))))
  | some (.float k), .sv (.val (.int _ n)) => some (.sv (.val (.float k (k.nearest n))))
  | _, _ => none

/-! ### Bytes as a string -/
def byteS : List SV → Option (List Int)
  | [] => some []
  | .val (.int .u8 n) :: l => (byteS l).map (n :: ·)
  | _ => none
def b8 (n : Int) : SV := .val (.int .u8 n)
theorem byteS_map : ∀ l : List Int, byteS (l.map b8) = some l
  | [] => rfl
  | n :: l => by
    have := byteS_map l
    simp only [List.map_cons, b8, byteS] at this ⊢
    rw [this]; rfl
theorem byteS_eq : ∀ {xs : List SV} {ns : List Int}, byteS xs = some ns → xs = ns.map b8
  | [], ns, h => by simp only [byteS, Option.some.injEq] at h; subst h; rfl
  | x :: xs, ns, h => by
    unfold byteS at h
    split at h
    · rename_i e; cases e
    · rename_i n l e
      simp only [List.cons.injEq] at e
      obtain ⟨rfl, rfl⟩ := e
      obtain ⟨ms, h1, rfl⟩ := Option.map_eq_some_iff.1 h
      rw [byteS_eq h1]; rfl
    · cases h
/-- The string of so many bytes. -/
def ofB (ns : List Int) : ByteArray := ns.foldl (fun r n => r.push (UInt8.ofNat n.toNat)) ByteArray.empty
def convS (P : Program) (st : St) (s t : TypeId) (X : AV) : Option AV := match selem P s, P.underlying t with
  | some e, some .string => match P.underlying e, (rowOf st X).bind byteS with
    | some (.int .u8), some ns => some (.sv (.val (.string (ofB ns))))
    | _, _ => none
  | _, _ => none
theorem bytes_vals {w : World} {ok : Nat → Prop} : ∀ {ns : List Int} {vs : List Value}, RepL w ok (ns.map b8) vs → vs = ns.map (Value.int .u8)
  | [], vs, h => by simpa only [List.map_nil, RepL] using h
  | n :: ns, vs, h => by
    simp only [List.map_cons, RepL] at h
    obtain ⟨v, vs', rfl, h1, h2⟩ := h
    simp only [b8, RepS] at h1
    rw [h1, bytes_vals h2]; rfl
theorem convS_run {P : Program} {keep : Nat → Prop} {w : World} {E : Env} {st : St} {a : Act} (hI : Inv keep w E st a) {s t : TypeId} {X Y : AV} (h : convS P st s t X = some Y) {v : Value} (hv : RepV w E (lk st.m) X v) :
    ∃ u, (convert s t v).run P w = .ok u w ∧ RepV w E (lk st.m) Y u := by
  unfold convS at h
  split at h
  case h_2 => cases h
  rename_i e he ht
  split at h
  case h_2 => cases h
  rename_i ns hu hb
  simp only [Option.some.injEq] at h; subst h
  obtain ⟨xs, hx, hb⟩ := Option.bind_eq_some_iff.1 hb
  have := byteS_eq hb; subst this
  obtain ⟨b, c, rfl, _, hor⟩ := src_rep hI hx hv
  refine ⟨_, ?_, RepV.val_mk _⟩
  rw [run_convert_bytes_string w s t e _ _ _ (selem_eq he).1 hu ht]
  rcases hor with h0 | ⟨ad, sz, vs, rfl, hr, hat⟩
  · have h0 : ns = [] := by simpa using h0
    subst h0
    cases b with
    | none => rfl
    | some ad =>
      have := run_bytesToString (P := P) w ad 0 c [] (run_loadCells_list w ad [] (fun j v hj => by simp at hj))
      simpa [ofB] using this
  · have := bytes_vals hr; subst this
    have hl := run_loadCells_list (P := P) w ad (ns.map (Value.int .u8)) (fun j v hj => by
      obtain ⟨k1, k2⟩ := hat j v hj
      obtain ⟨n, _, rfl⟩ := List.mem_map.1 (List.mem_of_getElem? hj)
      have hs : sz = 1 := by rw [← k1]; rfl
      have := k2 0 (.int .u8 n) rfl
      rw [Go.Deep.add_add, hs, Nat.mul_one, Nat.add_zero] at this
      exact this)
    have := run_bytesToString (P := P) w ad ns.length c ns (by simpa using hl)
    simpa [ofB] using this

/-- A condition, what is put, what is stored. -/
structure Dl where
  c : Prop
  x : Option AV
  m : Option (Nat × Obj')
def St.app (st : St) (dst : Option Nat) (d : Dl) : St :=
  let s := match d.x with
    | some x => st.put dst x
    | none => st
  match d.m with
  | some (t, o) => { s with m := up s.m t o }
  | none => s

def astoreO (P : Program) (st : St) (ty : TypeId) (X Y : AV) : Option (Nat × Obj') :=
  match Y.cells (lk st.m) with
  | some ys =>
    if (ys.length == tsz P ty && ys.all AV.one) = true then
      match X with
      | .box t off => match lk st.m t with
        | some (.box cs) => if off + ys.length ≤ cs.length then some (t, .box (setAt cs off ys)) else none
        | _ => none
      | .elt t i off => match lk st.m t with
        | some (.row k xs) => match xs[i]?, AV.svs ys with
          | some x, some zs => if (x.solid && zs.all SV.one) = true ∧ off + zs.length ≤ x.cells.length then some (t, .row k (xs.set i (x.withCells (setAt x.cells off zs)))) else none
          | _, _ => none
        | _ => none
      | _ => none
    else none
  | none => none
theorem astore_eq (P : Program) (st : St) (ty : TypeId) (X Y : AV) : astore P st ty X Y = (astoreO P st ty X Y).map fun p => up st.m p.1 p.2 := by
  unfold astore astoreO
  cases hy : Y.cells (lk st.m) with
  | none => rfl
  | some ys =>
    dsimp only
    by_cases c : (ys.length == tsz P ty && ys.all AV.one) = true
    · rw [if_pos c, if_pos c]
      cases X with
      | box t off =>
        dsimp only
        cases lk st.m t with
        | none => rfl
        | some o => cases o with
          | row k xs => rfl
          | box cs =>
            dsimp only
            by_cases h : off + ys.length ≤ cs.length
            · rw [if_pos h, if_pos h]; rfl
            · rw [if_neg h, if_neg h]; rfl
      | elt t i off =>
        dsimp only
        cases lk st.m t with
        | none => rfl
        | some o => cases o with
          | box cs => rfl
          | row k xs =>
            dsimp only
            cases xs[i]? with
            | none => rfl
            | some x => cases AV.svs ys with
              | none => rfl
              | some zs =>
                dsimp only
                by_cases h : (x.solid && zs.all SV.one) = true ∧ off + zs.length ≤ x.cells.length
                · rw [if_pos h, if_pos h]; rfl
                · rw [if_neg h, if_neg h]; rfl
      | _ => rfl
    · rw [if_neg c, if_neg c]; rfl

def caps1 (st : St) : List Operand → Option (List AV)
  | [] => some []
  | x :: xs => match aval st x, caps1 st xs with
    | some y, some ys => some (y :: ys)
    | _, _ => none

def dltB (P : Program) (st : St) (b : Builtin) (xs : List Operand) (ts : List TypeId) : Option Dl :=
  match b, xs, ts with
  | .len, [x], [ty] => match aval st x with
    | some (.sv (.val (.string s))) => match P.underlying ty with
      | some .string => some ⟨True, some (.sv (.val (.int .i64 s.size))), none⟩
      | _ => none
    | some X => match selem P ty, rowOf st X with
      | some _, some xs => some ⟨True, some (.sv (.val (.int .i64 xs.length))), none⟩
      | _, _ => none
    | none => none
  | .min, [x, y], [_, _] => match aval st x, aval st y with
    | some (.sv (.val (.int k m))), some (.sv (.val (.int k' n))) => if k = k' then some ⟨True, some (.sv (.val (.int k (if n < m then n else m)))), none⟩ else none
    | _, _ => none
  | .max, [x, y], [_, _] => match aval st x, aval st y with
    | some (.sv (.val (.int k m))), some (.sv (.val (.int k' n))) => if k = k' then some ⟨True, some (.sv (.val (.int k (if m < n then n else m)))), none⟩ else none
    | _, _ => none
  | _, _, _ => none

def idxA (P : Program) (st : St) (ty : TypeId) (X : AV) (n : Int) : Option Dl :=
  match X with
  | .own t => match selem P ty, lk st.m t with
      | some e, some (.row k xs) => if k = tsz P e then some ⟨0 ≤ n ∧ n < (xs.length : Int), some (.elt t n.toNat 0), none⟩ else none
      | _, _ => none
  | .sl t k => match selem P ty, lk st.m t with
      | some e, some (.box _) => if tsz P e = 1 then some ⟨0 ≤ n ∧ n < (k : Int), some (.box t n.toNat), none⟩ else none
      | _, _ => none
  | .sv (.lst xs) => match selem P ty with
      | some e => some ⟨(0 ≤ n ∧ n < (xs.length : Int)) ∧ (xs.getD n.toNat .any).solid = true ∧ (xs.getD n.toNat .any).cells.length = tsz P e, some (.sv (.ref (xs.getD n.toNat .any) 0)), none⟩
      | none => none
  | X => match aelem P ty with
      | some (len, e) => (ashift st (n.toNat * tsz P e) X).map fun Y => ⟨0 ≤ n ∧ n < (len : Int), some Y, none⟩
      | none => none

def dlt (P : Program) (o : Oper) (st : St) : Option Dl :=
  match o.op with
  | .move x | .assign x => (aval st x).map fun X => ⟨True, some X, none⟩
  | .pick c x y => match aval st c with
    | some (.sv (.val (.bool b))) => some ⟨True, some (if b = true then av0 st x else av0 st y), none⟩
    | _ => none
  | .load ty p => match (aval st p).bind (aload P st ty) with
    | some Y => if (P.underlying ty).isSome = true then some ⟨True, some Y, none⟩ else none
    | none => none
  | .store ty p y => match aval st p, aval st y, o.dst with
    | some X, some Y, none => match astoreO P st ty X Y with
      | some q => if (P.info? ty).isSome = true then some ⟨True, none, some q⟩ else none
      | none => none
    | _, _, _ => none
  | .binOp op t x y _ => match aval st x, aval st y with
    | some X, some Y => match binv op X Y with
      | some v => some ⟨True, some (.sv (.val v)), none⟩
      | none => match beq2 P op t X Y with
        | some v => some ⟨True, some (.sv (.val v)), none⟩
        | none => none
    | _, _ => none
  | .unOp .not _ x => match aval st x with
    | some (.sv (.val (.bool b))) => some ⟨True, some (.sv (.val (.bool (!b)))), none⟩
    | _ => none
  | .unOp .neg _ x => match aval st x with
    | some (.sv (.val (.int k n))) => some ⟨True, some (.sv (.val (.int k (k.wrap (0 - n))))), none⟩
    | _ => none
  | .convert s t x => match (aval st x).bind (convk P t) with
    | some Y => if (P.underlying s).isSome = true then some ⟨True, some Y, none⟩ else none
    | none => ((aval st x).bind (convS P st s t)).map fun Y => ⟨True, some Y, none⟩
  | .extract x i => match aval st x with
    | some (.tup xs) => xs[i]?.map fun y => ⟨True, some y, none⟩
    | _ => none
  | .fieldAddr ty x f => match aval st x, foff P ty f with
    | some X, some n => (ashift st n X).map fun Y => ⟨True, some Y, none⟩
    | _, _ => none
  | .nilCheck x => match aval st x with
    | some X => (ashift st 0 X).map fun _ => ⟨True, some X, none⟩
    | none => none
  | .indexAddr ty x y => match aval st x, (aval st y).bind AV.int with
    | some X, some p => idxA P st ty X p.2
    | _, _ => none
  | .field ty x f => match aval st x, ftype P ty f with
    | some (.sv (.agg xs)), some (t, n) => (apart P t xs n).map fun z => ⟨True, some (.sv z), none⟩
    | _, _ => none
  | .index ty x y => match aval st x, aval st y with
    | some (.sv (.agg xs)), some (.sv (.val (.int _ n))) => match aelem P ty with
      | some (len, e) => if (P.underlying e).isSome = true ∧ tagg P e = false then some ⟨(0 ≤ n ∧ n < (len : Int)) ∧ n.toNat * tsz P e < xs.length, some (.sv (xs.getD (n.toNat * tsz P e) .any)), none⟩ else none
      | none => none
    | some (.sv (.val (.string s))), some (.sv (.val (.int _ n))) => match P.underlying ty with
      | some .string => some ⟨0 ≤ n ∧ n < (s.size : Int), some (.sv (.val (.int .u8 (bt s n)))), none⟩
      | _ => none
    | _, _ => none
  | .slice ty x lo hi none => match aval st x with
    | some (.sv (.lst xs)) => match selem P ty, bnd st 0 lo, bnd st xs.length hi with
      | some e, some l, some h => some ⟨(0 ≤ l ∧ l ≤ h ∧ h ≤ (xs.length : Int)) ∧ ∀ z ∈ xs, z.fits (tsz P e) = true, some (.sv (.lst ((xs.take h.toNat).drop l.toNat))), none⟩
      | _, _, _ => none
    | some (.sv (.val (.string s))) => match P.underlying ty, bnd st 0 lo, bnd st s.size hi with
      | some .string, some l, some h => some ⟨0 ≤ l ∧ l ≤ h ∧ h ≤ (s.size : Int), some (.sv (.val (.string (s.extract l.toNat h.toNat)))), none⟩
      | _, _, _ => none
    | _ => none
  | .makeFunc (.func f) first caps => if first.size = 0 then (caps1 st caps.toList).map fun l => ⟨True, some (.fnv f l), none⟩ else none
  | .call { callee := .builtin b, args := xs, argTypes := ts } => dltB P st b xs.toList ts.toList
  | _ => none

theorem Does.ofPut {P : Program} {o : Oper} {st : St} {X : AV} {c : Prop} (h : Does P o st (st.put o.dst X)) : Does P o st (st.app o.dst ⟨c, some X, none⟩) := h

theorem binv_run {P : Program} {op : BinOp} {t : TypeId} {X Y : AV} {v : Value} (h : binv op X Y = some v) {w : World} {x y : Operand} {u1 u2 : Value} {E : Env} {m : Mem} (h1 : RepV w E m X u1) (h2 : RepV w E m Y u2) :
    (do eqGuard op t x y u1 u2; binOp op t u1 u2 : Sem Value).run P w = .ok v w := by
  unfold binv at h
  split at h
  · rename_i k a k' b
    rw [h1.val, h2.val]
    split at h
    · exact run_ishift (.inl rfl) h
    · exact run_ishift (.inr rfl) h
    · split at h
      · rename_i hk; subst hk; exact run_ibin (by constructor <;> assumption) h
      · cases h
  · rename_i a b
    rw [h1.val, h2.val]
    split at h <;> first | (simp only [Option.some.injEq] at h; subst h; simp [eqGuard, binOp, Op.stringOp]) | cases h
  · rename_i k a k' b
    rw [h1.val, h2.val]
    split at h
    case isFalse => cases h
    rename_i hk
    subst hk
    have hg : ∀ op, (eqGuard op t x y (.float k a) (.float k b)).run P w = .ok () w := fun op => by cases op <;> simp [eqGuard]
    rw [Sem.run_bind, hg]
    show (binOp op t (.float k a) (.float k b)).run P w = _
    cases op
    case eql => simp only [fbin, Option.some.injEq] at h; subst h; simp [binOp, Op.floatCmp, fEq]
    case neq => simp only [fbin, Option.some.injEq] at h; subst h; simp [binOp, Op.floatCmp, fEq, bne]
    case lss => simp only [fbin, Option.some.injEq] at h; subst h; simp [binOp, Op.floatCmp, fLt]
    case leq => simp only [fbin, Option.some.injEq] at h; subst h; simp [binOp, Op.floatCmp, fLt, fEq]
    case gtr => simp only [fbin, Option.some.injEq] at h; subst h; simp [binOp, Op.floatCmp, fGt]
    case geq => simp only [fbin, Option.some.injEq] at h; subst h; simp [binOp, Op.floatCmp, fGt, fEq]
    all_goals
      simp only [fbin] at h
      obtain ⟨r, hr, rfl⟩ := Option.map_eq_some_iff.1 h
      exact run_float_arith w _ t k a b r hr
  · cases h
theorem run_equal_bool {P : Program} {t : TypeId} {a b : Bool} {w : World} (hq : P.underlying t = some .bool) : (Op.equal t (.bool a) (.bool b)).run P w = .ok (a == b) w := by
  show (Op.equalIn (9999 + 1) t (.bool a) (.bool b)).run P w = _
  unfold Op.equalIn
  rw [Sem.run_bind, run_underlying hq]
  rfl
theorem beq2_run {P : Program} {op : BinOp} {t : TypeId} {X Y : AV} {v : Value} (h : beq2 P op t X Y = some v) {w : World} {x y : Operand} {u1 u2 : Value} {E : Env} {m : Mem} (h1 : RepV w E m X u1) (h2 : RepV w E m Y u2) :
    (do eqGuard op t x y u1 u2; binOp op t u1 u2 : Sem Value).run P w = .ok v w := by
  unfold beq2 at h
  split at h
  · rename_i a b
    rw [h1.val, h2.val]
    have hu : ∀ (c : Prop) [Decidable c] {z : Option Value}, (if (match P.underlying t with | some .bool => true | _ => false) = true then z else none) = some v → P.underlying t = some .bool ∧ z = some v := by
      intro c _ z hz
      cases hq : P.underlying t with
      | none => simp [hq] at hz
      | some q => cases q <;> simp [hq] at hz; exact ⟨rfl, hz⟩
    obtain ⟨hq, h⟩ := hu True h
    split at h <;> first | (simp only [Option.some.injEq] at h; subst h; simp [eqGuard, binOp, run_equal_bool hq]) | cases h
  · rename_i xs ys
    split at h
    case h_2 => cases h
    rename_i l hl
    split at h
    case h_2 => cases h
    rename_i b hb
    simp only [RepV, RepS] at h1 h2
    obtain ⟨cs, rfl, hx⟩ := h1
    obtain ⟨ds, rfl, hy⟩ := h2
    obtain ⟨hg, hrun⟩ := aeq_run hl hb hx hy
    rw [Sem.run_bind, run_eqGuard_agg w op t x y cs ds hg]
    split at h
    · simp only [Option.some.injEq] at h; subst h
      simp [run_eql_struct, hrun]
    · simp only [Option.some.injEq] at h; subst h
      simp [run_neq_struct, hrun]
    · cases h
  · cases h

theorem caps1_rep {kp : Nat → Prop} {w : World} {E : Env} {st : St} {a : Act} (hI : Inv kp w E st a) : ∀ {l : List Operand} {ys : List AV}, caps1 st l = some ys → RepVL w E (lk st.m) ys (l.map a.eval)
  | [], ys, h => by simp only [caps1, Option.some.injEq] at h; subst h; exact RepVL.nil
  | x :: xs, ys, h => by
    simp only [caps1] at h
    split at h
    · rename_i y ys' h1 h2
      simp only [Option.some.injEq] at h; subst h
      exact RepVL.cons (aval_rep hI h1) (caps1_rep hI h2)
    · cases h

theorem dlt_does {P : Program} {o : Oper} {st : St} {d : Dl} (h : dlt P o st = some d) (hc : d.c) (hd : st.fitsDst o.dst = true) : Does P o st (st.app o.dst d) := by
  unfold dlt at h
  split at h
  · rename_i x ho; obtain ⟨X, hX, rfl⟩ := Option.map_eq_some_iff.1 h; exact does_move (.inl ho) hX hd
  · rename_i x ho; obtain ⟨X, hX, rfl⟩ := Option.map_eq_some_iff.1 h; exact does_move (.inr ho) hX hd
  · rename_i c x y ho
    split at h
    · rename_i b hb
      simp only [Option.some.injEq] at h; subst h
      refine Does.puts hd fun keep w E a hI => ⟨if b = true then a.eval x else a.eval y, ?_, ?_⟩
      · have h1 := (aval_rep hI hb).val
        unfold execOp
        rw [ho]
        simp only [h1]
        cases b <;> simp [asBool]
      · cases b
        · simpa using av0_rep hI y
        · simpa using av0_rep hI x
    · cases h
  · rename_i ty p ho
    split at h
    case h_2 => cases h
    rename_i Y hY
    split at h
    case isFalse => cases h
    rename_i hu
    simp only [Option.some.injEq] at h; subst h
    obtain ⟨X, hX, hY⟩ := Option.bind_eq_some_iff.1 hY
    exact does_load ho hX hu hY hd
  · rename_i ty p y ho
    split at h
    case h_2 => cases h
    rename_i X Y hX hY hdst
    split at h
    case h_2 => cases h
    rename_i q hq
    split at h
    case isFalse => cases h
    rename_i hi
    simp only [Option.some.injEq] at h; subst h
    exact does_store ho hdst hX hY hi (by rw [astore_eq, hq]; rfl)
  · rename_i op t x y ty ho
    split at h
    case h_2 => cases h
    rename_i X Y hX hY
    have key : ∀ v, (∀ (keep : Nat → Prop) (w : World) (E : Env) (a : Act), Inv keep w E st a → (do eqGuard op t x y (a.eval x) (a.eval y); binOp op t (a.eval x) (a.eval y) : Sem Value).run P w = .ok v w) → Does P o st (st.put o.dst (.sv (.val v))) := fun v hv =>
      Does.puts hd fun keep w E a hI => ⟨v, by
        unfold execOp
        rw [ho]
        dsimp only
        rw [Sem.run_bind, hv keep w E a hI]
        rfl, RepV.val_mk v⟩
    split at h
    · rename_i v hv
      simp only [Option.some.injEq] at h; subst h
      exact key v fun keep w E a hI => binv_run hv (aval_rep hI hX) (aval_rep hI hY)
    · split at h
      · rename_i v hv
        simp only [Option.some.injEq] at h; subst h
        exact key v fun keep w E a hI => beq2_run hv (aval_rep hI hX) (aval_rep hI hY)
      · cases h
  · rename_i t x ho
    split at h
    · rename_i b hb
      simp only [Option.some.injEq] at h; subst h
      exact does_not ho hb rfl hd
    · cases h
  · rename_i t x ho
    split at h
    · rename_i k n hb
      simp only [Option.some.injEq] at h; subst h
      exact does_neg ho hb rfl hd
    · cases h
  · rename_i s t x ho
    split at h
    case h_2 =>
      obtain ⟨Y, hY, rfl⟩ := Option.map_eq_some_iff.1 h
      obtain ⟨X, hX, hY⟩ := Option.bind_eq_some_iff.1 hY
      refine Does.puts hd fun keep w E a hI => ?_
      obtain ⟨u, h1, h2⟩ := convS_run hI hY (aval_rep hI hX)
      refine ⟨u, ?_, h2⟩
      unfold execOp
      rw [ho]
      dsimp only
      rw [Sem.run_bind, h1]
      rfl
    rename_i Y hY
    split at h
    case isFalse => cases h
    rename_i hs
    obtain ⟨ds, hs⟩ := Option.isSome_iff_exists.1 hs
    simp only [Option.some.injEq] at h; subst h
    obtain ⟨X, hX, hY⟩ := Option.bind_eq_some_iff.1 hY
    unfold convk at hY
    split at hY
    · rename_i k k' n hu
      simp only [Option.some.injEq] at hY; subst hY
      refine Does.puts hd fun keep w E a hI => ⟨.int k (k.wrap n), ?_, RepV.val_mk _⟩
      have h1 := (aval_rep hI hX).val
      unfold execOp
      rw [ho]
      simp only [h1]
      cases ds <;> simp [convert, run_underlying hs, run_underlying hu, Conv.intToInt]
    · rename_i z hu
      simp only [Option.some.injEq] at hY; subst hY
      refine Does.puts hd fun keep w E a hI => ⟨.string z, ?_, RepV.val_mk _⟩
      have h1 := (aval_rep hI hX).val
      unfold execOp
      rw [ho]
      simp only [h1]
      cases ds <;> simp [convert, run_underlying hs, run_underlying hu]
    · rename_i k n hu
      simp only [Option.some.injEq] at hY; subst hY
      refine Does.puts hd fun keep w E a hI => ⟨.string (Utf8.encode n), ?_, RepV.val_mk _⟩
      have h1 := (aval_rep hI hX).val
      unfold execOp
      rw [ho]
      simp only [h1]
      cases ds <;> simp [convert, run_underlying hs, run_underlying hu, Conv.intToString]
    · rename_i k k' n hu
      simp only [Option.some.injEq] at hY; subst hY
      refine Does.puts hd fun keep w E a hI => ⟨.float k (k.nearest n), ?_, RepV.val_mk _⟩
      have h1 := (aval_rep hI hX).val
      unfold execOp
      rw [ho]
      simp only [h1]
      cases ds <;> simp [convert, run_underlying hs, run_underlying hu, Conv.intToFloat]
    · cases hY
  · rename_i x i ho
    split at h
    case h_2 => cases h
    rename_i xs hx
    obtain ⟨y, hy, rfl⟩ := Option.map_eq_some_iff.1 h
    exact does_extract ho hx hy hd
  · rename_i ty x f ho
    split at h
    case h_2 => cases h
    rename_i X n hX hn
    obtain ⟨Y, hY, rfl⟩ := Option.map_eq_some_iff.1 h
    exact does_fieldAddr ho hX hn hY hd
  · rename_i x ho
    split at h
    case h_2 => cases h
    rename_i X hX
    obtain ⟨Y, hY, rfl⟩ := Option.map_eq_some_iff.1 h
    exact does_nilCheck ho hX hY hd
  · rename_i ty x y ho
    split at h
    case h_2 => cases h
    rename_i X p hX hp
    obtain ⟨Y, hY, hp⟩ := Option.bind_eq_some_iff.1 hp
    obtain ⟨k, n⟩ := p
    have hy := hY
    rw [AV.int_eq hp] at hy
    unfold idxA at h
    split at h
    · rename_i t
      split at h
      case h_2 => cases h
      rename_i e k' xs he hm
      split at h
      case isFalse => cases h
      rename_i hk
      subst hk
      simp only [Option.some.injEq] at h; subst h
      exact does_indexAddr_own ho hX he hm hy hc hd
    · rename_i t k'
      split at h
      case h_2 => cases h
      rename_i e cs he hm
      split at h
      case isFalse => cases h
      rename_i hk
      simp only [Option.some.injEq] at h; subst h
      exact does_indexAddr_sl ho hX he hk hm hy hc hd
    · rename_i xs
      split at h
      case h_2 => cases h
      rename_i e he
      simp only [Option.some.injEq] at h; subst h
      obtain ⟨⟨c1, c2⟩, c3⟩ := hc
      have hlt : n.toNat < xs.length := by omega
      have hg : xs[n.toNat]? = some (xs.getD n.toNat .any) := by rw [List.getD_eq_getElem?_getD, List.getElem?_eq_getElem hlt]; rfl
      exact does_indexAddr_lst ho hX hy he c1 hg c3 hd
    · rename_i hnot1 hnot2 hnot3
      split at h
      case h_2 => cases h
      rename_i len e he
      obtain ⟨Y, hY, rfl⟩ := Option.map_eq_some_iff.1 h
      exact does_indexAddr_arr ho hX hy he hc hY hd
  · rename_i ty x f ho
    split at h
    case h_2 => cases h
    rename_i xs t n hx hf
    obtain ⟨z, hz, rfl⟩ := Option.map_eq_some_iff.1 h
    exact does_field ho hx hf hz hd
  · rename_i ty x y ho
    split at h
    · rename_i xs k n hx hy
      split at h
      case h_2 => cases h
      rename_i len e he
      split at h
      case isFalse => cases h
      rename_i hu
      simp only [Option.some.injEq] at h; subst h
      refine does_index_arr ho hx hy he hu.1 hc.1 ?_ hd
      unfold apart
      rw [hu.2, if_neg (by simp), List.getD_eq_getElem?_getD, List.getElem?_eq_getElem hc.2]
      rfl
    · rename_i s k n hx hy
      split at h
      · rename_i hu
        simp only [Option.some.injEq] at h; subst h
        exact does_index_str ho hx hy hu hc hd
      · cases h
    · cases h
  · rename_i ty x lo hi ho
    split at h
    · rename_i xs hx
      split at h
      case h_2 => cases h
      rename_i e l h' he hl hh
      simp only [Option.some.injEq] at h; subst h
      exact does_slice ho hx he hl hh hc.1 hc.2 hd
    · rename_i s hx
      split at h
      · rename_i l h' hu hl hh
        simp only [Option.some.injEq] at h; subst h
        exact does_slice_str ho hx hu hl hh hc hd
      · cases h
    · cases h
  · rename_i f first caps ho
    split at h
    case isFalse => cases h
    rename_i hfi
    obtain ⟨ys, hys, rfl⟩ := Option.map_eq_some_iff.1 h
    refine Does.puts hd fun keep w E a hI => ⟨.func (.func f) #[] (caps.map a.eval), ?_, ?_⟩
    · have : first = #[] := Array.eq_empty_of_size_eq_zero hfi
      unfold execOp
      rw [ho]
      simp [Instr.makeFunc, this]
    · simp only [RepV]
      exact ⟨_, rfl, by simpa using caps1_rep hI hys⟩
  · rename_i b xs ts ho
    unfold dltB at h
    split at h
    · rename_i x ty hxs hts
      have e1 : xs = #[x] := Array.toList_inj.1 (by simpa using hxs)
      have e2 : ts = #[ty] := Array.toList_inj.1 (by simpa using hts)
      subst e1; subst e2
      split at h
      · rename_i s hx
        split at h
        · rename_i hu
          simp only [Option.some.injEq] at h; subst h
          exact does_len_str ho hx hu hd
        · cases h
      · rename_i X hnot hx
        split at h
        case h_2 => cases h
        rename_i e xs he hxs
        simp only [Option.some.injEq] at h; subst h
        exact does_len ho hx he hxs hd
      · cases h
    · rename_i x y t1 t2 hxs hts
      have e1 : xs = #[x, y] := Array.toList_inj.1 (by simpa using hxs)
      have e2 : ts = #[t1, t2] := Array.toList_inj.1 (by simpa using hts)
      subst e1; subst e2
      split at h
      case h_2 => cases h
      rename_i k m k' n hx hy
      split at h
      case isFalse => cases h
      rename_i hk
      subst hk
      simp only [Option.some.injEq] at h; subst h
      exact does_min ho hx hy hd
    · rename_i x y t1 t2 hxs hts
      have e1 : xs = #[x, y] := Array.toList_inj.1 (by simpa using hxs)
      have e2 : ts = #[t1, t2] := Array.toList_inj.1 (by simpa using hts)
      subst e1; subst e2
      split at h
      case h_2 => cases h
      rename_i k m k' n hx hy
      split at h
      case isFalse => cases h
      rename_i hk
      subst hk
      simp only [Option.some.injEq] at h; subst h
      exact does_max ho hx hy hd
    · cases h
  · cases h
end Go.Proofs.Ytnkcenafpigmbaa.Ab

namespace Go.Proofs.Ytnkcenafpigmbaa.Ab
open Go.RowKit
set_option linter.unusedVariables false
set_option linter.unusedSimpArgs false

theorem does_build0 {P : Program} {o : Oper} {st : St} {d : Nat} {e ty : TypeId} (ho : o.op = .buildSlice ty 0 #[]) (hd : o.dst = some d) (hf : st.fresh d = true) (hn : d < st.n) (he : selem P ty = some e) (hp : 0 < tsz P e) :
    Does P o st { st with t := up st.t d (.own d), m := up st.m d (.row (tsz P e) []) } := by
  intro keep w E a hI
  obtain ⟨hu, hi⟩ := selem_eq he
  have hrun : (execOp a.eval o).run P w = .ok (.value (.slice (some ⟨w.heap.size, 0, none⟩) 0 0)) (w.alloc (.cells #[] e)) := by
    unfold execOp
    rw [ho]
    simp [Instr.buildSlice, run_underlying hu, run_sizeOf hi, Instr.fill, newRow, Array.range_zero']
  refine ⟨_, _, E.set d (some (w.heap.size, 0, tsz P e)), .inl hrun, ?_, Evo.grow hI ⟨rfl, rfl, rfl⟩ (by simp) (fun j hj => Go.heap_alloc_old w (.cells #[] e) hj) rfl (Env.set_pin (St.fresh_pin hf))⟩
  rw [hd]
  exact row_new (e := e) (w' := w.alloc (.cells #[] e)) hI hf hn [] [] 0 (tsz P e) #[] (by simp) (fun i hi => Go.heap_alloc_old w _ hi) (Go.heap_alloc_new w _) RepL.nil hp (fun _ => rfl) (Nat.le_refl _) (by simp [maxLen]) (by simp) (fun i u hu => by simp at hu)

/-- What is made: a condition, and the state behind. -/
structure Mk where
  c : Prop
  st : St
def crtA (P : Program) (st : St) (d : Nat) (xs : List Operand) (ts : List TypeId) : Option Mk :=
  match xs, ts with
  | [x, y], [ty, ty'] => match selem P ty, (aval st y).bind (rowOf st) with
    | some e, some ys => match tzero P e with
      | some z => if ty = ty' ∧ z.cells.size = tsz P e ∧ 0 < tsz P e then
          (match aval st x with
          | some .nil => some ⟨(st.fresh d = true ∧ d < st.n) ∧ (∀ u ∈ ys, u.fits (tsz P e) = true) ∧ ys.length * (tby P e + 1) ≤ 140737488355328, { st with t := up st.t d (.own d), m := up st.m d (.row (tsz P e) ys) }⟩
          | some (.own t) => match lk st.m t with
            | some (.row k zs) => if k = tsz P e then some ⟨(st.fresh d = true ∧ d < st.n) ∧ (∀ u ∈ ys, u.fits (tsz P e) = true) ∧ (zs.length + ys.length) * (tby P e + 1) ≤ 140737488355328, { st with t := up st.t d (.own d), m := up (rm st.m t) d (.row (tsz P e) (zs ++ ys)) }⟩ else none
            | _ => none
          | _ => none)
        else none
      | none => none
    | _, _ => none
  | _, _ => none
def crt (P : Program) (o : Oper) (st : St) : Option Mk :=
  match o.dst with
  | none => none
  | some d => match o.op with
    | .alloc e => (tzero P e).map fun z => ⟨st.fresh d = true ∧ d < st.n, { st with t := up st.t d (.box d 0), m := up st.m d (.box (z.cells.toList.map avC)) }⟩
    | .box e x => ((aval st x).bind (AV.cells (lk st.m))).map fun cs => ⟨st.fresh d = true ∧ d < st.n, { st with t := up st.t d (.box d 0), m := up st.m d (.box cs) }⟩
    | .makeSlice ty x y => match aval st x, aval st y, selem P ty with
      | some (.sv (.val (.int _ n))), some (.sv (.val (.int _ n'))), some e => match tzero P e with
        | some z => if (zeroSV z).fits (tsz P e) = true ∧ tsz P e ≠ 0 then some ⟨(st.fresh d = true ∧ d < st.n) ∧ n' = n ∧ 0 ≤ n ∧ n.toNat * (tby P e + 1) ≤ 140737488355328, { st with t := up st.t d (.own d), m := up st.m d (.row (tsz P e) (List.replicate n.toNat (zeroSV z))) }⟩ else none
        | none => none
      | _, _, _ => none
    | .buildSlice ty len ps => match selem P ty with
      | some e => match tzero P e with
        | some z => if (zeroSV z).fits (tsz P e) = true ∧ tsz P e ≠ 0 ∧ len * tsz P e ≤ 65536 then
            (if len = 0 then (if ps.size = 0 then some ⟨st.fresh d = true ∧ d < st.n, { st with t := up st.t d (.own d), m := up st.m d (.row (tsz P e) []) }⟩ else none)
            else (aparts st (tsz P e) (List.replicate len (zeroSV z)) ps.toList).map fun xs => ⟨st.fresh d = true ∧ d < st.n, { st with t := up st.t d (.own d), m := up st.m d (.row (tsz P e) xs) }⟩)
          else none
        | none => none
      | none => none
    | .build ty ps => match tzero P ty, splaces P ty with
      | some z, some pl => (afill st (fun i => pl[i]?) (z.cells.toList.map svC) ps.toList).map fun xs => ⟨d < st.n, st.put (some d) (.sv (.agg xs))⟩
      | _, _ => none
    | .slice ty x lo (some (.const (.int _ h))) (some (.const (.int _ m))) => if h = 0 ∧ m = 0 then (match (aval st x).bind (rowOf st), selem P ty, bnd st 0 lo with
      | some _, some e, some l => if l = 0 ∧ 0 < tsz P e then some ⟨st.fresh d = true ∧ d < st.n, { st with t := up st.t d (.own d), m := up st.m d (.row (tsz P e) []) }⟩ else none
      | _, _, _ => none) else none
    | .call { callee := .builtin .append, args := xs, argTypes := ts } => crtA P st d xs.toList ts.toList
    | _ => none
theorem crt_does {P : Program} {o : Oper} {st : St} {m : Mk} (h : crt P o st = some m) (hc : m.c) : Does P o st m.st := by
  unfold crt at h
  split at h
  case h_1 => cases h
  rename_i d hd
  split at h
  · rename_i e ho
    obtain ⟨z, hz, rfl⟩ := Option.map_eq_some_iff.1 h
    exact does_alloc ho hd hc.1 hc.2 hz
  · rename_i e x ho
    obtain ⟨cs, hcs, rfl⟩ := Option.map_eq_some_iff.1 h
    obtain ⟨X, hX, hcs⟩ := Option.bind_eq_some_iff.1 hcs
    exact does_box ho hd hc.1 hc.2 hX hcs
  · rename_i ty x y ho
    split at h
    case h_2 => cases h
    rename_i k n k' n' e hx hy he
    split at h
    case h_2 => cases h
    rename_i z hz
    split at h
    case isFalse => cases h
    rename_i hf
    simp only [Option.some.injEq] at h; subst h
    obtain ⟨⟨c1, c2⟩, rfl, c3, c4⟩ := hc
    exact does_make ho hd c1 c2 hx hy he hz c3 c4 hf.1 hf.2
  · rename_i ty len ps ho
    split at h
    case h_2 => cases h
    rename_i e he
    split at h
    case h_2 => cases h
    rename_i z hz
    split at h
    case isFalse => cases h
    rename_i hf
    split at h
    · rename_i hl
      split at h
      case isFalse => cases h
      rename_i hps
      have hps' : ps = #[] := Array.eq_empty_of_size_eq_zero hps
      subst hl; subst hps'
      simp only [Option.some.injEq] at h; subst h
      exact does_build0 ho hd hc.1 hc.2 he (by omega)
    · rename_i hl
      obtain ⟨xs, hxs, rfl⟩ := Option.map_eq_some_iff.1 h
      exact does_buildSlice ho hd hc.1 hc.2 he hz hf.1 hf.2.1 hl hf.2.2 hxs
  · rename_i ty ps ho
    split at h
    case h_2 => cases h
    rename_i z pl hz hpl
    obtain ⟨xs, hxs, rfl⟩ := Option.map_eq_some_iff.1 h
    rw [← hd]
    exact does_build ho hz hpl hxs (by rw [hd]; simpa [St.fitsDst] using hc)
  · rename_i ty x lo k1 h1 k2 m1 ho
    split at h
    case isFalse => cases h
    rename_i h0
    obtain ⟨rfl, rfl⟩ := h0
    split at h
    case h_2 => cases h
    rename_i xs e l hxs he hl
    split at h
    case isFalse => cases h
    rename_i h0
    obtain ⟨rfl, h0⟩ := h0
    simp only [Option.some.injEq] at h; subst h
    obtain ⟨X, hX, hxs⟩ := Option.bind_eq_some_iff.1 hxs
    exact does_slice0 (sz := 0) ho hX hxs he hl hd hc.1 hc.2 h0
  · rename_i xs ts ho
    unfold crtA at h
    split at h
    case h_2 => cases h
    rename_i x y ty ty' hxs hts
    have e1 : xs = #[x, y] := Array.toList_inj.1 (by simpa using hxs)
    have e2 : ts = #[ty, ty'] := Array.toList_inj.1 (by simpa using hts)
    subst e1; subst e2
    split at h
    case h_2 => cases h
    rename_i e ys he hys
    split at h
    case h_2 => cases h
    rename_i z hz
    split at h
    case isFalse => cases h
    rename_i hq
    obtain ⟨rfl, q1, q2⟩ := hq
    obtain ⟨Y, hY, hys⟩ := Option.bind_eq_some_iff.1 hys
    split at h
    · rename_i hx
      simp only [Option.some.injEq] at h; subst h
      exact does_append_nil ho hd hc.1.1 hc.1.2 he hz q1 q2 hx hY hys hc.2.1 hc.2.2
    · rename_i t hx
      split at h
      · rename_i k zs hm
        split at h
        case isFalse => cases h
        rename_i hk
        subst hk
        simp only [Option.some.injEq] at h; subst h
        exact does_append_own ho hd hc.1.1 hc.1.2 he hz q1 q2 hx hm hY hys hc.2.1 hc.2.2
      · cases h
    · cases h
  · cases h

/-! ### Code, run by itself -/
inductive Fr where
  | seq (y : Code)
  | blk (id : Nat)
  | scp
def kq (P : Program) (Q : Exit → St → Prop) : List Fr → Exit → St → Prop
  | [] => Q
  | .seq y :: k => thenQ (Tr P y (kq P Q k)) (kq P Q k)
  | .blk id :: k => blockQ id (kq P Q k)
  | .scp :: k => scopeQ (kq P Q k)
/-- Code, and what is to be done behind it. -/
def TrK (P : Program) (Q : Exit → St → Prop) (c : Code) (k : List Fr) (st : St) : Prop := Tr P c (kq P Q k) st
/-- The rest of a region, and what is to be done behind it. -/
def RnK (P : Program) (Q : Exit → St → Prop) (ops : Array Oper) (l : List Oper) (k : List Fr) (st : St) : Prop := Rn P ops l (fun st' => kq P Q k .normal st') st
def CondW (P : Program) (Q : Exit → St → Prop) (b : Bool) (x y : Code) (k : List Fr) (st : St) : Prop := (b = true → TrK P Q x k st) ∧ (b = false → TrK P Q y k st)
def LoopW (P : Program) (Q : Exit → St → Prop) (c : Code) (k : List Fr) (st : St) : Prop := TrK P Q (.loop c) k st
def DrawW (P : Program) (Q : Exit → St → Prop) (id : Nat) (ops : Array Oper) (k : List Fr) (st : St) : Prop := TrK P Q (.region id ops true) k st
def GuardW (P : Program) (Q : Exit → St → Prop) (ops : Array Oper) (o : Oper) (l : List Oper) (k : List Fr) (st : St) : Prop := RnK P Q ops (o :: l) k st
def OpW (P : Program) (Q : Exit → St → Prop) (ops : Array Oper) (o : Oper) (l : List Oper) (k : List Fr) (st : St) : Prop := RnK P Q ops (o :: l) k st

def popTo (id : Nat) : List Fr → Option (List Fr)
  | [] => none
  | .seq _ :: k => popTo id k
  | .blk i :: k => if i = id then some k else popTo id k
  | .scp :: k => popTo id k
theorem popTo_spec {P : Program} {Q : Exit → St → Prop} {id : Nat} {st : St} : ∀ {k k' : List Fr}, popTo id k = some k' → kq P Q k' .normal st → kq P Q k (.exit id) st
  | [], k', h, _ => by simp [popTo] at h
  | .seq y :: k, k', h, hq => by
    simp only [popTo] at h
    simp only [kq, thenQ]
    exact popTo_spec h hq
  | .blk i :: k, k', h, hq => by
    simp only [popTo] at h
    simp only [kq, blockQ]
    split at h
    · rename_i e; simp only [Option.some.injEq] at h; subst h; rw [if_pos e.symm]; exact hq
    · rename_i e; rw [if_neg (Ne.symm e)]; exact popTo_spec h hq
  | .scp :: k, k', h, hq => by
    simp only [popTo] at h
    simp only [kq, scopeQ]
    exact popTo_spec h hq
theorem popNone_spec {P : Program} {Q : Exit → St → Prop} {id : Nat} {st : St} : ∀ {k : List Fr}, popTo id k = none → Q (.exit id) st → kq P Q k (.exit id) st
  | [], _, hq => hq
  | .seq y :: k, h, hq => by
    simp only [popTo] at h
    simp only [kq, thenQ]
    exact popNone_spec h hq
  | .blk i :: k, h, hq => by
    simp only [popTo] at h
    simp only [kq, blockQ]
    split at h
    · cases h
    · rename_i e; rw [if_neg (Ne.symm e)]; exact popNone_spec h hq
  | .scp :: k, h, hq => by
    simp only [popTo] at h
    simp only [kq, scopeQ]
    exact popNone_spec h hq
theorem ret_spec {P : Program} {Q : Exit → St → Prop} {st : St} : ∀ {k : List Fr}, Q .ret st → kq P Q k .ret st
  | [], hq => hq
  | .seq y :: k, hq => by simp only [kq, thenQ]; exact ret_spec hq
  | .blk i :: k, hq => by simp only [kq, blockQ]; exact ret_spec hq
  | .scp :: k, hq => by simp only [kq, scopeQ]; exact ret_spec hq

def csz : Code → Nat
  | .seq a b => csz a + csz b + 2
  | .cond _ a b => csz a + csz b + 2
  | .block _ a => csz a + 2
  | .loop a => csz a + 2
  | .scope a => csz a + 2
  | .region _ ops _ => 2 * ops.size + 3
  | _ => 1
def ksz : List Fr → Nat
  | [] => 0
  | .seq y :: k => csz y + 1 + ksz k
  | .blk _ :: k => 1 + ksz k
  | .scp :: k => 1 + ksz k
theorem ksz_pop {id : Nat} : ∀ {k k' : List Fr}, popTo id k = some k' → ksz k' ≤ ksz k
  | [], k', h => by simp [popTo] at h
  | .seq y :: k, k', h => by simp only [popTo] at h; have := ksz_pop h; simp only [ksz]; omega
  | .blk i :: k, k', h => by
    simp only [popTo] at h
    split at h
    · simp only [Option.some.injEq] at h; subst h; simp only [ksz]; omega
    · have := ksz_pop h; simp only [ksz]; omega
  | .scp :: k, k', h => by simp only [popTo] at h; have := ksz_pop h; simp only [ksz]; omega

mutual
/-- Code is run, as far as it goes by itself. -/
def ex (P : Program) (Q : Exit → St → Prop) (c : Code) (k : List Fr) (st : St) : Prop :=
  match c with
  | .skip => nr P Q k st
  | .seq a b => ex P Q a (.seq b :: k) st
  | .block id a => ex P Q a (.blk id :: k) st
  | .scope a => ex P Q a (.scp :: k) st
  | .cond c a b => match aval st c with
    | some (.sv (.val (.bool x))) => cnd P Q x a b k st
    | _ => False
  | .exit id => match h : popTo id k with
    | some k' => nr P Q k' st
    | none => Q (.exit id) st
  | .ret => Q .ret st
  | .region id ops draw => if draw = true then DrawW P Q id ops k st else rn P Q ops ops.toList k st
  | .loop c => LoopW P Q c k st
  | .label _ => nr P Q k st
  | _ => False
  termination_by (csz c + ksz k, 2)
  decreasing_by
  all_goals simp only [csz, ksz, Prod.lex_def]
  all_goals first | omega | (have := ksz_pop h; omega) | (simp; omega)
/-- A test: known, or to be parted. -/
def cnd (P : Program) (Q : Exit → St → Prop) (x : Bool) (a b : Code) (k : List Fr) (st : St) : Prop :=
  match x with
  | true => ex P Q a k st
  | false => ex P Q b k st
  termination_by (csz a + csz b + ksz k + 1, 0)
  decreasing_by
  all_goals simp only [csz, ksz, Prod.lex_def]
  all_goals omega
def nr (P : Program) (Q : Exit → St → Prop) (k : List Fr) (st : St) : Prop :=
  match k with
  | [] => Q .normal st
  | .seq y :: k => ex P Q y k st
  | .blk _ :: k => nr P Q k st
  | .scp :: k => nr P Q k st
  termination_by (ksz k, 0)
  decreasing_by
  all_goals simp only [csz, ksz, Prod.lex_def]
  all_goals omega
def rn (P : Program) (Q : Exit → St → Prop) (ops : Array Oper) (l : List Oper) (k : List Fr) (st : St) : Prop :=
  match l with
  | [] => nr P Q k st
  | o :: l => match grd ops st o with
    | some b => gd P Q b ops o l k st
    | none => False
  termination_by (ksz k + 2 * l.length + 1, 0)
  decreasing_by
  all_goals simp only [csz, ksz, Prod.lex_def, List.length_cons]
  all_goals omega
/-- An operation that is wanted, or not. -/
def gd (P : Program) (Q : Exit → St → Prop) (b : Bool) (ops : Array Oper) (o : Oper) (l : List Oper) (k : List Fr) (st : St) : Prop :=
  match b with
  | true => match dlt P o st with
      | some d => (d.c ∧ st.fitsDst o.dst = true) ∧ rn P Q ops l k (st.app o.dst d)
      | none => match crt P o st with
        | some m => m.c ∧ rn P Q ops l k m.st
        | none => OpW P Q ops o l k st
  | false => st.fitsDst o.dst = true ∧ rn P Q ops l k (st.put o.dst (.sv (.val undef)))
  termination_by (ksz k + 2 * l.length + 2, 0)
  decreasing_by
  all_goals simp only [csz, ksz, Prod.lex_def, List.length_cons]
  all_goals omega
end

/-- What is run by itself, holds. -/
theorem run_sound {P : Program} {Q : Exit → St → Prop} : ∀ (n : Nat),
    (∀ c k st, csz c + ksz k < n → ex P Q c k st → TrK P Q c k st) ∧ (∀ k st, ksz k < n → nr P Q k st → kq P Q k .normal st) ∧
    (∀ ops l k st, ksz k + 2 * l.length + 1 < n → rn P Q ops l k st → RnK P Q ops l k st) ∧ (∀ b ops o l k st, ksz k + 2 * l.length + 2 < n → grd ops st o = some b → gd P Q b ops o l k st → RnK P Q ops (o :: l) k st)
  | 0 => ⟨fun _ _ _ h => by omega, fun _ _ h => by omega, fun _ _ _ _ h => by omega, fun _ _ _ _ _ _ h => by omega⟩
  | n + 1 => by
    obtain ⟨h1, h2, h3, h4⟩ := run_sound (P := P) (Q := Q) n
    have hnr : ∀ k st, ksz k < n + 1 → nr P Q k st → kq P Q k .normal st := fun k => by
      induction k with
      | nil => intro st _ h; simpa only [nr, kq] using h
      | cons f k ih =>
        intro st hs h
        cases f with
        | seq y =>
          simp only [nr] at h
          simp only [ksz] at hs
          exact h1 y k st (by omega) h
        | blk id =>
          simp only [nr] at h
          simp only [ksz] at hs
          exact ih st (by omega) h
        | scp =>
          simp only [nr] at h
          simp only [ksz] at hs
          exact ih st (by omega) h
    have hgd : ∀ b ops o l k st, ksz k + 2 * l.length + 2 < n + 1 → grd ops st o = some b → gd P Q b ops o l k st → RnK P Q ops (o :: l) k st := fun b ops o l k st hs hg h => by
      cases b with
      | true =>
        simp only [gd] at h
        split at h
        · rename_i d hd
          exact Rn.step hg (dlt_does hd h.1.1 h.1.2) (h3 ops l k _ (by omega) h.2)
        · split at h
          · rename_i m hm
            exact Rn.step hg (crt_does hm h.1) (h3 ops l k _ (by omega) h.2)
          · exact h
      | false =>
        simp only [gd] at h
        exact Rn.skip hg h.1 (h3 ops l k _ (by omega) h.2)
    have hrn : ∀ ops l k st, ksz k + 2 * l.length + 1 < n + 1 → rn P Q ops l k st → RnK P Q ops l k st := fun ops l k st hs h => by
      cases l with
      | nil => simp only [rn] at h; exact Rn.nil (hnr k st (by omega) h)
      | cons o l =>
        simp only [rn] at h
        simp only [List.length_cons] at hs
        split at h
        · rename_i b hg; exact hgd b ops o l k st (by omega) hg h
        · exact h.elim
    refine ⟨fun c k st hs h => ?_, hnr, hrn, hgd⟩
    cases c with
    | skip => simp only [ex] at h; exact Tr.skip (hnr k st (by simp only [csz] at hs; omega) h)
    | region id ops draw =>
      simp only [ex] at h
      split at h
      · rename_i hd; subst hd; exact h
      · rename_i hd
        have hd' : draw = false := by simpa using hd
        subst hd'
        have := hrn ops ops.toList k st (by simp only [csz] at hs; simp; omega) h
        exact Tr.region (l := ops.toList) this
    | seq a b => simp only [ex] at h; exact Tr.seq (h1 a (.seq b :: k) st (by simp only [csz] at hs; simp only [ksz]; omega) h)
    | cond c a b =>
      simp only [ex] at h
      simp only [csz] at hs
      split at h
      · rename_i x hx
        refine Tr.cond hx (fun e => ?_) (fun e => ?_)
        · subst e; simp only [cnd] at h; exact h1 a k st (by omega) h
        · subst e; simp only [cnd] at h; exact h1 b k st (by omega) h
      · exact h.elim
    | block id a => simp only [ex] at h; exact Tr.block (h1 a (.blk id :: k) st (by simp only [csz] at hs; simp only [ksz]; omega) h)
    | loop a => simp only [ex] at h; exact h
    | exit id =>
      simp only [ex] at h
      split at h
      · rename_i k' hp
        exact Tr.exit (popTo_spec hp (hnr k' st (by have := ksz_pop hp; simp only [csz] at hs; omega) h))
      · rename_i hp; exact Tr.exit (popNone_spec hp h)
    | label id => simp only [ex] at h; exact Tr.label (hnr k st (by simp only [csz] at hs; omega) h)
    | ret => simp only [ex] at h; exact Tr.ret (ret_spec h)
    | goto l => simp only [ex] at h
    | rangeFunc f ps as_ b => simp only [ex] at h
    | scope b => simp only [ex] at h; exact Tr.scope (h1 b (.scp :: k) st (by simp only [csz] at hs; simp only [ksz]; omega) h)
    | refuse w => simp only [ex] at h
theorem TrK.ex {P : Program} {Q : Exit → St → Prop} {c : Code} {k : List Fr} {st : St} (h : Ab.ex P Q c k st) : TrK P Q c k st := (run_sound (csz c + ksz k + 1)).1 c k st (by omega) h
theorem RnK.rn {P : Program} {Q : Exit → St → Prop} {ops : Array Oper} {l : List Oper} {k : List Fr} {st : St} (h : Ab.rn P Q ops l k st) : RnK P Q ops l k st := (run_sound (ksz k + 2 * l.length + 2)).2.2.1 ops l k st (by omega) h
theorem Tr.ex {P : Program} {Q : Exit → St → Prop} {c : Code} {st : St} (h : Ab.ex P Q c [] st) : Tr P c Q st := TrK.ex (k := []) h
theorem cnd.part {P : Program} {Q : Exit → St → Prop} {x : Bool} {a b : Code} {k : List Fr} {st : St} (h1 : x = true → Ab.ex P Q a k st) (h2 : x = false → Ab.ex P Q b k st) : cnd P Q x a b k st := by
  cases x with
  | true => simp only [cnd]; exact h1 rfl
  | false => simp only [cnd]; exact h2 rfl
theorem gd.part {P : Program} {Q : Exit → St → Prop} {x : Bool} {ops : Array Oper} {o : Oper} {l : List Oper} {k : List Fr} {st : St} (h1 : x = true → gd P Q true ops o l k st) (h2 : x = false → gd P Q false ops o l k st) : gd P Q x ops o l k st := by
  cases x with
  | true => exact h1 rfl
  | false => exact h2 rfl
/-- What is to be done behind a piece of code, by the way it is left. -/
def kx (P : Program) (Q : Exit → St → Prop) (k : List Fr) (e : Exit) (st : St) : Prop :=
  match e with
  | .normal => nr P Q k st
  | .exit id => match popTo id k with
    | some k' => nr P Q k' st
    | none => Q (.exit id) st
  | .ret => Q .ret st
  | _ => False
theorem kx_kq {P : Program} {Q : Exit → St → Prop} {k : List Fr} {e : Exit} {st : St} (h : kx P Q k e st) : kq P Q k e st := by
  have hnr : ∀ k, nr P Q k st → kq P Q k .normal st := fun k hk => (run_sound (ksz k + 1)).2.1 k st (by omega) hk
  cases e with
  | normal => exact hnr k h
  | exit id =>
    simp only [kx] at h
    split at h
    · rename_i k' hp; exact popTo_spec hp (hnr k' h)
    · rename_i hp; exact popNone_spec hp h
  | ret => exact ret_spec h
  | _ => exact h.elim
/-- The post of a round. -/
def loopQ (P : Program) (Q : Exit → St → Prop) (k : List Fr) (K : St → Prop) (e : Exit) (st : St) : Prop :=
  match e with
  | .normal => K st
  | e => kx P Q k e st
/-- A loop. -/
theorem LoopW.of {P : Program} {Q : Exit → St → Prop} {c : Code} {k : List Fr} {st : St} {σ : Type} (S : σ → St) (I : σ → Prop) (μ : σ → Nat) (s0 : σ) (h0 : I s0) (hst : Ent st (S s0))
    (round : ∀ s, I s → Ab.ex P (loopQ P Q k (fun st' => ∃ s', I s' ∧ μ s' < μ s ∧ Ent st' (S s'))) c [] (S s)) : LoopW P Q c k st :=
  Tr.loop S I μ s0 h0 hst fun s hs => Tr.mono (Tr.ex (round s hs)) fun e st' h => by
    cases e with
    | normal => exact h
    | _ => exact kx_kq h
/-- A piece of code ahead of more: what it leaves. -/
theorem ex.cut {P : Program} {Q : Exit → St → Prop} {c : Code} {k : List Fr} {st : St} {σ : Type} (S : σ → St) (I : σ → Prop) (h : Ab.ex P (loopQ P Q k (fun st' => ∃ s, I s ∧ Ent st' (S s))) c [] st) (hk : ∀ s, I s → nr P Q k (S s)) : TrK P Q c k st :=
  Tr.mono' (Tr.ex h) fun keep w E a e st' hI hq => by
    cases e with
    | normal =>
      obtain ⟨s, hs, hent⟩ := hq
      obtain ⟨E', h1, h2⟩ := hent keep w E a hI
      exact ⟨S s, E', h1, h2, kx_kq (e := .normal) (hk s hs)⟩
    | _ => exact ⟨st', E, hI, Evo.refl _ _ _, kx_kq hq⟩
where
  Tr.mono' {P : Program} {Q Q' : Exit → St → Prop} {c : Code} {st : St} (h : Tr P c Q st) (hq : ∀ (keep : Nat → Prop) (w : World) (E : Env) (a : Act) (e : Exit) (st' : St), Inv keep w E st' a → Q e st' → ∃ st2 E2, Inv keep w E2 st2 a ∧ Evo keep w E w E2 ∧ Q' e st2) : Tr P c Q' st := fun keep w E a hI =>
    Code.wp_mono (fun e a' w' ⟨st', E', h1, h2, h3⟩ => by
      obtain ⟨st2, E2, k1, k2, k3⟩ := hq keep w' E' a' e st' h1 h3
      exact ⟨st2, E2, k1, h2.trans k2, k3⟩) (h keep w E a hI)
end Go.Proofs.Ytnkcenafpigmbaa.Ab
