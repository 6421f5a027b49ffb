/- The abstract layer, part F: places of fields and elements; parts of values. -/
import Derived.Test.YtfcojlagmmgagaaDoorAbE
namespace Go.Proofs.YtfcojlagmmgagaaDoor.Ab
open Go.RowKit
set_option linter.unusedVariables false
set_option linter.unusedSimpArgs false
section
variable {P : Program} {o : Oper} {st : St} {d : Nat} {e ty : TypeId} {x y : Operand} {X Y : AV}

/-- A pointer, some cells further on. -/
def ashift (st : St) (n : Nat) : AV → Option AV
  | .box t off => match lk st.m t with
    | some (.box _) => some (.box t (off + n))
    | _ => none
  | .elt t i off => match lk st.m t with
    | some (.row _ xs) => match xs[i]? with
      | some x => if x.solid = true ∧ off + n < x.cells.length then some (.elt t i (off + n)) else none
      | none => none
    | _ => none
  | .sv (.ref x off) => some (.sv (.ref x (off + n)))
  | _ => none
theorem add_lit (g o n : Nat) : (⟨g, o, none⟩ : Addr).add n = ⟨g, o + n, none⟩ := by unfold Addr.add; split <;> simp_all
theorem shift_rep {keep : Nat → Prop} {w : World} {E : Env} {a : Act} (hI : Inv keep w E st a) {n : Nat} (hp : ashift st n X = some Y) {v : Value} (hv : RepV w E (lk st.m) X v) :
    ∃ ad, v = .pointer (some ad) ∧ RepV w E (lk st.m) Y (.pointer (some (ad.add n))) := by
  unfold ashift at hp
  split at hp
  · rename_i t off
    split at hp
    · rename_i cs hm
      simp only [Option.some.injEq] at hp; subst hp
      simp only [RepV, hm] at hv ⊢
      obtain ⟨g, c, sz, hg, rfl⟩ := hv
      exact ⟨_, rfl, g, c, sz, hg, by rw [add_lit]⟩
    · cases hp
  · rename_i t i off
    split at hp
    · rename_i xs hm
      split at hp
      · rename_i x hx
        split at hp
        · rename_i hs
          simp only [Option.some.injEq] at hp; subst hp
          simp only [RepV, hm] at hv ⊢
          obtain ⟨g, c, sz, hg, rfl, hi, ho⟩ := hv
          obtain ⟨g', c', e, cur, u, hpos, hg', hh, hcs, hlen, hr, hus, h1, hcur⟩ := row_elem (hI.mm t _ hm) hx
          rw [hg] at hg'
          simp only [Option.some.injEq, Prod.mk.injEq] at hg'
          obtain ⟨rfl, rfl, rfl⟩ := hg'
          have hl := (RepS.cells hs.1 hr).len
          simp only [Array.length_toList] at hl
          exact ⟨_, rfl, g, c, sz, hg, by rw [add_lit, Nat.add_assoc], hi, by omega⟩
        · cases hp
      · cases hp
    · cases hp
  · rename_i x off
    simp only [Option.some.injEq] at hp; subst hp
    simp only [RepV, RepS] at hv ⊢
    obtain ⟨ad, u, rfl, h⟩ := hv
    exact ⟨_, rfl, ad, u, by rw [Go.Deep.add_add], h⟩
  · cases hp

def foff (P : Program) (s : TypeId) (f : Nat) : Option Nat :=
  match P.underlying s with
  | some (.struct fs) => match fs[f]? with
    | some fd => if ((P.info? fd.type).isSome && tsz P fd.type != 0) = true then some fd.offset else none
    | none => none
  | _ => none
def ftype (P : Program) (s : TypeId) (f : Nat) : Option (TypeId × Nat) :=
  match P.underlying s with
  | some (.struct fs) => match fs[f]? with
    | some fd => if (P.underlying fd.type).isSome = true then some (fd.type, fd.offset) else none
    | none => none
  | _ => none
theorem does_fieldAddr {f n : Nat} (ho : o.op = .fieldAddr ty x f) (hx : aval st x = some X) (hf : foff P ty f = some n) (hs : ashift st n X = some Y) (hd : st.fitsDst o.dst = true) : Does P o st (st.put o.dst Y) := by
  refine Does.puts hd fun keep w E a hI => ?_
  obtain ⟨ad, hv, hr⟩ := shift_rep hI hs (aval_rep hI hx)
  refine ⟨_, ?_, hr⟩
  unfold foff at hf
  split at hf
  case h_2 => cases hf
  rename_i fs hu
  split at hf
  case h_2 => cases hf
  rename_i fd hfd
  split at hf
  case isFalse => cases hf
  rename_i hc
  simp only [Bool.and_eq_true, bne_iff_ne, ne_eq] at hc
  simp only [Option.some.injEq] at hf; subst hf
  unfold execOp
  rw [ho]
  simp only [hv]
  simp [Instr.fieldAt, run_underlying hu, hfd, Instr.sureAddr, fieldPlace, run_sizeOf hc.1, hc.2]

theorem does_nilCheck (ho : o.op = .nilCheck x) (hx : aval st x = some X) (hs : ashift st 0 X = some Y) (hd : st.fitsDst o.dst = true) : Does P o st (st.put o.dst X) := by
  refine Does.puts hd fun keep w E a hI => ?_
  obtain ⟨ad, hv, hr⟩ := shift_rep hI hs (aval_rep hI hx)
  refine ⟨a.eval x, ?_, aval_rep hI hx⟩
  unfold execOp
  rw [ho]
  simp only [hv]
  rfl

/-- The element type of a slice's, and of an array's, with its length. -/
def selem (P : Program) (t : TypeId) : Option TypeId := match P.underlying t with | some (.slice e) => if (P.info? e).isSome = true then some e else none | _ => none
def aelem (P : Program) (t : TypeId) : Option (Nat × TypeId) := match P.underlying t with | some (.array n e) => if (P.info? e).isSome = true then some (n, e) else none | _ => none
theorem selem_eq {t e : TypeId} (h : selem P t = some e) : P.underlying t = some (.slice e) ∧ (P.info? e).isSome = true := by
  unfold selem at h
  split at h
  · split at h
    · rename_i h1 h2; simp only [Option.some.injEq] at h; subst h; exact ⟨h1, h2⟩
    · cases h
  · cases h
theorem aelem_eq {t e : TypeId} {n : Nat} (h : aelem P t = some (n, e)) : P.underlying t = some (.array n e) ∧ (P.info? e).isSome = true := by
  unfold aelem at h
  split at h
  · split at h
    · rename_i h1 h2; simp only [Option.some.injEq, Prod.mk.injEq] at h; obtain ⟨rfl, rfl⟩ := h; exact ⟨h1, h2⟩
    · cases h
  · cases h

theorem does_indexAddr_own {k : IntKind} {n : Int} {t : Nat} {xs : List SV} (ho : o.op = .indexAddr ty x y) (hx : aval st x = some (.own t)) (he : selem P ty = some e) (hm : lk st.m t = some (.row (tsz P e) xs)) (hy : aval st y = some (.sv (.val (.int k n))))
    (h0 : 0 ≤ n ∧ n < (xs.length : Int)) (hd : st.fitsDst o.dst = true) : Does P o st (st.put o.dst (.elt t n.toNat 0)) := by
  refine Does.puts hd fun keep w E a hI => ?_
  have rx := aval_rep hI hx
  have ry := (aval_rep hI hy).val
  obtain ⟨hu, hi⟩ := selem_eq he
  obtain ⟨g, c, e', cur, u, hpos, hg, hh, hcs, hlen, hr, hus, h1, hcur⟩ := row_elem (hI.mm t _ hm) (List.getElem?_eq_getElem (show n.toNat < xs.length by omega))
  simp only [RepV, hm, hg] at rx
  refine ⟨.pointer (some ⟨g, n.toNat * tsz P e, none⟩), ?_, ?_⟩
  · unfold execOp
    rw [ho]
    simp only [rx, ry]
    have hadd : (⟨g, 0, none⟩ : Addr).add (n.toNat * tsz P e) = ⟨g, n.toNat * tsz P e, none⟩ := by rw [add_lit, Nat.zero_add]
    simp [Instr.indexAt, run_underlying hu, asIntOf, h0.1, h0.2, run_sizeOf hi, hadd]
  · simp only [RepV, hm]
    exact ⟨g, c, _, hg, rfl, by omega, hpos⟩

theorem does_indexAddr_sl {k : IntKind} {n : Int} {t len : Nat} {cs : List AV} (ho : o.op = .indexAddr ty x y) (hx : aval st x = some (.sl t len)) (he : selem P ty = some e) (h1 : tsz P e = 1) (hm : lk st.m t = some (.box cs)) (hy : aval st y = some (.sv (.val (.int k n))))
    (h0 : 0 ≤ n ∧ n < (len : Int)) (hd : st.fitsDst o.dst = true) : Does P o st (st.put o.dst (.box t n.toNat)) := by
  refine Does.puts hd fun keep w E a hI => ?_
  have rx := aval_rep hI hx
  have ry := (aval_rep hI hy).val
  obtain ⟨hu, hi⟩ := selem_eq he
  simp only [RepV, hm] at rx
  obtain ⟨g, c, sz, hg, rx⟩ := rx
  refine ⟨.pointer (some ⟨g, n.toNat, none⟩), ?_, ?_⟩
  · unfold execOp
    rw [ho]
    simp only [rx, ry]
    have hadd : (⟨g, 0, none⟩ : Addr).add n.toNat = ⟨g, n.toNat, none⟩ := by rw [add_lit, Nat.zero_add]
    simp [Instr.indexAt, run_underlying hu, asIntOf, h0.1, h0.2, run_sizeOf hi, h1, hadd]
  · simp only [RepV, hm]
    exact ⟨g, c, sz, hg, rfl⟩

theorem does_indexAddr_lst {k : IntKind} {n : Int} {xs : List SV} {z : SV} (ho : o.op = .indexAddr ty x y) (hx : aval st x = some (.sv (.lst xs))) (hy : aval st y = some (.sv (.val (.int k n))))
    (he : selem P ty = some e) (h0 : 0 ≤ n) (hz : xs[n.toNat]? = some z) (hs : z.solid = true ∧ z.cells.length = tsz P e) (hd : st.fitsDst o.dst = true) : Does P o st (st.put o.dst (.sv (.ref z 0))) := by
  refine Does.puts hd fun keep w E a hI => ?_
  have rx := aval_rep hI hx
  have ry := (aval_rep hI hy).val
  obtain ⟨hu, hi⟩ := selem_eq he
  have hlt := (List.getElem?_eq_some_iff.1 hz).1
  simp only [RepV, RepS] at rx
  obtain ⟨b, c, hv, hc, hor⟩ := rx
  rcases hor with rfl | ⟨ad, sz, vs, rfl, hok, hr, hat⟩
  · simp at hz
  obtain ⟨u, hu1, hr1⟩ := hr.at hz
  have hl := (RepS.cells hs.1 hr1).len
  simp only [Array.length_toList] at hl
  have hsz : sz = tsz P e := by have := (hat _ u hu1).1; omega
  refine ⟨.pointer (some (ad.add (n.toNat * sz))), ?_, ?_⟩
  · unfold execOp
    rw [ho]
    simp only [hv, ry]
    have hn : n < (xs.length : Int) := by omega
    simp [Instr.indexAt, run_underlying hu, asIntOf, h0, hn, run_sizeOf hi, hsz]
  · simp only [RepV, RepS]
    refine ⟨ad.add (n.toNat * sz), u, by rw [Go.Deep.add_add, Nat.add_zero], by rw [add_block]; exact hok, hr1, (hat _ u hu1).2⟩

theorem does_indexAddr_arr {k : IntKind} {n : Int} {len : Nat} (ho : o.op = .indexAddr ty x y) (hx : aval st x = some X) (hy : aval st y = some (.sv (.val (.int k n))))
    (he : aelem P ty = some (len, e)) (h0 : 0 ≤ n ∧ n < (len : Int)) (hs : ashift st (n.toNat * tsz P e) X = some Y) (hd : st.fitsDst o.dst = true) : Does P o st (st.put o.dst Y) := by
  refine Does.puts hd fun keep w E a hI => ?_
  obtain ⟨ad, hv, hr⟩ := shift_rep hI hs (aval_rep hI hx)
  have ry := (aval_rep hI hy).val
  obtain ⟨hu, hi⟩ := aelem_eq he
  refine ⟨_, ?_, hr⟩
  unfold execOp
  rw [ho]
  simp only [hv, ry]
  simp [Instr.indexAt, run_underlying hu, asIntOf, Instr.sureAddr, h0.1, h0.2, run_sizeOf hi]

/-- A part of a value. -/
def apart (P : Program) (t : TypeId) (xs : List SV) (off : Nat) : Option SV :=
  if tagg P t = true then (if off + tsz P t ≤ xs.length then some (.agg ((xs.drop off).take (tsz P t))) else none) else xs[off]?
theorem part_rep {w : World} {E : Env} {t : TypeId} {xs : List SV} {off : Nat} {z : SV} (hu : (P.underlying t).isSome = true) (h : apart P t xs off = some z) {cs : Array Value} (hr : RepL w E.ok xs cs.toList) :
    ∃ v, (part t cs off).run P w = .ok v w ∧ RepS w E.ok z v := by
  unfold apart at h
  split at h
  · rename_i hg
    split at h
    · rename_i hle
      simp only [Option.some.injEq] at h; subst h
      refine ⟨.agg (cs.extract off (off + tsz P t)), by simp [part, run_isAgg hu, hg, run_sizeOf (info_of_underlying hu)], ?_⟩
      simp only [RepS]
      refine ⟨_, rfl, ?_⟩
      have := (hr.drop off).take (tsz P t)
      simpa [Array.toList_extract, List.extract_eq_take_drop] using this
    · cases h
  · rename_i hg
    obtain ⟨v, hv, hrv⟩ := hr.at h
    refine ⟨v, ?_, hrv⟩
    have : cs[off]? = some v := by simpa using hv
    simp [part, run_isAgg hu, hg, this]
theorem does_field {f n : Nat} {t : TypeId} {xs : List SV} {z : SV} (ho : o.op = .field ty x f) (hx : aval st x = some (.sv (.agg xs))) (hf : ftype P ty f = some (t, n)) (hs : apart P t xs n = some z) (hd : st.fitsDst o.dst = true) :
    Does P o st (st.put o.dst (.sv z)) := by
  refine Does.puts hd fun keep w E a hI => ?_
  have rx := aval_rep hI hx
  simp only [RepV, RepS] at rx
  obtain ⟨cs, hv, hr⟩ := rx
  unfold ftype at hf
  split at hf
  case h_2 => cases hf
  rename_i fs hu
  split at hf
  case h_2 => cases hf
  rename_i fd hfd
  split at hf
  case isFalse => cases hf
  rename_i hc
  simp only [Option.some.injEq, Prod.mk.injEq] at hf
  obtain ⟨rfl, rfl⟩ := hf
  obtain ⟨v, h1, h2⟩ := part_rep hc hs hr
  refine ⟨v, ?_, by simpa only [RepV] using h2⟩
  unfold execOp
  rw [ho]
  simp only [hv]
  simp [Instr.field, run_underlying hu, hfd, asAgg, h1]
theorem does_index_arr {k : IntKind} {n : Int} {len : Nat} {xs : List SV} {z : SV} (ho : o.op = .index ty x y) (hx : aval st x = some (.sv (.agg xs))) (hy : aval st y = some (.sv (.val (.int k n))))
    (he : aelem P ty = some (len, e)) (hu : (P.underlying e).isSome = true) (h0 : 0 ≤ n ∧ n < (len : Int)) (hs : apart P e xs (n.toNat * tsz P e) = some z) (hd : st.fitsDst o.dst = true) : Does P o st (st.put o.dst (.sv z)) := by
  refine Does.puts hd fun keep w E a hI => ?_
  have rx := aval_rep hI hx
  have ry := (aval_rep hI hy).val
  simp only [RepV, RepS] at rx
  obtain ⟨cs, hv, hr⟩ := rx
  obtain ⟨ha, hi⟩ := aelem_eq he
  obtain ⟨v, h1, h2⟩ := part_rep hu hs hr
  refine ⟨v, ?_, by simpa only [RepV] using h2⟩
  unfold execOp
  rw [ho]
  simp only [hv, ry]
  simp [Instr.index, run_underlying ha, asIntOf, h0.1, h0.2, run_sizeOf hi, h1]

/-- A byte of a string. -/
def bt (s : ByteArray) (n : Int) : Int := ((s.data.getD n.toNat 0).toNat : Int)
theorem does_index_str {k : IntKind} {n : Int} {s : ByteArray} (ho : o.op = .index ty x y) (hx : aval st x = some (.sv (.val (.string s)))) (hy : aval st y = some (.sv (.val (.int k n))))
    (ht : P.underlying ty = some .string) (h0 : 0 ≤ n ∧ n < (s.size : Int)) (hd : st.fitsDst o.dst = true) : Does P o st (st.put o.dst (.sv (.val (.int .u8 (bt s n))))) := by
  refine Does.puts hd fun keep w E a hI => ⟨_, ?_, RepV.val_mk _⟩
  have rx := (aval_rep hI hx).val
  have ry := (aval_rep hI hy).val
  have hlt : n.toNat < s.size := by omega
  have hb : s[n.toNat]? = some (s.data.getD n.toNat 0) := by
    rw [getElem?_pos s n.toNat hlt]
    congr 1
    have : n.toNat < s.data.size := hlt
    simp [Array.getD, this]
    rw [dif_pos hlt]
    rfl
  unfold execOp
  rw [ho]
  simp only [rx, ry]
  simp [Instr.index, run_underlying ht, asIntOf, h0.1, hb, bt]
end
end Go.Proofs.YtfcojlagmmgagaaDoor.Ab
