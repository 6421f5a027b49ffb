/- The abstract layer, part V: what is made in a region that draws; structs that hold what is owned; rows of slices. -/
import Derived.Test.YtfcojlagmmgagaaDoorAbU
namespace Go.Proofs.YtfcojlagmmgagaaDoor.Ab
open Go.RowKit
set_option linter.unusedVariables false
set_option linter.unusedSimpArgs false

/-! ### Tags that are made -/
/-- A list without what is hidden. -/
def nd {α : Type} : List (Nat × α) → List (Nat × α)
  | [] => []
  | (k, x) :: l => (k, x) :: rm (nd l) k
theorem lk_nd {α : Type} : ∀ (l : List (Nat × α)) (d : Nat), lk (nd l) d = lk l d
  | [], d => rfl
  | (k, x) :: l, d => by
    simp only [nd, lk]
    by_cases h : k = d
    · rw [if_pos h, if_pos h]
    · rw [if_neg h, if_neg h, lk_rm, if_neg h, lk_nd l d]
theorem rm_mem {α : Type} : ∀ {l : List (Nat × α)} {d k : Nat} {x : α}, (k, x) ∈ rm l d → (k, x) ∈ l ∧ k ≠ d
  | [], d, k, x, h => by cases h
  | (j, y) :: l, d, k, x, h => by
    simp only [rm] at h
    split at h
    · exact ⟨List.mem_cons_of_mem _ (rm_mem h).1, (rm_mem h).2⟩
    · rename_i hne
      rcases List.mem_cons.1 h with h | h
      · simp only [Prod.mk.injEq] at h
        obtain ⟨rfl, rfl⟩ := h
        exact ⟨List.mem_cons_self, hne⟩
      · exact ⟨List.mem_cons_of_mem _ (rm_mem h).1, (rm_mem h).2⟩
theorem nd_mem {α : Type} : ∀ {l : List (Nat × α)} {k : Nat} {x : α}, (k, x) ∈ nd l → lk l k = some x
  | [], k, x, h => by cases h
  | (j, y) :: l, k, x, h => by
    simp only [nd] at h
    simp only [lk]
    rcases List.mem_cons.1 h with h | h
    · simp only [Prod.mk.injEq] at h
      obtain ⟨rfl, rfl⟩ := h
      rw [if_pos rfl]
    · obtain ⟨h1, h2⟩ := rm_mem h
      rw [if_neg (Ne.symm h2)]
      exact nd_mem h1
theorem Fresh.list {s : St} {d : Nat} (h : Fresh s d) : ∃ s2 : St, s2.n = s.n ∧ (∀ e, lk s2.t e = lk s.t e) ∧ (∀ e, lk s2.m e = lk s.m e) ∧ s2.fresh d = true := by
  obtain ⟨h1, h2, h3, h4⟩ := h
  refine ⟨⟨s.n, nd s.t, nd s.m⟩, rfl, lk_nd _, lk_nd _, ?_⟩
  have hh : (⟨s.n, nd s.t, nd s.m⟩ : St).held d = false := by
    simp only [St.held, Bool.or_eq_false_iff, List.any_eq_false]
    refine ⟨fun p hp => ?_, fun p hp => ?_⟩
    · rw [h3 p.1 p.2 (nd_mem hp)]; simp
    · have hm := nd_mem (k := p.1) (x := p.2) hp
      split
      · rename_i cs hc
        rw [hc] at hm
        rw [h4 _ cs hm]; simp
      · simp
  simp only [St.fresh, hh, lk_nd, h2, h1, decide_true, Bool.not_false, Option.isNone_none, Bool.and_self]
theorem Fresh.of {st : St} {d : Nat} (h : st.fresh d = true) : Fresh st d := by
  have hp := St.fresh_pin h
  simp only [St.fresh, Bool.and_eq_true, Bool.not_eq_true', Option.isNone_iff_eq_none] at h
  exact ⟨hp, h.2.2, fun e x hx => held_t h.2.1 hx, fun t cs hx => held_m h.2.1 hx⟩
section
variable {P : Program} {Q : Exit → St → Prop} {D : List Nat} {ops : Array Oper} {o : Oper} {l : List Oper} {fs : List Ft} {k : List Fr} {st : St}
theorem upd_lk {s s2 : St} (f : Ft) (ht : ∀ e, lk s2.t e = lk s.t e) (hm : ∀ e, lk s2.m e = lk s.m e) : (∀ e, lk (s2.upd f).t e = lk (s.upd f).t e) ∧ ∀ e, lk (s2.upd f).m e = lk (s.upd f).m e :=
  ⟨fun e => by simp only [St.upd, lk_upo, ht], fun e => by simp only [St.upd, lk_upm, hm]⟩
theorem locH {f : Ft} {d : Nat} (hg : grd ops st o = some true) (hnw : f.nw = some d) (hhv : f.hv = true) (hrT : f.rT = usesT ops o) (hhs : ∀ t cs, lk f.wM t = some (some (.box cs)) → ∀ d, AV.holdsL d cs = true → d ∈ f.hs)
    (h : ∀ s : St, s.n = st.n → (∀ e ∈ f.rT, lk s.t e = lk st.t e) → (∀ t ∈ f.rM, lk s.m t = lk st.m t) → s.fresh d = true → Does P o s (s.upd f)) : LocT P ops o st f :=
  ⟨⟨fun hv => (by rw [hhv] at hv; cases hv), hhs⟩, fun s hn hT hM _ hF keep w E a hI N Q hN => by
    obtain ⟨s2, e1, e2, e3, e4⟩ := (hF d hnw).list
    have hg' : grd ops s2 o = some true := by rw [grd_agr (st := st) (fun e he => by rw [e2]; exact hT e (hrT ▸ he))]; exact hg
    have hI2 : Inv keep w E s2 a := hI.le ⟨e1.symm, fun e x hx => by rw [← e2]; exact hx, fun e x hx => by rw [← e3]; exact hx⟩
    rw [if_pos (grd_run hI2 hg')]
    have hd := h s2 (e1.trans hn) (fun e he => by rw [e2]; exact hT e he) (fun t ht => by rw [e3]; exact hM t ht) e4
    obtain ⟨u1, u2⟩ := upd_lk f e2 e3
    exact hd.wp hI2 fun a' w' E' k1 k2 => hN a' w' E' (k1.le ⟨e1, fun e x hx => by rw [u1]; exact hx, fun e x hx => by rw [u2]; exact hx⟩) k2⟩
theorem OpD.heavy {f : Ft} (hl : LocT P ops o st f) (h : Ab.rd P Q D ops l (f :: fs) k (st.upd f)) : OpD P Q D ops o l fs k st := by
  obtain ⟨fs', st', h1, h2, h3⟩ := rd_sound _ _ _ h
  exact ⟨_ :: fs', st', .cons hl h1, by simpa using h2, h3⟩
/-- A region that draws, and makes tags. -/
theorem DrawW.rdN {id : Nat} (D : List Nat) (hD : D.all st.fresh = true) (hm : P.follows .mixedOrders = true) (h : Ab.rd P Q D ops ops.toList [] k st) : DrawW P Q id ops k st := by
  obtain ⟨fs', st', h1, h2, h3⟩ := rd_sound _ _ _ h
  exact Tr.draw (Ds := D) (fun d hd => Fresh.of (List.all_eq_true.1 hD d hd)) hm h1 (by simpa using h2) h3

theorem aparts_agr {s : St} (sz : Nat) : ∀ (ps : List (Nat × Operand)) (xs : List SV), (∀ p ∈ ps, aval s p.2 = aval st p.2) → aparts s sz xs ps = aparts st sz xs ps
  | [], xs, _ => rfl
  | (i, x) :: rest, xs, h => by
    have e : aval s x = aval st x := h (i, x) List.mem_cons_self
    simp only [aparts]
    rw [e]
    cases (aval st x).bind AV.elem with
    | none => rfl
    | some z =>
      simp only
      split
      · exact aparts_agr sz rest _ fun p hp => h p (List.mem_cons_of_mem _ hp)
      · rfl
def ftN (ops : Array Oper) (o : Oper) (rM : List Nat) (d : Nat) (X : AV) (ob : Obj') (hs : List Nat) : Ft := ⟨usesT ops o, rM, [], some (d, X), [(d, some ob)], some d, true, hs⟩
theorem ftN_row {ops : Array Oper} {o : Oper} {rM hs : List Nat} {d sz : Nat} {X : AV} {xs : List SV} : ∀ t cs, lk (ftN ops o rM d X (.row sz xs) hs).wM t = some (some (.box cs)) → ∀ d', AV.holdsL d' cs = true → d' ∈ (ftN ops o rM d X (.row sz xs) hs).hs := fun t cs h => by
  simp only [ftN, lk] at h
  split at h <;> cases h
theorem ftN_box {ops : Array Oper} {o : Oper} {rM hs : List Nat} {d : Nat} {X : AV} {cs : List AV} (hh : ∀ d', AV.holdsL d' cs = true → d' ∈ hs) : ∀ t ds, lk (ftN ops o rM d X (.box cs) hs).wM t = some (some (.box ds)) → ∀ d', AV.holdsL d' ds = true → d' ∈ (ftN ops o rM d X (.box cs) hs).hs := fun t ds h => by
  simp only [ftN, lk] at h
  split at h
  · cases h; exact hh
  · cases h
theorem holdsL_nils (t n : Nat) : AV.holdsL t (List.replicate n AV.nil) = false := by
  induction n with
  | zero => rfl
  | succ n ih => simp [List.replicate_succ, AV.holdsL, AV.holds, ih]
theorem OpD.make {ty e : TypeId} {x y : Operand} {d : Nat} {k1 k2 : IntKind} {n : Int} {z : Value} (ho : o.op = .makeSlice ty x y) (hd : o.dst = some d) (hg : grd ops st o = some true) (hn : d < st.n) (hx : aval st x = some (.sv (.val (.int k1 n)))) (hy : aval st y = some (.sv (.val (.int k2 n))))
    (he : selem P ty = some e) (hz : tzero P e = some z) (h0 : 0 ≤ n) (hm : n.toNat * (tby P e + 1) ≤ 140737488355328) (hfit : (zeroSV z).fits (tsz P e) = true) (hp : tsz P e ≠ 0)
    (h : Ab.rd P Q D ops l (ftN ops o [] d (.own d) (.row (tsz P e) (List.replicate n.toNat (zeroSV z))) [] :: fs) k { st with t := up st.t d (.own d), m := up st.m d (.row (tsz P e) (List.replicate n.toNat (zeroSV z))) }) : OpD P Q D ops o l fs k st :=
  OpD.heavy (locH (d := d) hg rfl rfl rfl ftN_row fun s hs hT _ hf => by
    have hv := aval_agr (s := s) (st := st) (o := o) hT
    exact does_make ho hd hf (by omega) ((hv x (by simp [ho, Op.operands])).trans hx) ((hv y (by simp [ho, Op.operands])).trans hy) he hz h0 hm hfit hp) h
/-- A row of slices, all nil: a box of so many cells, and a slice over it. -/
theorem does_makeB {ty e : TypeId} {x y : Operand} {d : Nat} {k1 k2 : IntKind} {n : Int} (ho : o.op = .makeSlice ty x y) (hd : o.dst = some d) (hf : st.fresh d = true) (hn : d < st.n) (hx : aval st x = some (.sv (.val (.int k1 n)))) (hy : aval st y = some (.sv (.val (.int k2 n))))
    (he : selem P ty = some e) (hz : tzero P e = some (.slice none 0 0)) (h1 : tsz P e = 1) (h0 : 0 ≤ n) (hm : n.toNat * (tby P e + 1) ≤ 140737488355328) :
    Does P o st { st with t := up st.t d (.sl d n.toNat), m := up st.m d (.box (List.replicate n.toNat .nil)) } := by
  intro keep w E a hI
  obtain ⟨hu, hi⟩ := selem_eq he
  obtain ⟨i, hi⟩ := Option.isSome_iff_exists.1 hi
  have hz' : i.zero = some (.slice none 0 0) := by simpa [tzero, hi] using hz
  have hsz : i.size = tsz P e := by simp [tsz, Program.cellsOf, hi]
  have hby : i.bytes = tby P e := by simp [tby, Program.bytesOf, hi]
  have rx := (aval_rep hI hx).val
  have ry := (aval_rep hI hy).val
  rw [Nat.mul_add, Nat.mul_one] at hm
  have hrun := run_make (P := P) w ty e i (.slice none 0 0) hu hi hz' k1 k2 n n h0 (Int.le_refl _) (by
    rw [hby]
    have : ((n.toNat * tby P e : Nat) : Int) ≤ 140737488355328 := by omega
    rw [Int.natCast_mul, Int.toNat_of_nonneg h0, Int.mul_comm] at this
    omega) (by omega)
  have hcells : (madeCells (Value.slice none 0 0).cells (n.toNat * i.size)).toList = List.replicate n.toNat (.slice none 0 0) := by
    have hsize : (madeCells (Value.slice none 0 0).cells (n.toNat * i.size)).size = n.toNat := by rw [size_madeCells, hsz, h1, Nat.mul_one]
    apply List.ext_getElem?
    intro j
    by_cases hj : j < n.toNat
    · have hg := made_get (Value.slice none 0 0).cells (n.toNat * i.size) j (by rw [hsz, h1]; omega)
      rw [Array.getElem?_toList, hg, List.getElem?_replicate, if_pos hj]
      simp [Value.cells, Nat.mod_one]
    · rw [List.getElem?_eq_none (by rw [Array.length_toList, hsize]; omega), List.getElem?_eq_none (by simp; omega)]
  refine ⟨.slice (some ⟨w.heap.size, 0, none⟩) n.toNat n.toNat, w.alloc (.cells (madeCells (Value.slice none 0 0).cells (n.toNat * i.size)) e), E.set d (some (w.heap.size, 0, 0)), .inl ?_, ?_, Evo.grow hI ⟨rfl, rfl, rfl⟩ (by simp) (fun j hj => Go.heap_alloc_old w _ hj) rfl (Env.set_pin (St.fresh_pin hf))⟩
  · unfold execOp
    rw [ho]
    simp only [rx, ry]
    rw [Sem.run_bind, hrun]
    rfl
  · rw [hd]
    have hh : ∀ t, AV.holdsL t (List.replicate n.toNat AV.nil) = true → t ≠ d := fun t ht => by
      exfalso
      have : ∀ j, AV.holdsL t (List.replicate j AV.nil) = false := fun j => by
        induction j with
        | zero => rfl
        | succ j ih => simp [List.replicate_succ, AV.holdsL, AV.holds, ih]
      rw [this] at ht; cases ht
    have h2 := box_new (e := e) hI hf hn (List.replicate n.toNat .nil) (madeCells (Value.slice none 0 0).cells (n.toNat * i.size)) (by
      rw [hcells]
      refine RepVL.of (by simp) fun i x v hx hv => ?_
      rw [List.getElem?_replicate] at hx hv
      split at hx
      · rename_i hi
        rw [if_pos hi] at hv
        simp only [Option.some.injEq] at hx hv; subst hx; subst hv
        simp only [RepV]
      · cases hx) hh
    have h3 := h2.put (dst := some d) (x := .sl d n.toNat) (v := .slice (some ⟨w.heap.size, 0, none⟩) n.toNat n.toNat) (by simpa [St.fitsDst] using hn) (by
      simp only [RepV]
      rw [lk_up, if_pos rfl]
      exact ⟨w.heap.size, 0, 0, by simp [Env.set], rfl⟩)
    have e1 : (a.put (some d) (.pointer (some ⟨w.heap.size, 0, none⟩))).put (some d) (.slice (some ⟨w.heap.size, 0, none⟩) n.toNat n.toNat) = a.put (some d) (.slice (some ⟨w.heap.size, 0, none⟩) n.toNat n.toNat) := by
      simp [Act.put]
    rw [e1] at h3
    exact h3.le ⟨rfl, fun e x hx => by
      simp only [St.put, lk_up] at hx ⊢
      split at hx
      · rename_i he; rw [if_pos he]; exact hx
      · rename_i he; rw [if_neg he, if_neg he]; exact hx, fun t o ho => ho⟩
theorem OpD.makeB {ty e : TypeId} {x y : Operand} {d : Nat} {k1 k2 : IntKind} {n : Int} (ho : o.op = .makeSlice ty x y) (hd : o.dst = some d) (hg : grd ops st o = some true) (hn : d < st.n) (hx : aval st x = some (.sv (.val (.int k1 n)))) (hy : aval st y = some (.sv (.val (.int k2 n))))
    (he : selem P ty = some e) (hz : tzero P e = some (.slice none 0 0)) (h1 : tsz P e = 1) (h0 : 0 ≤ n) (hm : n.toNat * (tby P e + 1) ≤ 140737488355328)
    (h : Ab.rd P Q D ops l (ftN ops o [] d (.sl d n.toNat) (.box (List.replicate n.toNat .nil)) [] :: fs) k { st with t := up st.t d (.sl d n.toNat), m := up st.m d (.box (List.replicate n.toNat .nil)) }) : OpD P Q D ops o l fs k st :=
  OpD.heavy (locH (d := d) hg rfl rfl rfl (ftN_box fun d' hh => by rw [holdsL_nils] at hh; cases hh) fun s hs hT _ hf => by
    have hv := aval_agr (s := s) (st := st) (o := o) hT
    exact does_makeB ho hd hf (by omega) ((hv x (by simp [ho, Op.operands])).trans hx) ((hv y (by simp [ho, Op.operands])).trans hy) he hz h1 h0 hm) h
theorem OpD.bslice {ty e : TypeId} {len d : Nat} {ps : Array (Nat × Operand)} {xs : List SV} {z : Value} (ho : o.op = .buildSlice ty len ps) (hd : o.dst = some d) (hg : grd ops st o = some true) (hn : d < st.n) (he : selem P ty = some e) (hz : tzero P e = some z)
    (hfit : (zeroSV z).fits (tsz P e) = true) (hp : tsz P e ≠ 0) (hl : len ≠ 0) (hm : len * tsz P e ≤ 65536) (hxs : aparts st (tsz P e) (List.replicate len (zeroSV z)) ps.toList = some xs)
    (h : Ab.rd P Q D ops l (ftN ops o [] d (.own d) (.row (tsz P e) xs) [] :: fs) k { st with t := up st.t d (.own d), m := up st.m d (.row (tsz P e) xs) }) : OpD P Q D ops o l fs k st :=
  OpD.heavy (locH (d := d) hg rfl rfl rfl ftN_row fun s hs hT _ hf => by
    have hv := aval_agr (s := s) (st := st) (o := o) hT
    refine does_buildSlice ho hd hf (by omega) he hz hfit hp hl hm ?_
    rw [aparts_agr (st := st) _ _ _ fun p hp => hv p.2 (by simp only [ho, Op.operands, List.mem_toArray]; exact List.mem_map.2 ⟨p, hp, rfl⟩)]
    exact hxs) h
theorem OpD.box {e : TypeId} {x : Operand} {d : Nat} {X : AV} {cs : List AV} (ho : o.op = .box e x) (hd : o.dst = some d) (hg : grd ops st o = some true) (hn : d < st.n) (hx : aval st x = some X) (hc : X.cells (lk st.m) = some cs)
    (h : Ab.rd P Q D ops l (ftN ops o X.tags d (.box d 0) (.box cs) (AV.tagsL cs) :: fs) k { st with t := up st.t d (.box d 0), m := up st.m d (.box cs) }) : OpD P Q D ops o l fs k st :=
  OpD.heavy (locH (d := d) hg rfl rfl rfl (ftN_box fun d' hh => holdsL_tags hh) fun s hs hT hM hf => by
    have hv := aval_agr (s := s) (st := st) (o := o) hT
    refine does_box ho hd hf (by omega) ((hv x (by simp [ho, Op.operands])).trans hx) ?_
    rw [cells_agr (s := s) (st := st) fun t ht => hM t (holds_tags ht)]
    exact hc) h
/-- What is appended to a row that is owned: a new tag; the old one ends. -/
def ftA (ops : Array Oper) (o : Oper) (rM : List Nat) (d t : Nat) (ob : Obj') : Ft := ⟨usesT ops o, rM, [], some (d, .own d), [(d, some ob), (t, none)], some d, true, []⟩
theorem OpD.append {ty e : TypeId} {x y : Operand} {d t : Nat} {Y : AV} {xs ys : List SV} {z : Value} (ho : o.op = .call { callee := .builtin .append, args := #[x, y], argTypes := #[ty, ty] }) (hd : o.dst = some d) (hg : grd ops st o = some true) (hn : d < st.n) (he : selem P ty = some e) (hz : tzero P e = some z) (hzs : z.cells.size = tsz P e) (hp : 0 < tsz P e)
    (hx : aval st x = some (.own t)) (hm : lk st.m t = some (.row (tsz P e) xs)) (hy : aval st y = some Y) (hys : rowOf st Y = some ys) (hfit : ∀ u ∈ ys, u.fits (tsz P e) = true) (hb : (xs.length + ys.length) * (tby P e + 1) ≤ 140737488355328)
    (h : Ab.rd P Q D ops l (ftA ops o (t :: Y.tags) d t (.row (tsz P e) (xs ++ ys)) :: fs) k { st with t := up st.t d (.own d), m := up (rm st.m t) d (.row (tsz P e) (xs ++ ys)) }) : OpD P Q D ops o l fs k st :=
  OpD.heavy (f := ftA ops o (t :: Y.tags) d t (.row (tsz P e) (xs ++ ys))) (locH (d := d) hg rfl rfl rfl (fun t' cs h => (by
    simp only [ftA, lk] at h
    split at h
    · cases h
    · split at h <;> cases h)) fun s hs hT hM hf => by
    have hv := aval_agr (s := s) (st := st) (o := o) hT
    refine does_append_own ho hd hf (by omega) he hz hzs hp ((hv x (by simp [ho, Op.operands, Call.operands])).trans hx) ?_ ((hv y (by simp [ho, Op.operands, Call.operands])).trans hy) ?_ hfit hb
    · rw [hM t List.mem_cons_self]; exact hm
    · rw [rowOf_agr (s := s) (st := st) fun t' ht => hM t' (List.mem_cons_of_mem _ (holds_tags ht))]; exact hys) h
end

/-! ### Structs that hold what is owned -/
/-- The parts of a struct, one behind the other, its cells known. -/
def vfill (st : St) (place : Nat → Option (Nat × Nat)) : List AV → List (Nat × Operand) → Option (List AV)
  | xs, [] => some xs
  | xs, (i, x) :: rest => match place i, (aval st x).bind (AV.cells (lk st.m)) with
    | some (off, size), some zs => if zs.length = size ∧ off + size ≤ xs.length then vfill st place (setAt xs off zs) rest else none
    | _, _ => none
theorem vfill_run {st : St} {keep : Nat → Prop} {w : World} {E : Env} {a : Act} (hI : Inv keep w E st a) {place : Nat → Option (Nat × Nat)} : ∀ (l : List (Nat × Operand)) {xs ys : List AV} {vs : Array Value}, vfill st place xs l = some ys → RepVL w E (lk st.m) xs vs.toList →
    ∃ us, Instr.fill place vs (l.map fun p => (p.1, a.eval p.2)) = some us ∧ RepVL w E (lk st.m) ys us.toList
  | [], xs, ys, vs, h, hr => by
    simp only [vfill, Option.some.injEq] at h; subst h
    exact ⟨vs, by simp [Instr.fill], hr⟩
  | (i, x) :: rest, xs, ys, vs, h, hr => by
    simp only [vfill] at h
    split at h
    case h_2 => cases h
    rename_i off size zs hp hz
    split at h
    case isFalse => cases h
    rename_i hc
    obtain ⟨X, hX, hz1⟩ := Option.bind_eq_some_iff.1 hz
    have hrz := (RepV.cells hz1 (aval_rep hI hX)).1
    have hl1 := hrz.len
    have hl2 := hr.len
    simp only [Array.length_toList] at hl1 hl2
    obtain ⟨us, h1, h2⟩ := vfill_run hI rest (vs := (setAt vs.toList off (a.eval x).cells.toList).toArray) h (by simpa using hr.setAt hrz off)
    refine ⟨us, ?_, h2⟩
    exact (fill_step place vs i (a.eval x) _ off size hp (by omega) (by omega)).trans h1
theorem does_buildV {P : Program} {o : Oper} {st : St} {ty : TypeId} {ps : Array (Nat × Operand)} {xs : List AV} {pl : List (Nat × Nat)} (ho : o.op = .build ty ps) {z : Value} (hz : tzero P ty = some z) (hpl : splaces P ty = some pl) (hxs : vfill st (fun i => pl[i]?) (z.cells.toList.map fun v => .sv (svC v)) ps.toList = some xs)
    (hd : st.fitsDst o.dst = true) : Does P o st (st.put o.dst (.agg xs)) := by
  refine Does.puts hd fun keep w E a hI => ?_
  obtain ⟨us, h1, h2⟩ := vfill_run hI ps.toList (vs := z.cells) hxs (RepVL.of (by simp) fun i x v hx hv => by
    rw [List.getElem?_map, hv] at hx
    simp only [Option.map_some, Option.some.injEq] at hx; subst hx
    simp only [RepV]
    exact svC_rep _ _ _)
  refine ⟨.agg us, ?_, by simp only [RepV]; exact ⟨us, rfl, h2⟩⟩
  unfold splaces at hpl
  split at hpl
  case h_2 => cases hpl
  rename_i fs hu
  unfold execOp
  rw [ho]
  dsimp only
  have hplaces := run_places (P := P) w fs.toList pl hpl
  simp [Instr.build, run_underlying hu, run_zeroValue hz, Array.mapM_eq_mapM_toList, hplaces, h1]
theorem vfill_agr {s st : St} {place : Nat → Option (Nat × Nat)} : ∀ (ps : List (Nat × Operand)) (xs : List AV), (∀ p ∈ ps, aval s p.2 = aval st p.2) → (∀ p ∈ ps, ∀ X, aval st p.2 = some X → Agr s st X) → vfill s place xs ps = vfill st place xs ps
  | [], xs, _, _ => rfl
  | (i, x) :: rest, xs, h, k => by
    have e0 : aval s x = aval st x := h (i, x) List.mem_cons_self
    simp only [vfill]
    rw [e0]
    have e : (aval st x).bind (AV.cells (lk s.m)) = (aval st x).bind (AV.cells (lk st.m)) := by
      cases hX : aval st x with
      | none => rfl
      | some X => simp only [Option.bind_some]; exact cells_agr (k (i, x) List.mem_cons_self X hX)
    rw [e]
    cases place i with
    | none => rfl
    | some q => cases (aval st x).bind (AV.cells (lk st.m)) with
      | none => rfl
      | some zs =>
        simp only
        split
        · exact vfill_agr rest _ (fun p hp => h p (List.mem_cons_of_mem _ hp)) fun p hp => k p (List.mem_cons_of_mem _ hp)
        · rfl
theorem OpD.buildV {P : Program} {Q : Exit → St → Prop} {D : List Nat} {ops : Array Oper} {o : Oper} {l : List Oper} {fs : List Ft} {k : List Fr} {st : St} {ty : TypeId} {d : Nat} {ps : Array (Nat × Operand)} {xs : List AV} {pl : List (Nat × Nat)} {z : Value} (ho : o.op = .build ty ps) (hd : o.dst = some d) (hg : grd ops st o = some true) (hz : tzero P ty = some z) (hpl : splaces P ty = some pl) (hxs : vfill st (fun i => pl[i]?) (z.cells.toList.map fun v => .sv (svC v)) ps.toList = some xs)
    (hn : d < st.n) (h : Ab.rd P Q D ops l (⟨usesT ops o, usesM st o, [], some (d, .agg xs), [], none, false, []⟩ :: fs) k { st with t := up st.t d (.agg xs) }) : OpD P Q D ops o l fs k st :=
  OpD.heavy (f := ⟨usesT ops o, usesM st o, [], some (d, .agg xs), [], none, false, []⟩) ⟨⟨fun _ t x hw => (by cases hw), fun t cs hw => (by cases hw)⟩, fun s hs hT hM _ _ keep w E a hI N Q hN => by
    have hv := aval_agr (s := s) (st := st) (o := o) hT
    have hm := agr_of (s := s) (st := st) (o := o) (by rw [ho]; simpa only [usesM, ho] using hM)
    have hg' : grd ops s o = some true := by rw [grd_agr (st := st) hT]; exact hg
    rw [if_pos (grd_run hI hg')]
    have hops : ∀ p ∈ ps.toList, p.2 ∈ o.op.operands := fun p hp => by
      simp only [ho, Op.operands, List.mem_toArray]; exact List.mem_map.2 ⟨p, hp, rfl⟩
    have := does_buildV (P := P) (st := s) ho hz hpl (by rw [vfill_agr _ _ (fun p hp => hv p.2 (hops p hp)) fun p hp => hm p.2 (hops p hp)]; exact hxs) (by rw [hd]; simp [St.fitsDst, hs, hn])
    rw [hd] at this
    exact this.wp hI hN⟩ h
attribute [go_sem] ftN ftA upm
end Go.Proofs.YtfcojlagmmgagaaDoor.Ab
