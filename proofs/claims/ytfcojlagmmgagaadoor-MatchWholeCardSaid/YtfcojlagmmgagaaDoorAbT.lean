/- The abstract layer, part T: a slice held against nil. -/
import Derived.Test.YtfcojlagmmgagaaDoorAbR
import Derived.Laws.Cover3
namespace Go.Proofs.YtfcojlagmmgagaaDoor.Ab
open Go.RowKit
set_option linter.unusedVariables false
set_option linter.unusedSimpArgs false

/-- A slice held against nil: where it has no elements, either way. -/
theorem Rn.isnil {P : Program} {ops : Array Oper} {l : List Oper} {K : St → Prop} {o : Oper} {st : St} {t rt : TypeId} {x : Operand} {op : BinOp} {X : AV} {xs : List SV} {e : TypeId} (hop : op = .eql ∨ op = .neq) (hg : grd ops st o = some true) (ho : o.op = .binOp op t x (.const (.slice none 0 0)) rt)
    (hx : aval st x = some X) (hr : rowOf st X = some xs) (he : selem P t = some e) (hd : st.fitsDst o.dst = true) (h : ∀ b : Bool, (b = true → xs = []) → Rn P ops l K (st.put o.dst (.sv (.val (.bool (if op = .eql then b else !b)))))) : Rn P ops (o :: l) K st := fun keep w E a hI => by
  unfold wpList
  rw [if_pos (grd_run hI hg)]
  refine .inl ?_
  obtain ⟨b, c, hv, hc, hor⟩ := src_rep hI hr (aval_rep hI hx)
  have hb : b.isNone = true → xs = [] := fun hn => by
    rcases hor with h | ⟨ad, sz, vs, rfl, _⟩
    · exact h
    · simp at hn
  have hrun : (execOp a.eval o).run P w = .ok (.value (.bool (if op = .eql then b.isNone else !b.isNone))) w := by
    have hq := run_equal_slice_nil w t e b xs.length c (selem_eq he).1
    unfold execOp
    rw [ho]
    have hc2 : a.eval (.const (.slice none 0 0)) = .slice none 0 0 := rfl
    rcases hop with rfl | rfl <;> simp [hv, hc2, eqGuard, binOp, hq]
  unfold Oper.wp
  rw [hrun]
  refine Rn.freeze.wpList_mono' ?_ (h b.isNone hb keep w E _ (hI.put hd (RepV.val_mk _)))
  rintro e a2 w2 ⟨st2, E2, k1, k2, k3⟩
  exact ⟨st2, E2, k1, k2, k3⟩
theorem OpW.isnil {P : Program} {Q : Exit → St → Prop} {ops : Array Oper} {l : List Oper} {k : List Fr} {o : Oper} {st : St} {t rt : TypeId} {x : Operand} {op : BinOp} {X : AV} {xs : List SV} {e : TypeId} (hop : op = .eql ∨ op = .neq) (ho : o.op = .binOp op t x (.const (.slice none 0 0)) rt) (hg : grd ops st o = some true)
    (hx : aval st x = some X) (hr : rowOf st X = some xs) (he : selem P t = some e) (hd : st.fitsDst o.dst = true) (h : ∀ b : Bool, (b = true → xs = []) → Ab.rn P Q ops l k (st.put o.dst (.sv (.val (.bool (if op = .eql then b else !b)))))) : OpW P Q ops o l k st :=
  Rn.isnil hop hg ho hx hr he hd fun b hb => RnK.rn (h b hb)
/-- What is owned is shared from here on. -/
theorem OpW.frz {P : Program} {Q : Exit → St → Prop} {ops : Array Oper} {l : List Oper} {k : List Fr} {o : Oper} {st : St} (t : Nat) (h : OpW P Q ops o l k (st.freeze t)) : OpW P Q ops o l k st := Rn.freeze t h
theorem OpW.ent {P : Program} {Q : Exit → St → Prop} {ops : Array Oper} {l : List Oper} {k : List Fr} {o : Oper} {st st' : St} (h : Ent st st') (hk : OpW P Q ops o l k st') : OpW P Q ops o l k st := Rn.ent h hk
theorem DrawW.ent {P : Program} {Q : Exit → St → Prop} {id : Nat} {ops : Array Oper} {k : List Fr} {st st' : St} (h : Ent st st') (hk : DrawW P Q id ops k st') : DrawW P Q id ops k st := Tr.ent h hk
theorem LoopW.ent {P : Program} {Q : Exit → St → Prop} {c : Code} {k : List Fr} {st st' : St} (h : Ent st st') (hk : LoopW P Q c k st') : LoopW P Q c k st := Tr.ent h hk
/-- A call of a function value that is shared, in a region that draws. -/
theorem loc_callF {P : Program} {ops : Array Oper} {st : St} {o : Oper} {f : Operand} {g : FuncId} {caps : List SV} {xs : Array Operand} {ts : Array TypeId} {ys : List SV} {r : RV} (lent : Bool) (hg : grd ops st o = some true) (ho : o.op = .call { callee := .value f, args := xs, argTypes := ts }) (hfn : aval st f = some (.sv (.fn g caps)))
    (ha : (if lent = true then argv st xs.toList else argS st xs.toList) = some ys) (hc : ACalls P g (ys ++ caps) (· = r)) (hl : lent = true → r.flat) (hs : r.comps.all R1.shared = true) (hf : st.fitsDst o.dst = true) :
    LocT P ops o st ⟨usesT ops o, usesM st o, [], ftW o.dst (some (r.av (tagf (o.dst.getD 0)))), [], none, false, []⟩ := ⟨⟨fun _ t x hw => (by cases hw), fun t cs hw => (by cases hw)⟩, fun s hn hT hM hL _ keep w E a hI N Q hN => by
  have hg' : grd ops s o = some true := by rw [grd_agr hT]; exact hg
  have hv := aval_agr hT
  have hm := agr_of (s := s) (st := st) (o := o) (by rw [ho]; simpa only [usesM, ho] using hM)
  have hops : ∀ x ∈ xs.toList, x ∈ o.op.operands := fun x hx => by
    simp only [ho, Op.operands, Call.operands, Array.mem_append]; exact .inr (by simpa using hx)
  have ha' : (if lent = true then argv s xs.toList else argS s xs.toList) = some ys := by
    rw [argv_agr xs.toList (fun x hx => hv x (hops x hx)) (fun x hx => hm x (hops x hx)), argS_agr xs.toList (fun x hx => hv x (hops x hx))]
    exact ha
  have hfs : aval s f = some (.sv (.fn g caps)) := by
    rw [hv f (by simp only [ho, Op.operands, Call.operands, Array.mem_append]; exact .inl (by simp))]; exact hfn
  have hclo := aval_rep hI hfs
  simp only [RepV, RepS] at hclo
  obtain ⟨cs, hfe, hcs⟩ := hclo
  -- through the call by hand: what is behind it is N
  rw [if_pos (grd_run hI hg')]
  have key : ∀ N' : Act → World → Prop, (∀ a' w' E', Inv keep w' E' (s.imp o.dst r) a' → Evo keep w E w' E' → N' a' w') → o.wp P a w N' Q := fun N' hN' => by
    obtain ⟨g', hc1, hc2⟩ := hc
    cases lent with
    | true =>
      have hcall := hc2 w (· < w.heap.size) (xs.map a.eval ++ cs) ⟨fun b h => h, hI.okl.gw.keep fun b hb => ⟨hI.okl b hb, rfl⟩⟩ (by simpa using (argv_rep hI (by simpa using ha')).append (hcs.keep fun b hb => ⟨hI.okl b hb, rfl⟩))
      have hrun : (execOp a.eval o).run P w = .ok (.enter g' (xs.map a.eval ++ cs)) w := by
        unfold execOp
        rw [ho]
        simp [resolve, Deferred.ofValue, hfe, invoke, hc1]
      unfold Oper.wp
      rw [hrun, Oper.upon_enter]
      refine hcall.mono ?_
      rintro e w' ⟨r', vs, E1, rfl, rfl, h1, h2⟩
      obtain ⟨E2, q1, q2⟩ := hI.import h1 h2 (dst := o.dst) (by
        cases hdst : o.dst with
        | none => rfl
        | some d =>
          rw [hdst] at hf
          simp only [St.fitsDst, decide_eq_true_eq] at hf
          simp [St.impFresh, impF_shared _ _ hs, hn, hf]) (.inr (hl rfl))
      exact hN' _ _ E2 q1 q2
    | false =>
      have hcall := hc2 w E.ok (xs.map a.eval ++ cs) hI.okl (by simpa using (argS_rep hI (by simpa using ha')).append hcs)
      have hrun : (execOp a.eval o).run P w = .ok (.enter g' (xs.map a.eval ++ cs)) w := by
        unfold execOp
        rw [ho]
        simp [resolve, Deferred.ofValue, hfe, invoke, hc1]
      unfold Oper.wp
      rw [hrun, Oper.upon_enter]
      refine hcall.mono ?_
      rintro e w' ⟨r', vs, E1, rfl, rfl, h1, h2⟩
      obtain ⟨E2, q1, q2⟩ := hI.import h1 h2 (dst := o.dst) (by
        cases hdst : o.dst with
        | none => rfl
        | some d =>
          rw [hdst] at hf
          simp only [St.fitsDst, decide_eq_true_eq] at hf
          simp [St.impFresh, impF_shared _ _ hs, hn, hf]) (.inl fun b h => h)
      exact hN' _ _ E2 q1 q2
  refine key N fun a' w' E' h1 h2 => hN a' w' E' ?_ h2
  have e : s.imp o.dst r = s.upd ⟨usesT ops o, usesM st o, [], ftW o.dst (some (r.av (tagf (o.dst.getD 0)))), [], none, false, []⟩ := by
    unfold St.imp St.upd ftW upo upm
    cases o.dst with
    | none => rfl
    | some d => simp [impM_shared _ _ _ hs]
  rwa [e] at h1⟩
theorem OpD.callF {P : Program} {Q : Exit → St → Prop} {D : List Nat} {ops : Array Oper} {o : Oper} {l : List Oper} {fs : List Ft} {k : List Fr} {st : St} {f : Operand} {g : FuncId} {caps : List SV} {xs : Array Operand} {ts : Array TypeId} {ys : List SV} {r : RV} (lent : Bool)
    (hc : ACalls P g (ys ++ caps) (· = r)) (ho : o.op = .call { callee := .value f, args := xs, argTypes := ts }) (hg : grd ops st o = some true) (hfn : aval st f = some (.sv (.fn g caps)))
    (ha : (if lent = true then argv st xs.toList else argS st xs.toList) = some ys) (hl : lent = true → r.flat) (hs : r.comps.all R1.shared = true) (hf : st.fitsDst o.dst = true)
    (h : Ab.rd P Q D ops l (⟨usesT ops o, usesM st o, [], ftW o.dst (some (r.av (tagf (o.dst.getD 0)))), [], none, false, []⟩ :: fs) k (st.put o.dst (r.av (tagf (o.dst.getD 0))))) : OpD P Q D ops o l fs k st := by
  obtain ⟨fs', st', h1, h2, h3⟩ := rd_sound _ _ _ h
  have e : st.put o.dst (r.av (tagf (o.dst.getD 0))) = st.upd ⟨usesT ops o, usesM st o, [], ftW o.dst (some (r.av (tagf (o.dst.getD 0)))), [], none, false, []⟩ := by
    unfold St.put St.upd ftW upo upm
    cases o.dst <;> rfl
  rw [e] at h1
  exact ⟨_ :: fs', st', .cons (loc_callF lent hg ho hfn ha hc hl hs hf) h1, by simpa using h2, h3⟩
theorem does_buildA {P : Program} {o : Oper} {st : St} {ty e : TypeId} {n : Nat} {ps : Array (Nat × Operand)} {xs : List SV} (ho : o.op = .build ty ps) {z : Value} (hz : tzero P ty = some z) (ha : aelem P ty = some (n, e)) (hxs : afill st (fun i => some (i * tsz P e, tsz P e)) (z.cells.toList.map svC) ps.toList = some xs)
    (hd : st.fitsDst o.dst = true) : Does P o st (st.put o.dst (.sv (.agg xs))) := by
  refine Does.puts hd fun keep w E a hI => ?_
  obtain ⟨us, h1, h2⟩ := fill_run hI ps.toList (vs := z.cells) hxs (svC_repL w E.ok _)
  refine ⟨.agg us, ?_, by simp only [RepV, RepS]; exact ⟨us, rfl, h2⟩⟩
  obtain ⟨hu, hi⟩ := aelem_eq ha
  unfold execOp
  rw [ho]
  dsimp only
  simp [Instr.build, run_underlying hu, run_zeroValue hz, run_sizeOf hi, h1]
/-- An operation, by what it does. -/
theorem OpW.does {P : Program} {Q : Exit → St → Prop} {ops : Array Oper} {l : List Oper} {k : List Fr} {o : Oper} {st st' : St} (hd : Does P o st st') (hg : grd ops st o = some true) (h : Ab.rn P Q ops l k st') : OpW P Q ops o l k st := Rn.step hg hd (RnK.rn h)
theorem OpW.buildA {P : Program} {Q : Exit → St → Prop} {ops : Array Oper} {l : List Oper} {k : List Fr} {o : Oper} {st : St} {ty e : TypeId} {n : Nat} {ps : Array (Nat × Operand)} {xs : List SV} {z : Value} (ho : o.op = .build ty ps) (hg : grd ops st o = some true) (hz : tzero P ty = some z) (ha : aelem P ty = some (n, e)) (hxs : afill st (fun i => some (i * tsz P e, tsz P e)) (z.cells.toList.map svC) ps.toList = some xs)
    (hd : st.fitsDst o.dst = true) (h : Ab.rn P Q ops l k (st.put o.dst (.sv (.agg xs)))) : OpW P Q ops o l k st := OpW.does (does_buildA ho hz ha hxs hd) hg h
/-! ### Bytes that are marked as a string's -/
section
variable {w w' : World} {ok : Nat → Prop}
theorem RepS.cellsEq (h : ∀ a, w'.cell? a = w.cell? a) : ∀ {x : SV} {v : Value}, RepS w ok x v → RepS w' ok x v := by
  intro x
  refine SV.rec (motive_1 := fun x => ∀ {v : Value}, RepS w ok x v → RepS w' ok x v) (motive_2 := fun xs => ∀ {vs : List Value}, RepL w ok xs vs → RepL w' ok xs vs) ?_ ?_ ?_ ?_ ?_ ?_ ?_ ?_ x
  · intro v _; simp only [RepS]
  · intro u v h; simpa only [RepS] using h
  · intro xs ih v h
    simp only [RepS] at h ⊢
    obtain ⟨cs, rfl, h⟩ := h
    exact ⟨cs, rfl, ih h⟩
  · intro xs ih v k
    simp only [RepS] at k ⊢
    obtain ⟨a, c, rfl, hc, k⟩ := k
    refine ⟨a, c, rfl, hc, ?_⟩
    rcases k with k | ⟨ad, sz, vs, rfl, ho, hr, hat⟩
    · exact .inl k
    · exact .inr ⟨ad, sz, vs, rfl, ho, ih hr, fun i u hu => ⟨(hat i u hu).1, fun j y hy => (h _).trans ((hat i u hu).2 j y hy)⟩⟩
  · intro x off ih v k
    simp only [RepS] at k ⊢
    obtain ⟨a, u, rfl, ho, hx, hat⟩ := k
    exact ⟨a, u, rfl, ho, ih hx, fun j y hy => (h _).trans (hat j y hy)⟩
  · intro f caps ih v h
    simp only [RepS] at h ⊢
    obtain ⟨cs, rfl, h⟩ := h
    exact ⟨cs, rfl, ih h⟩
  · intro vs h; simpa only [RepL] using h
  · intro x xs ihx ihs vs h
    simp only [RepL] at h ⊢
    obtain ⟨v, vs', rfl, hx, hs⟩ := h
    exact ⟨v, vs', rfl, ihx hx, ihs hs⟩
theorem RepL.cellsEq (h : ∀ a, w'.cell? a = w.cell? a) : ∀ {xs : List SV} {vs : List Value}, RepL w ok xs vs → RepL w' ok xs vs
  | [], _, k => by simpa only [RepL] using k
  | x :: xs, vs, k => by
    simp only [RepL] at k ⊢
    obtain ⟨v, vs', rfl, hx, hs⟩ := k
    exact ⟨v, vs', rfl, hx.cellsEq h, hs.cellsEq h⟩
theorem RepV.cellsEq {E : Env} {m : Mem} (h : ∀ a, w'.cell? a = w.cell? a) : ∀ {x : AV} {v : Value}, RepV w E m x v → RepV w' E m x v := by
  intro x
  refine AV.rec (motive_1 := fun x => ∀ {v : Value}, RepV w E m x v → RepV w' E m x v) (motive_2 := fun l => ∀ {vs : List Value}, RepVL w E m l vs → RepVL w' E m l vs) ?_ ?_ ?_ ?_ ?_ ?_ ?_ ?_ ?_ ?_ ?_ x
  · intro x v k; simp only [RepV] at k ⊢; exact k.cellsEq h
  · intro v k; simpa only [RepV] using k
  · intro t v k; simpa only [RepV] using k
  · intro t o v k; simpa only [RepV] using k
  · intro t i o v k; simpa only [RepV] using k
  · intro xs ih v k
    simp only [RepV] at k ⊢
    obtain ⟨cs, rfl, k⟩ := k
    exact ⟨cs, rfl, ih k⟩
  · intro f xs ih v k
    simp only [RepV] at k ⊢
    obtain ⟨cs, rfl, k⟩ := k
    exact ⟨cs, rfl, ih k⟩
  · intro xs ih v k
    simp only [RepV] at k ⊢
    obtain ⟨cs, rfl, k⟩ := k
    exact ⟨cs, rfl, ih k⟩
  · intro t n v k; simpa only [RepV] using k
  · intro vs k; simpa only [RepVL] using k
  · intro x xs ihx ihs vs k
    simp only [RepVL] at k ⊢
    obtain ⟨v, vs', rfl, hx, hs⟩ := k
    exact ⟨v, vs', rfl, ihx hx, ihs hs⟩
theorem RepVL.cellsEq {E : Env} {m : Mem} (h : ∀ a, w'.cell? a = w.cell? a) : ∀ {xs : List AV} {vs : List Value}, RepVL w E m xs vs → RepVL w' E m xs vs
  | [], _, k => by simpa only [RepVL] using k
  | x :: xs, vs, k => by
    simp only [RepVL] at k ⊢
    obtain ⟨v, vs', rfl, hx, hs⟩ := k
    exact ⟨v, vs', rfl, hx.cellsEq h, hs.cellsEq h⟩
end
theorem cell_freeze (w : World) (a : Addr) (n : Nat) (b : Addr) : (w.freeze a n).cell? b = w.cell? b := by
  unfold World.freeze
  split
  · rfl
  · unfold World.cell?
    simp only [Array.getElem?_modify]
    by_cases hbk : a.block = b.block
    · rw [if_pos hbk, ← hbk]
      cases w.heap[a.block]? with
      | none => rfl
      | some o => cases o <;> rfl
    · rw [if_neg hbk]
theorem heap_freeze (w : World) (a : Addr) (n b : Nat) (h : a.block ≠ b) : (w.freeze a n).heap[b]? = w.heap[b]? := by
  unfold World.freeze
  split
  · rfl
  · simp [Array.getElem?_modify, h]
theorem does_mark {P : Program} {o : Oper} {st : St} {ty e : TypeId} {x : Operand} {t : Nat} {xs : List SV} (ho : o.op = .convert ty ty x) (hx : aval st x = some (.own t)) (hm : lk st.m t = some (.row 1 xs)) (hne : xs ≠ []) (he : selem P ty = some e) (hu : P.underlying e = some (.int .u8)) (hd : st.fitsDst o.dst = true) :
    Does P o st ((st.freeze t).put o.dst (.sv (.lst xs))) := by
  intro keep w E a hI
  have hv := aval_rep hI hx
  have hmm := hI.mm t _ hm
  simp only [RepV, hm] at hv
  obtain ⟨h0, hmm'⟩ := hmm
  rcases hmm' with ⟨_, h⟩ | ⟨g, c, ee, cur, vs, h1, h2, h3, h4, h5, h6, h7, h8⟩
  · exact absurd h hne
  rw [h1] at hv
  have hg := hI.own t _ g c 1 hm h1
  obtain ⟨E', k1, k2⟩ := freeze_inv hI t
  have hsh : RepV w E' (lk (st.freeze t).m) (.sv (.lst xs)) (a.eval x) := by
    cases x with
    | tmp d =>
      have h := k1.tm d (.sv (.lst xs)) (by unfold St.freeze; rw [hm]; simp only [lk_mapv]; rw [show lk st.t d = some (.own t) from hx]; simp [AV.frz])
      obtain ⟨v, e1, e2⟩ := h
      simp only [Act.eval]
      rw [Array.getD_eq_getD_getElem?, e1]
      exact e2
    | const v =>
      simp only [aval, Option.some.injEq] at hx
      unfold avC at hx
      split at hx <;> cases hx
    | func f => simp [aval] at hx
    | global g =>
      simp only [aval] at hx
      obtain ⟨_, _, h⟩ := Option.map_eq_some_iff.1 hx
      cases h
  rw [hv] at hsh
  have hgok : E'.ok g := by
    simp only [RepV, RepS] at hsh
    obtain ⟨b, c', e1, _, hor⟩ := hsh
    rcases hor with h | ⟨ad, sz, vs', rfl, hk, _⟩
    · exact absurd h hne
    · simp only [Value.slice.injEq, Option.some.injEq] at e1
      rw [← e1.1] at hk; exact hk
  obtain ⟨hus, hui⟩ := selem_eq he
  have hshape : w.shape? g = some (ee, cur.size) := by unfold World.shape?; rw [h2]
  have hrun : (execOp a.eval o).run P w = .ok (.value (.slice (some ⟨g, 0, none⟩) xs.length c)) (w.freeze ⟨g, cur.size, none⟩ 1) := by
    unfold execOp
    rw [ho]
    simp [hv, convert, run_underlying hus, run_underlying hu, markStringish, hshape]
  have hsz : (w.freeze ⟨g, cur.size, none⟩ 1).heap.size = w.heap.size := by unfold World.freeze; simp
  have hce := cell_freeze w ⟨g, cur.size, none⟩ 1
  have hhe : ∀ b, g ≠ b → (w.freeze ⟨g, cur.size, none⟩ 1).heap[b]? = w.heap[b]? := fun b hb => heap_freeze w ⟨g, cur.size, none⟩ 1 b hb
  generalize hw2 : w.freeze ⟨g, cur.size, none⟩ 1 = w2 at hrun hsz hce hhe
  have hos : w2.os = w.os ∧ w2.tape = w.tape ∧ w2.output = w.output := by rw [← hw2]; exact ⟨rfl, rfl, rfl⟩
  have hmem : ∀ s o, lk (st.freeze t).m s = some o → MemRep w2 E' (lk (st.freeze t).m) s o := fun s o hs => by
    have hM := k1.mm s o hs
    cases o with
    | row sz ys =>
      obtain ⟨q0, q⟩ := hM
      refine ⟨q0, ?_⟩
      rcases q with q | ⟨g', c', e', cur', vs', q1, q2, q3, q4, q5, q6, q7, q8⟩
      · exact .inl q
      · refine .inr ⟨g', c', e', cur', vs', q1, ?_, q3, q4, q5, q6, q7.cellsEq hce, q8⟩
        rw [hhe g' (fun h => (k1.own s _ g' c' sz hs q1).2.1 (h ▸ hgok))]; exact q2
    | box cs =>
      obtain ⟨g', c', sz', e', cur', q1, q2, q3⟩ := hM
      refine ⟨g', c', sz', e', cur', q1, ?_, q3.cellsEq hce⟩
      rw [hhe g' (fun h => (k1.own s _ g' c' sz' hs q1).2.1 (h ▸ hgok))]; exact q2
  have hI2 : Inv keep w2 E' (st.freeze t) a := ⟨k1.df, k1.sz, fun d x hx => let ⟨v, e1, e2⟩ := k1.tm d x hx; ⟨v, e1, e2.cellsEq hce⟩, hmem, k1.inj,
    fun s o g' c' s' q1 q2 => by rw [hsz]; exact k1.own s o g' c' s' q1 q2, ⟨fun b hb => by rw [hsz]; exact k1.okl.lt b hb, fun g' x hx => (k1.okl.gw g' x hx).cellsEq hce⟩, fun b hb => by rw [hsz]; exact k1.kpl b hb⟩
  refine ⟨_, w2, E', .inl hrun, hI2.put (by
    have : (st.freeze t).n = st.n := by unfold St.freeze; rw [hm]
    cases hdst : o.dst with
    | none => rfl
    | some k => rw [hdst] at hd; simpa [St.fitsDst, this] using hd) (hsh.cellsEq hce), ⟨hos.1, hos.2.1, hos.2.2, by rw [hsz]; exact Nat.le_refl _, fun b hb => ?_, fun b hb => ⟨(k2.oks b hb).1, ?_⟩, k2.new, k2.pin⟩⟩
  · exact hhe b (fun h => hg.2.2 (h ▸ hb))
  · exact hhe b (fun h => hg.2.1 (h ▸ hb))
theorem OpW.mark {P : Program} {Q : Exit → St → Prop} {ops : Array Oper} {l : List Oper} {k : List Fr} {o : Oper} {st : St} {ty e : TypeId} {x : Operand} {t : Nat} {xs : List SV} (ho : o.op = .convert ty ty x) (hg : grd ops st o = some true) (hx : aval st x = some (.own t)) (hm : lk st.m t = some (.row 1 xs)) (hne : xs ≠ []) (he : selem P ty = some e) (hu : P.underlying e = some (.int .u8)) (hd : st.fitsDst o.dst = true)
    (h : Ab.rn P Q ops l k ((st.freeze t).put o.dst (.sv (.lst xs)))) : OpW P Q ops o l k st := OpW.does (does_mark ho hx hm hne he hu hd) hg h
end Go.Proofs.YtfcojlagmmgagaaDoor.Ab
