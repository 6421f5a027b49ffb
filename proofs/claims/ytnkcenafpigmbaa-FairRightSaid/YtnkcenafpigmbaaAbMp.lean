/- A map of numbers that a call makes: code is run beside it; it is asked, and told. -/
import Derived.Test.YtnkcenafpigmbaaAbXs
import Derived.MapKept
namespace Go.Proofs.Ytnkcenafpigmbaa.Ab
open Go.RowKit
set_option linter.unusedVariables false
set_option linter.unusedSimpArgs false

theorem wpList_app {P : Program} {ops : Array Oper} {Q : Exit → Act → World → Prop} (l2 : List Oper) : ∀ {l1 : List Oper} {a : Act} {w : World},
    wpList P ops (fun e a w => (e = .normal ∧ wpList P ops Q l2 a w)) l1 a w → wpList P ops Q (l1 ++ l2) a w
  | [], a, w, h => by
    unfold wpList at h
    exact h.2
  | o :: l, a, w, h => by
    rw [List.cons_append]
    unfold wpList at h ⊢
    split at h
    · rename_i hw
      rw [if_pos hw]
      rcases h with h | ⟨h1, a0, w0, h2⟩
      · left
        have key : ∀ {r : Result Next}, o.upon P a (wpList P ops (fun e a w => (e = .normal ∧ wpList P ops Q l2 a w)) l) (fun e a w => (e = .normal ∧ wpList P ops Q l2 a w)) r → o.upon P a (wpList P ops Q (l ++ l2)) Q r := by
          intro r hr
          unfold Oper.upon at hr ⊢
          split at hr
          · exact wpList_app l2 hr
          · exact wpList_app l2 hr
          · exact wpList_app l2 hr
          · refine Calls.mono hr ?_
            intro e w' he
            cases e with
            | returned v => exact wpList_app l2 he
            | panicked c => exact absurd he.1 (by simp)
            | outgrown => obtain ⟨a1, w1, h1⟩ := he; exact absurd h1.1 (by simp)
          · refine Rows.mono hr ?_
            intro v w' he
            exact wpList_app l2 he
          · exact absurd hr.1 (by simp)
          · exact hr.elim
        exact key h
      · exact absurd h2.1 (by simp)
    · rename_i hw
      rw [if_neg hw]
      exact wpList_app l2 h
/-- What a map's block holds: numbers that lead to what f tells of them; those of S are among them. -/
def MapAt (w : World) (r : Nat) (f : Int → Int) (S : List Int) : Prop :=
  ∃ es clock, w.heap[r]? = some (.map es clock) ∧ (∀ x ∈ es.toList, ∃ k : Int, x.key = .int .i64 k ∧ x.val = .int .i64 (f k)) ∧ ∀ k ∈ S, ∃ x ∈ es.toList, x.key = .int .i64 k
def kpr (keep : Nat → Prop) (r : Nat) (b : Nat) : Prop := keep b ∨ b = r
structure MIn (keep : Nat → Prop) (w : World) (E : Env) (st : St) (a : Act) (r : Nat) (f : Int → Int) (S : List Int) : Prop where
  inv : Inv (kpr keep r) w E st a
  nok : ¬ E.ok r
  nkp : ¬ keep r
  map : MapAt w r f S
section
variable {keep keep' : Nat → Prop} {w w' : World} {E E' : Env} {st st' : St} {a a' : Act} {r : Nat} {f : Int → Int} {S : List Int}
theorem Evo.sub (h : Evo keep' w E w' E') (hs : ∀ b, keep b → keep' b) : Evo keep w E w' E' :=
  ⟨h.os, h.tape, h.output, h.size, fun b hb => h.kp b (hs b hb), h.oks, fun b hb => (h.new b hb).imp id fun hn hk => hn (hs b hk), h.pin, h.drawn⟩
theorem Inv.sub (h : Inv keep' w E st a) (hs : ∀ b, keep b → keep' b) : Inv keep w E st a :=
  ⟨h.df, h.sz, h.tm, h.mm, h.inj, fun t o g c s k1 k2 => ⟨(h.own t o g c s k1 k2).1, (h.own t o g c s k1 k2).2.1, fun hk => (h.own t o g c s k1 k2).2.2 (hs _ hk)⟩, h.okl, fun b hb => h.kpl b (hs b hb)⟩
/-- The world turned where nothing lies that is told of. -/
theorem Inv.aside (h : Inv keep w E st a) (hsz : w.heap.size ≤ w'.heap.size) (hold : ∀ b, (E.ok b ∨ ∃ t o c s, lk st.m t = some o ∧ E.at_ t = some (b, c, s)) → w'.heap[b]? = w.heap[b]?) : Inv keep w' E st a := by
  have hk : ∀ b, E.ok b → E.ok b ∧ w'.heap[b]? = w.heap[b]? := fun b hb => ⟨hb, hold b (.inl hb)⟩
  have hp : ∀ s, Pass E E (lk st.m) (lk st.m) s := fun s => same_tags E (lk st.m) s
  exact ⟨h.df, h.sz, fun d x hx => let ⟨v, k1, k2⟩ := h.tm d x hx; ⟨v, k1, k2.keep hk (fun t _ => hp t)⟩,
    fun t o ho => (h.mm t o ho).keep hk rfl (fun g c s hg => hold g (.inr ⟨t, o, c, s, ho, hg⟩)) (fun s _ _ _ => hp s),
    h.inj, fun t o g c s k1 k2 => ⟨Nat.lt_of_lt_of_le (h.own t o g c s k1 k2).1 hsz, (h.own t o g c s k1 k2).2⟩, ⟨fun b hb => Nat.lt_of_lt_of_le (h.okl b hb) hsz, h.okl.gw.keep hk⟩, fun b hb => Nat.lt_of_lt_of_le (h.kpl b hb) hsz⟩
/-- Behind code that runs beside it. -/
theorem MIn.next (h : MIn keep w E st a r f S) (hI : Inv (kpr keep r) w' E' st' a') (he : Evo (kpr keep r) w E w' E') : MIn keep w' E' st' a' r f S ∧ Evo keep w E w' E' := by
  refine ⟨⟨hI, fun hk => ?_, h.nkp, ?_⟩, he.sub fun b hb => .inl hb⟩
  · rcases he.new r hk with h1 | h1
    · exact h.nok h1
    · exact h1 (.inr rfl)
  · obtain ⟨es, c, h1, h2⟩ := h.map
    exact ⟨es, c, (he.kp r (.inr rfl)).trans h1, h2⟩
theorem MIn.put (h : MIn keep w E st a r f S) {dst : Option Nat} {x : AV} {v : Value} (hd : st.fitsDst dst = true) (hx : RepV w E (lk st.m) x v) : MIn keep w E (st.put dst x) (a.put dst v) r f S :=
  ⟨h.inv.put hd hx, h.nok, h.nkp, h.map⟩
end

/-! ### Triples beside a map -/
def MTr (P : Program) (r : Nat) (f : Int → Int) (c : Code) (Q : Exit → St → List Int → Prop) (S : List Int) (st : St) : Prop :=
  ∀ (keep : Nat → Prop) (w : World) (E : Env) (a : Act), MIn keep w E st a r f S → c.wp P (fun e a' w' => ∃ st' E' S', MIn keep w' E' st' a' r f S' ∧ Evo keep w E w' E' ∧ Q e st' S') a w
def MRn (P : Program) (r : Nat) (f : Int → Int) (ops : Array Oper) (l : List Oper) (K : St → List Int → Prop) (S : List Int) (st : St) : Prop :=
  ∀ (keep : Nat → Prop) (w : World) (E : Env) (a : Act), MIn keep w E st a r f S → wpList P ops (fun e a' w' => ∃ st' E' S', MIn keep w' E' st' a' r f S' ∧ Evo keep w E w' E' ∧ e = .normal ∧ K st' S') l a w
def mthenQ (K : St → List Int → Prop) (Q : Exit → St → List Int → Prop) : Exit → St → List Int → Prop
  | .normal, st, S => K st S
  | e, st, S => Q e st S
def mblockQ (id : Nat) (Q : Exit → St → List Int → Prop) : Exit → St → List Int → Prop
  | .exit i, st, S => if i = id then Q .normal st S else Q (.exit i) st S
  | e, st, S => Q e st S
section
variable {P : Program} {r : Nat} {f : Int → Int} {Q : Exit → St → List Int → Prop} {K : St → List Int → Prop} {S : List Int} {st : St} {ops : Array Oper} {l : List Oper} {o : Oper}
theorem MTr.of {c : Code} (h : Tr P c (fun e st' => Q e st' S) st) : MTr P r f c Q S st := fun keep w E a hM =>
  Code.wp_mono (fun e a' w' ⟨st', E', h1, h2, h3⟩ => by
    obtain ⟨k1, k2⟩ := hM.next h1 h2
    exact ⟨st', E', S, k1, k2, h3⟩) (h (kpr keep r) w E a hM.inv)
theorem MTr.seq {x y : Code} (h : MTr P r f x (mthenQ (fun st' S' => MTr P r f y Q S' st') Q) S st) : MTr P r f (.seq x y) Q S st := fun keep w E a hM => by
  refine wp_seq (Code.wp_mono ?_ (h keep w E a hM))
  rintro e a' w' ⟨st', E', S', h1, h2, h3⟩
  cases e with
  | normal =>
    refine Code.wp_mono ?_ (h3 keep w' E' a' h1)
    rintro e a2 w2 ⟨st2, E2, S2, k1, k2, k3⟩
    exact ⟨st2, E2, S2, k1, h2.trans k2, k3⟩
  | _ => exact ⟨st', E', S', h1, h2, h3⟩
theorem MTr.block {id : Nat} {c : Code} (h : MTr P r f c (mblockQ id Q) S st) : MTr P r f (.block id c) Q S st := fun keep w E a hM => by
  refine wp_block (Code.wp_mono ?_ (h keep w E a hM))
  rintro e a' w' ⟨st', E', S', h1, h2, h3⟩
  cases e with
  | exit i =>
    simp only [mblockQ, Exit.inBlock] at h3 ⊢
    split at h3
    · rw [if_pos ‹_›]; exact ⟨st', E', S', h1, h2, h3⟩
    · rw [if_neg ‹_›]; exact ⟨st', E', S', h1, h2, h3⟩
  | _ => exact ⟨st', E', S', h1, h2, h3⟩
theorem MTr.cond {c : Operand} {x y : Code} {b : Bool} (hc : aval st c = some (.sv (.val (.bool b)))) (ht : b = true → MTr P r f x Q S st) (hf : b = false → MTr P r f y Q S st) : MTr P r f (.cond c x y) Q S st := fun keep w E a hM => by
  have hv := (aval_rep hM.inv hc).val
  cases b with
  | true => exact wp_cond (t := true) hv (ht rfl keep w E a hM)
  | false => exact wp_cond (t := false) hv (hf rfl keep w E a hM)
theorem MTr.region {id : Nat} {l : List Oper} (h : MRn P r f l.toArray l (fun st' S' => Q .normal st' S') S st) : MTr P r f (.region id l.toArray false) Q S st := fun keep w E a hM => by
  refine wp_region_lit (Rn.freeze.wpList_mono' ?_ (h keep w E a hM))
  rintro e a' w' ⟨st', E', S', h1, h2, rfl, h3⟩
  exact ⟨st', E', S', h1, h2, h3⟩
theorem MTr.ent {c : Code} {st' : St} (h : Ent st st') (k : MTr P r f c Q S st') : MTr P r f c Q S st := fun keep w E a hM => by
  obtain ⟨E1, h1, h2⟩ := h (kpr keep r) w E a hM.inv
  obtain ⟨m1, m2⟩ := hM.next h1 h2
  refine Code.wp_mono ?_ (k keep w E1 a m1)
  rintro e a2 w2 ⟨st2, E2, S2, k1, k2, k3⟩
  exact ⟨st2, E2, S2, k1, m2.trans k2, k3⟩
theorem MTr.loop {c : Code} {σ : Type} (T : σ → St) (I : σ → Prop) (μ : σ → Nat) (s0 : σ) (h0 : I s0) (hst : Ent st (T s0))
    (round : ∀ s, I s → MTr P r f c (mthenQ (fun st' _ => ∃ s', I s' ∧ μ s' < μ s ∧ Ent st' (T s')) Q) [] (T s)) : MTr P r f (.loop c) Q S st := fun keep w E a hM => by
  obtain ⟨E0, k1, k2⟩ := hst (kpr keep r) w E a hM.inv
  obtain ⟨m1, m2⟩ := hM.next k1 k2
  refine wp_loop' (fun n a' w' => ∃ s E' S', μ s = n ∧ I s ∧ MIn keep w' E' (T s) a' r f S' ∧ Evo keep w E w' E') ?_ ⟨s0, E0, S, rfl, h0, m1, m2⟩
  rintro n a1 w1 ⟨s, E1, S1, rfl, hs, q1, q2⟩
  have q1' : MIn keep w1 E1 (T s) a1 r f [] := ⟨q1.inv, q1.nok, q1.nkp, by
    obtain ⟨es, cl, e1, e2, _⟩ := q1.map
    exact ⟨es, cl, e1, e2, fun k hk => by cases hk⟩⟩
  refine Code.wp_mono ?_ (round s hs keep w1 E1 a1 q1')
  rintro e a2 w2 ⟨st2, E2, S2, r1, r2, r3⟩
  cases e with
  | normal =>
    obtain ⟨s', hs', hlt, hent⟩ := r3
    obtain ⟨E3, u1, u2⟩ := hent (kpr keep r) w2 E2 a2 r1.inv
    obtain ⟨m3, m4⟩ := r1.next u1 u2
    exact ⟨μ s', hlt, s', E3, S2, rfl, hs', m3, q2.trans (r2.trans m4)⟩
  | _ => exact ⟨st2, E2, S2, r1, q2.trans r2, r3⟩
/-- A part of a region that has nothing to do with the map; then more. -/
theorem MRn.cut (k : Nat) (h : Rn P ops (l.take k) (fun st' => MRn P r f ops (l.drop k) K S st') st) : MRn P r f ops l K S st := fun keep w E a hM => by
  rw [← List.take_append_drop k l]
  refine wpList_app _ (Rn.freeze.wpList_mono' ?_ (h (kpr keep r) w E a hM.inv))
  rintro e a' w' ⟨st', E', h1, h2, rfl, h3⟩
  obtain ⟨k1, k2⟩ := hM.next h1 h2
  refine ⟨rfl, Rn.freeze.wpList_mono' ?_ (h3 keep w' E' a' k1)⟩
  rintro e a2 w2 ⟨st2, E2, S2, q1, q2, q3⟩
  exact ⟨st2, E2, S2, q1, k2.trans q2, q3⟩
theorem MRn.nil (h : K st S) : MRn P r f ops [] K S st := fun keep w E a hM => ⟨st, E, S, hM, Evo.refl _ _ _, rfl, h⟩
theorem i64_key (k : Int) : MapKept.IsKey (.int .i64) (.int .i64 k) := by simp [MapKept.IsKey]
/-- One operation. -/
theorem MRn.one (hg : grd ops st o = some true) (h : ∀ (keep : Nat → Prop) (w : World) (E : Env) (a : Act), MIn keep w E st a r f S →
      ∃ v w' st' S', ((execOp a.eval o).run P w = .ok (.value v) w' ∨ ((execOp a.eval o).run P w = .ok .skip w' ∧ v = undef)) ∧ MIn keep w' E st' (a.put o.dst v) r f S' ∧ Evo keep w E w' E ∧ MRn P r f ops l K S' st') : MRn P r f ops (o :: l) K S st := fun keep w E a hM => by
  obtain ⟨v, w', st', S', h1, h2, h3, h4⟩ := h keep w E a hM
  unfold wpList
  rw [if_pos (grd_run hM.inv hg)]
  have key : wpList P ops (fun e a' w' => ∃ st' E' S', MIn keep w' E' st' a' r f S' ∧ Evo keep w E w' E' ∧ e = .normal ∧ K st' S') l (a.put o.dst v) w' := by
    refine Rn.freeze.wpList_mono' ?_ (h4 keep w' E (a.put o.dst v) h2)
    rintro e a2 w2 ⟨st2, E2, S2, q1, q2, q3⟩
    exact ⟨st2, E2, S2, q1, h3.trans q2, q3⟩
  left
  unfold Oper.wp
  rcases h1 with h1 | ⟨h1, rfl⟩
  · rw [h1]; exact key
  · rw [h1]; exact key
/-- The map is asked. -/
theorem look_cases {k : Int} {w : World} {t kt et : TypeId} (ht : P.underlying t = some (.map kt et)) (hk : P.underlying kt = some (.int .i64)) (hz : (zeroValue et).run P w = .ok (.int .i64 0) w) (h : MapAt w r f S) (b : Bool) :
    ((k ∉ S ∧ (Instr.lookup t (.map (some r)) (.int .i64 k) b).run P w = .ok (if b then .tuple #[.int .i64 0, .bool false] else .int .i64 0) w)) ∨
    ((Instr.lookup t (.map (some r)) (.int .i64 k) b).run P w = .ok (if b then .tuple #[.int .i64 (f k), .bool true] else .int .i64 (f k)) w ∧ MapAt w r f (k :: S)) := by
  obtain ⟨es, cl, hb, he, hS⟩ := h
  have hks : ∀ x ∈ es.toList, MapKept.IsKey (.int .i64) x.key := fun x hx => by
    obtain ⟨k', e1, _⟩ := he x hx
    rw [e1]; exact i64_key k'
  rcases MapKept.findNow_spec (i64_key k) es.toList 0 hks with ⟨h1, h2⟩ | ⟨j, e, h1, h2, h3⟩
  · left
    refine ⟨fun hm => ?_, ?_⟩
    · obtain ⟨x, hx, e⟩ := hS k hm
      exact h2 x hx e
    · cases b <;> simp [Instr.lookup, run_underlying ht, MapKept.run_getObj_map hb, MapKept.run_checkKey hk (i64_key k), MapKept.run_findKey hk h1, hz, Result.andThen]
  · right
    have hm : e ∈ es.toList := List.mem_of_getElem? h2
    obtain ⟨k', e1, e2⟩ := he e hm
    rw [h3] at e1
    simp only [Value.int.injEq, true_and] at e1
    subst e1
    refine ⟨?_, es, cl, hb, he, fun z hz => ?_⟩
    · cases b <;> simp [Instr.lookup, run_underlying ht, MapKept.run_getObj_map hb, MapKept.run_checkKey hk (i64_key k), MapKept.run_findKey hk h1, e2, Result.andThen]
    · rcases List.mem_cons.1 hz with rfl | hz
      · exact ⟨e, hm, h3⟩
      · exact hS z hz
/-- Asked, whether it has a number. -/
theorem MRn.ask {t kt et : TypeId} {m x : Operand} {k : Int} (ho : o.op = .lookup t m x true) (hg : grd ops st o = some true) (hm : aval st m = some (.sv (.val (.map (some r))))) (hx : aval st x = some (.sv (.val (.int .i64 k))))
    (ht : P.underlying t = some (.map kt et)) (hk : P.underlying kt = some (.int .i64)) (hz : tzero P et = some (.int .i64 0)) (hd : st.fitsDst o.dst = true)
    (h1 : MRn P r f ops l K (k :: S) (st.put o.dst (.tup [.sv (.val (.int .i64 (f k))), .sv (.val (.bool true))])))
    (h2 : MRn P r f ops l K S (st.put o.dst (.tup [.sv (.val (.int .i64 0)), .sv (.val (.bool false))]))) : MRn P r f ops (o :: l) K S st := by
  refine MRn.one hg fun keep w E a hM => ?_
  have em := (aval_rep hM.inv hm).val
  have ex := (aval_rep hM.inv hx).val
  have hrun : ∀ v, (Instr.lookup t (.map (some r)) (.int .i64 k) true).run P w = .ok v w → (execOp a.eval o).run P w = .ok (.value v) w := fun v hv => by
    unfold execOp
    rw [ho]
    simp [em, ex, hv, Result.andThen]
  rcases look_cases (k := k) (w := w) ht hk (run_zeroValue hz) hM.map true with ⟨_, q⟩ | ⟨q, q2⟩
  · simp only [if_true] at q
    exact ⟨_, w, _, S, .inl (hrun _ q), hM.put hd (by simp [RepV, RepVL, RepS]), Evo.refl _ _ _, h2⟩
  · simp only [if_true] at q
    refine ⟨_, w, _, k :: S, .inl (hrun _ q), MIn.put ⟨hM.inv, hM.nok, hM.nkp, q2⟩ hd (by simp [RepV, RepVL, RepS]), Evo.refl _ _ _, h1⟩
/-- Asked for what it has. -/
theorem MRn.get {t kt et : TypeId} {m x : Operand} {k : Int} (ho : o.op = .lookup t m x false) (hg : grd ops st o = some true) (hm : aval st m = some (.sv (.val (.map (some r))))) (hx : aval st x = some (.sv (.val (.int .i64 k))))
    (ht : P.underlying t = some (.map kt et)) (hk : P.underlying kt = some (.int .i64)) (hz : tzero P et = some (.int .i64 0)) (hd : st.fitsDst o.dst = true) (hS : k ∈ S)
    (h1 : MRn P r f ops l K S (st.put o.dst (.sv (.val (.int .i64 (f k)))))) : MRn P r f ops (o :: l) K S st := by
  refine MRn.one hg fun keep w E a hM => ?_
  have em := (aval_rep hM.inv hm).val
  have ex := (aval_rep hM.inv hx).val
  have hrun : ∀ v, (Instr.lookup t (.map (some r)) (.int .i64 k) false).run P w = .ok v w → (execOp a.eval o).run P w = .ok (.value v) w := fun v hv => by
    unfold execOp
    rw [ho]
    simp [em, ex, hv, Result.andThen]
  rcases look_cases (k := k) (w := w) ht hk (run_zeroValue hz) hM.map false with ⟨q, _⟩ | ⟨q, _⟩
  · exact absurd hS q
  · simp only [Bool.false_eq_true, if_false] at q
    exact ⟨_, w, _, S, .inl (hrun _ q), hM.put hd (RepV.val_mk _), Evo.refl _ _ _, h1⟩
/-- Told. -/
theorem MRn.tell {t kt et : TypeId} {m x y : Operand} {k : Int} (ho : o.op = .mapUpdate t m x y) (hg : grd ops st o = some true) (hm : aval st m = some (.sv (.val (.map (some r))))) (hx : aval st x = some (.sv (.val (.int .i64 k)))) (hy : aval st y = some (.sv (.val (.int .i64 (f k)))))
    (ht : P.underlying t = some (.map kt et)) (hk : P.underlying kt = some (.int .i64)) (hd : o.dst = none)
    (h1 : MRn P r f ops l K (k :: S) st) : MRn P r f ops (o :: l) K S st := by
  refine MRn.one hg fun keep w E a hM => ?_
  have em := (aval_rep hM.inv hm).val
  have ex := (aval_rep hM.inv hx).val
  have ey := (aval_rep hM.inv hy).val
  obtain ⟨es, cl, hb, he, hS⟩ := hM.map
  have hks : ∀ x ∈ es.toList, MapKept.IsKey (.int .i64) x.key := fun x hx => by
    obtain ⟨k', e1, _⟩ := he x hx
    rw [e1]; exact i64_key k'
  have hrun : ∀ w', (Instr.mapUpdate t (.map (some r)) (.int .i64 k) (.int .i64 (f k))).run P w = .ok () w' → (execOp a.eval o).run P w = .ok .skip w' := fun w' hv => by
    unfold execOp
    rw [ho]
    simp [em, ex, ey, hv, Result.andThen]
  have fin : ∀ es' cl', (∀ x ∈ es'.toList, ∃ k : Int, x.key = .int .i64 k ∧ x.val = .int .i64 (f k)) → (∀ k' ∈ k :: S, ∃ x ∈ es'.toList, x.key = .int .i64 k') →
      (Instr.mapUpdate t (.map (some r)) (.int .i64 k) (.int .i64 (f k))).run P w = .ok () { w with heap := w.heap.setIfInBounds r (.map es' cl') } →
      ∃ v w' st' S', ((execOp a.eval o).run P w = .ok (.value v) w' ∨ ((execOp a.eval o).run P w = .ok .skip w' ∧ v = undef)) ∧ MIn keep w' E st' (a.put o.dst v) r f S' ∧ Evo keep w E w' E ∧ MRn P r f ops l K S' st' := fun es' cl' q1 q2 q3 => by
    have hh := MapKept.heap_set (o' := .map es' cl') hb
    have hsz : w.heap.size ≤ (w.heap.setIfInBounds r (.map es' cl')).size := by simp
    refine ⟨_, _, st, k :: S, .inr ⟨hrun _ q3, rfl⟩, ⟨?_, hM.nok, hM.nkp, es', cl', hh.1, q1, q2⟩, ⟨rfl, rfl, rfl, hsz, fun b hb' => hh.2 b (fun e => hM.nkp (e ▸ hb')), fun b hb' => ⟨hb', hh.2 b (fun e => hM.nok (e ▸ hb'))⟩, fun b hb' => .inl hb', fun _ _ => rfl, Nat.le_refl _⟩, h1⟩
    rw [hd]
    refine hM.inv.aside (w' := { w with heap := w.heap.setIfInBounds r (.map es' cl') }) hsz fun b hb' => hh.2 b ?_
    rintro rfl
    rcases hb' with hb' | ⟨t', o', c', s', k1, k2⟩
    · exact hM.nok hb'
    · exact (hM.inv.own t' o' _ c' s' k1 k2).2.2 (.inr rfl)
  rcases MapKept.findNow_spec (i64_key k) es.toList 0 hks with ⟨e1, e2⟩ | ⟨j, e, e1, e2, e3⟩
  · refine fin (es.push { key := .int .i64 k, val := .int .i64 (f k), born := cl }) (cl + 1) (fun x hx => ?_) (fun k' hk' => ?_) ?_
    · rw [Array.toList_push, List.mem_append, List.mem_singleton] at hx
      rcases hx with hx | rfl
      · exact he x hx
      · exact ⟨k, rfl, rfl⟩
    · rcases List.mem_cons.1 hk' with rfl | hk'
      · exact ⟨_, by rw [Array.toList_push, List.mem_append]; exact .inr (List.mem_singleton.2 rfl), rfl⟩
      · obtain ⟨x, hx, ek⟩ := hS k' hk'
        exact ⟨x, by rw [Array.toList_push, List.mem_append]; exact .inl hx, ek⟩
    · simp [Instr.mapUpdate, run_underlying ht, MapKept.run_getObj_map hb, MapKept.run_checkKey hk (i64_key k), MapKept.run_findKey hk e1, MapKept.run_setObj_map _ hb, Result.andThen]
  · have hj : es[j]? = some e := by simpa using e2
    have hm : e ∈ es.toList := List.mem_of_getElem? e2
    obtain ⟨k0, e4, e5⟩ := he e hm
    rw [e3] at e4
    simp only [Value.int.injEq, true_and] at e4
    subst e4
    have hsame : es.modify j (fun e => { e with key := .int .i64 k, val := .int .i64 (f k) }) = es := by
      apply Array.ext_getElem?
      intro i
      rw [Array.getElem?_modify]
      split
      · rename_i hij
        subst hij
        rw [hj]
        simp only [Option.map_some, Option.some.injEq]
        cases e
        simp only at e3 e5
        subst e3; subst e5; rfl
      · rfl
    refine fin es cl he (fun k' hk' => ?_) ?_
    · rcases List.mem_cons.1 hk' with rfl | hk'
      · exact ⟨e, hm, e3⟩
      · exact hS k' hk'
    · have := hsame
      simp [Instr.mapUpdate, run_underlying ht, MapKept.run_getObj_map hb, MapKept.run_checkKey hk (i64_key k), MapKept.run_findKey hk e1, hj, e3, MapKept.run_keyThatStays (i64_key k), MapKept.run_setObj_map _ hb, Result.andThen, hsame]
end
/-- A map is made; what comes behind is run beside it. -/
theorem Tr.map {P : Program} {Q : Exit → St → Prop} {id : Nat} {o : Oper} {l : List Oper} {rest : Code} {st : St} {t : TypeId} (f : Int → Int) (ho : o.op = .makeMap t none) (hg : o.guard = none) (hd : st.fitsDst o.dst = true)
    (h : ∀ r, MRn P r f (o :: l).toArray l (fun st' S' => MTr P r f rest (fun e st' _ => Q e st') S' st') [] (st.put o.dst (.sv (.val (.map (some r)))))) : Tr P (.seq (.region id (o :: l).toArray false) rest) Q st := fun keep w E a hI => by
  have hgr : grd (o :: l).toArray st o = some true := by unfold grd; rw [hg]
  have hal := MapKept.heap_alloc w (.map #[] 0)
  have hsz : w.heap.size < (w.alloc (.map #[] 0)).heap.size := by show _ < (w.heap.push _).size; simp
  have hI2 : Inv (kpr keep w.heap.size) (w.alloc (.map #[] 0)) E st a := by
    have h1 : Inv keep (w.alloc (.map #[] 0)) E st a := hI.aside (Nat.le_of_lt hsz) fun b hb => hal.2 b (by
      rcases hb with hb | ⟨t', o', c', s', k1, k2⟩
      · exact hI.okl b hb
      · exact (hI.own t' o' _ c' s' k1 k2).1)
    exact ⟨h1.df, h1.sz, h1.tm, h1.mm, h1.inj, fun t' o' g c s k1 k2 => ⟨(h1.own t' o' g c s k1 k2).1, (h1.own t' o' g c s k1 k2).2.1, fun hk => by
      rcases hk with hk | hk
      · exact (h1.own t' o' g c s k1 k2).2.2 hk
      · have := (hI.own t' o' g c s k1 k2).1; omega⟩, h1.okl, fun b hb => by
      rcases hb with hb | hb
      · exact h1.kpl b hb
      · omega⟩
  have hM : MIn keep (w.alloc (.map #[] 0)) E st a w.heap.size f [] := ⟨hI2, fun hk => Nat.lt_irrefl _ (hI.okl _ hk), fun hk => Nat.lt_irrefl _ (hI.kpl _ hk), #[], 0, hal.1, fun x hx => by simp at hx, fun k hk => by cases hk⟩
  have hE : Evo keep w E (w.alloc (.map #[] 0)) E := ⟨rfl, rfl, rfl, Nat.le_of_lt hsz, fun b hb => hal.2 b (hI.kpl b hb), fun b hb => ⟨hb, hal.2 b (hI.okl b hb)⟩, fun b hb => .inl hb, fun _ _ => rfl, Nat.le_refl _⟩
  refine wp_seq (wp_region_lit ?_)
  unfold wpList
  rw [if_pos (grd_run hI hgr)]
  left
  have hrun : (execOp a.eval o).run P w = .ok (.value (.map (some w.heap.size))) (w.alloc (.map #[] 0)) := by
    unfold execOp
    rw [ho]
    rfl
  unfold Oper.wp
  rw [hrun]
  refine Rn.freeze.wpList_mono' ?_ (h w.heap.size keep _ E _ (hM.put hd (RepV.val_mk _)))
  rintro e a' w' ⟨st', E', S', k1, k2, rfl, k3⟩
  refine Code.wp_mono ?_ (k3 keep w' E' a' k1)
  rintro e a2 w2 ⟨st2, E2, S2, q1, q2, q3⟩
  exact ⟨st2, E2, q1.inv.sub fun b hb => .inl hb, hE.trans (k2.trans q2), q3⟩
/-! ### Pieces, told apart by the states between them -/
theorem Tr.seqS {P : Program} {Q : Exit → St → Prop} {x y : Code} {st : St} (s1 : St) (h1 : Ab.ex P (fun e s => e = .normal ∧ Ent s s1) x [] st) (h2 : Tr P y Q s1) : Tr P (.seq x y) Q st :=
  Tr.seq (Tr.mono (Tr.ex h1) fun e s ⟨he, hs⟩ => by subst he; exact Tr.ent hs h2)
section
variable {P : Program} {r : Nat} {f : Int → Int} {Q : Exit → St → List Int → Prop} {K : St → List Int → Prop} {S : List Int} {st : St} {ops : Array Oper} {l : List Oper} {o : Oper}
theorem MTr.seqS {x y : Code} (s1 : St) (h1 : Ab.ex P (fun e s => e = .normal ∧ Ent s s1) x [] st) (h2 : MTr P r f y Q S s1) : MTr P r f (.seq x y) Q S st :=
  MTr.seq (MTr.of (Tr.mono (Tr.ex h1) fun e s ⟨he, hs⟩ => by subst he; exact MTr.ent hs h2))
theorem MRn.ent {st' : St} (h : Ent st st') (k : MRn P r f ops l K S st') : MRn P r f ops l K S st := fun keep w E a hM => by
  obtain ⟨E1, h1, h2⟩ := h (kpr keep r) w E a hM.inv
  obtain ⟨m1, m2⟩ := hM.next h1 h2
  refine Rn.freeze.wpList_mono' ?_ (k keep w E1 a m1)
  rintro e a2 w2 ⟨st2, E2, S2, k1, k2, k3⟩
  exact ⟨st2, E2, S2, k1, m2.trans k2, k3⟩
theorem MRn.go (k : Nat) (s1 : St) (h1 : Ab.rn P (fun _ s => Ent s s1) ops (l.take k) [] st) (h2 : MRn P r f ops (l.drop k) K S s1) : MRn P r f ops l K S st :=
  MRn.cut k (Rn.mono (RnK.rn h1) fun s hs => MRn.ent hs h2)
theorem MRn.fin (s1 : St) (h1 : Ab.rn P (fun _ s => Ent s s1) ops l [] st) (h2 : ∀ s, Ent s s1 → K s S) : MRn P r f ops l K S st := by
  refine MRn.cut l.length ?_
  rw [List.take_length, List.drop_length]
  exact Rn.mono (RnK.rn h1) fun s hs => MRn.nil (h2 s hs)
/-- Behind what turned the map. -/
theorem MTr.seqM {x y : Code} (s1 : St) (h1 : MTr P r f x (fun e s _ => e = .normal ∧ Ent s s1) S st) (h2 : ∀ S', MTr P r f y Q S' s1) : MTr P r f (.seq x y) Q S st :=
  MTr.seq fun keep w E a hM => Code.wp_mono (fun e a' w' ⟨st', E', S', k1, k2, he, hs⟩ => by
    subst he
    exact ⟨st', E', S', k1, k2, MTr.ent hs (h2 S')⟩) (h1 keep w E a hM)
theorem MTr.seqN {x y : Code} (s1 : St) (S1 : List Int) (h1 : MTr P r f x (fun e s S' => e = .normal ∧ Ent s s1 ∧ S' = S1) S st) (h2 : MTr P r f y Q S1 s1) : MTr P r f (.seq x y) Q S st :=
  MTr.seq fun keep w E a hM => Code.wp_mono (fun e a' w' ⟨st', E', S', k1, k2, he, hs, hS⟩ => by
    subst he; subst hS
    exact ⟨st', E', _, k1, k2, MTr.ent hs h2⟩) (h1 keep w E a hM)
end
end Go.Proofs.Ytnkcenafpigmbaa.Ab
