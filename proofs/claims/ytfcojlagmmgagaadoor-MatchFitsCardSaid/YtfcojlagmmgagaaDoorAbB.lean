/- The abstract layer, part B: the state of a frame, and operations that only compute. -/
import Derived.Test.YtfcojlagmmgagaaDoorAbA
import Derived.Lib.TrailingZeros
namespace Go.Proofs.YtfcojlagmmgagaaDoor.Ab
open Go.RowKit
set_option linter.unusedVariables false
set_option linter.unusedSimpArgs false

def lk {α : Type} : List (Nat × α) → Nat → Option α
  | [], _ => none
  | (k, x) :: l, d => if k = d then some x else lk l d
def up {α : Type} : List (Nat × α) → Nat → α → List (Nat × α)
  | [], d, y => [(d, y)]
  | (k, x) :: l, d, y => if k = d then (d, y) :: l else (k, x) :: up l d y
def rm {α : Type} : List (Nat × α) → Nat → List (Nat × α)
  | [], _ => []
  | (k, x) :: l, d => if k = d then rm l d else (k, x) :: rm l d
theorem lk_up {α : Type} (l : List (Nat × α)) (d e : Nat) (y : α) : lk (up l d y) e = if d = e then some y else lk l e := by
  induction l with
  | nil => simp [up, lk]
  | cons p l ih =>
    obtain ⟨k, x⟩ := p
    by_cases h : k = d
    · subst h
      by_cases h2 : k = e <;> simp [up, lk, h2]
    · by_cases h2 : k = e
      · subst h2; simp [up, lk, h, Ne.symm h, fun h3 => h (Eq.symm h3)]
      · simp [up, lk, h, h2, ih]
theorem lk_rm {α : Type} (l : List (Nat × α)) (d e : Nat) : lk (rm l d) e = if d = e then none else lk l e := by
  induction l with
  | nil => simp [rm, lk]
  | cons p l ih =>
    obtain ⟨k, x⟩ := p
    simp only [rm, lk]
    by_cases h : k = d
    · rw [if_pos h, ih]
      by_cases h2 : d = e
      · rw [if_pos h2, if_pos h2]
      · rw [if_neg h2, if_neg h2, if_neg (by omega)]
    · rw [if_neg h]
      simp only [lk]
      by_cases h2 : k = e
      · rw [if_pos h2, if_pos h2, if_neg (by omega)]
      · rw [if_neg h2, if_neg h2, ih]

structure St where
  n : Nat
  t : List (Nat × AV)
  m : List (Nat × Obj')

def St.put (st : St) (dst : Option Nat) (x : AV) : St :=
  match dst with
  | some d => { st with t := up st.t d x }
  | none => st
def St.fitsDst (st : St) (dst : Option Nat) : Bool :=
  match dst with
  | some d => decide (d < st.n)
  | none => true

/-- What a tag's block holds. -/
def MemRep (w : World) (E : Env) (m : Mem) (t : Nat) : Obj' → Prop
  | .row sz xs => 0 < sz ∧ ((E.at_ t = none ∧ xs = []) ∨ ∃ g c e cur vs, E.at_ t = some (g, c, sz) ∧ w.heap[g]? = some (.cells cur e (0, 0)) ∧ (xs = [] → c = 0) ∧ xs.length ≤ c ∧ c ≤ maxLen ∧ cur.size = c * sz ∧ RepL w E.ok xs vs ∧
      ∀ (i : Nat) (u : Value), vs[i]? = some u → u.cells.size = sz ∧ (∀ y ∈ u.cells, y.oneCell' = true) ∧ ∀ (j : Nat) (y : Value), u.cells[j]? = some y → cur[i * sz + j]? = some y)
  | .box cs => ∃ g c sz e cur, E.at_ t = some (g, c, sz) ∧ w.heap[g]? = some (.cells cur e (0, 0)) ∧ RepVL w E m cs cur.toList

/-- What the program's tables hold (package variables that are laid once and never written), by their numbers. -/
def Gtab : List (Nat × SV) := [(0, .agg (Go.Lib.deBruijn64tab.map fun n : Nat => .val (.int .u8 (n : Int))))]
/-- The tables lie where they lie, among what is shared. -/
def GW (w : World) (ok : Nat → Prop) : Prop := ∀ (g : Nat) (x : SV), lk Gtab g = some x → RepS w ok (.ref x 0) (.pointer (some ⟨g, 0, none⟩))
theorem GW.keep {w w' : World} {ok ok' : Nat → Prop} (h : GW w ok) (hok : ∀ b, ok b → ok' b ∧ w'.heap[b]? = w.heap[b]?) : GW w' ok' := fun g x hx => (h g x hx).keep hok
/-- What is shared lies in the world, the tables with it. -/
structure Okl (w : World) (ok : Nat → Prop) : Prop where
  lt : ∀ b, ok b → b < w.heap.size
  gw : GW w ok
instance {w : World} {ok : Nat → Prop} : CoeFun (Okl w ok) (fun _ => ∀ b, ok b → b < w.heap.size) := ⟨Okl.lt⟩

structure Inv (keep : Nat → Prop) (w : World) (E : Env) (st : St) (a : Act) : Prop where
  df : a.defers = []
  sz : a.tmps.size = st.n
  tm : ∀ (d : Nat) (x : AV), lk st.t d = some x → ∃ v, a.tmps[d]? = some v ∧ RepV w E (lk st.m) x v
  mm : ∀ (t : Nat) (o : Obj'), lk st.m t = some o → MemRep w E (lk st.m) t o
  inj : ∀ (t t' : Nat) (o o' : Obj') (g c s c' s' : Nat), lk st.m t = some o → lk st.m t' = some o' → E.at_ t = some (g, c, s) → E.at_ t' = some (g, c', s') → t = t'
  own : ∀ (t : Nat) (o : Obj') (g c s : Nat), lk st.m t = some o → E.at_ t = some (g, c, s) → g < w.heap.size ∧ ¬ E.ok g ∧ ¬ keep g
  okl : Okl w E.ok
  kpl : ∀ b, keep b → b < w.heap.size

structure Evo (keep : Nat → Prop) (w : World) (E : Env) (w' : World) (E' : Env) : Prop where
  os : w'.os = w.os
  tape : w'.tape = w.tape
  output : w'.output = w.output
  size : w.heap.size ≤ w'.heap.size
  kp : ∀ b, keep b → w'.heap[b]? = w.heap[b]?
  oks : ∀ b, E.ok b → E'.ok b ∧ w'.heap[b]? = w.heap[b]?
  new : ∀ b, E'.ok b → E.ok b ∨ ¬ keep b
  pin : ∀ t, 1000000 ≤ t → E'.at_ t = E.at_ t

theorem Evo.refl (keep : Nat → Prop) (w : World) (E : Env) : Evo keep w E w E := ⟨rfl, rfl, rfl, Nat.le_refl _, fun _ _ => rfl, fun _ h => ⟨h, rfl⟩, fun _ h => .inl h, fun _ _ => rfl⟩
theorem Evo.trans {keep : Nat → Prop} {w w1 w2 : World} {E E1 E2 : Env} (h : Evo keep w E w1 E1) (k : Evo keep w1 E1 w2 E2) : Evo keep w E w2 E2 :=
  ⟨k.os.trans h.os, k.tape.trans h.tape, k.output.trans h.output, Nat.le_trans h.size k.size, fun b hb => (k.kp b hb).trans (h.kp b hb),
    fun b hb => ⟨(k.oks b (h.oks b hb).1).1, (k.oks b (h.oks b hb).1).2.trans (h.oks b hb).2⟩, fun b hb => (k.new b hb).elim (fun h1 => h.new b h1) .inr, fun t ht => (k.pin t ht).trans (h.pin t ht)⟩
theorem Evo.drew (keep : Nat → Prop) (w : World) (E : Env) : Evo keep w E { w with drawn := w.drawn + 1 } E := ⟨rfl, rfl, rfl, Nat.le_refl _, fun _ _ => rfl, fun _ h => ⟨h, rfl⟩, fun _ h => .inl h, fun _ _ => rfl⟩

section
variable {keep : Nat → Prop} {w w' : World} {E E' : Env} {st : St} {a : Act}

theorem put_size (a : Act) (dst : Option Tmp) (v : Value) : (a.put dst v).tmps.size = a.tmps.size := by
  cases dst <;> simp [Act.put]
theorem put_defers (a : Act) (dst : Option Tmp) (v : Value) : (a.put dst v).defers = a.defers := by
  cases dst <;> simp [Act.put]
theorem put_get (a : Act) (d e : Nat) (v : Value) (h : d < a.tmps.size) : (a.put (some d) v).tmps[e]? = if d = e then some v else a.tmps[e]? := by
  simp only [Act.put]
  rw [Array.getElem?_setIfInBounds]
  split
  · rename_i h1; subst h1; simp [h]
  · rfl

/-- A world that differs in nothing that is told of: the tape's place. -/
theorem MemRep.of_heap {m : Mem} {t : Nat} {o : Obj'} (hh : w'.heap = w.heap) (h : MemRep w E m t o) : MemRep w' E m t o := by
  have hk : ∀ b, E.ok b → E.ok b ∧ w'.heap[b]? = w.heap[b]? := fun b hb => ⟨hb, by rw [hh]⟩
  cases o with
  | row sz xs =>
    obtain ⟨h0, h⟩ := h
    rcases h with h | ⟨g, c, e, cur, vs, h1, h2, h3, h4, h5, h6, h7, h8⟩
    · exact ⟨h0, .inl h⟩
    · exact ⟨h0, .inr ⟨g, c, e, cur, vs, h1, by rw [hh]; exact h2, h3, h4, h5, h6, h7.keep hk, h8⟩⟩
  | box cs =>
    obtain ⟨g, c, sz, e, cur, h1, h2, h3⟩ := h
    exact ⟨g, c, sz, e, cur, h1, by rw [hh]; exact h2, h3.keep hk (fun t _ => by
      cases hm : m t with
      | none => exact .inl rfl
      | some o => cases o with
        | row k xs => exact .inr ⟨rfl, .inl ⟨k, xs, xs, rfl, rfl, rfl⟩⟩
        | box cs => exact .inr ⟨rfl, .inr ⟨cs, cs, rfl, rfl⟩⟩)⟩

theorem same_tags (E : Env) (m : Mem) (t : Nat) : m t = none ∨ (E.at_ t = E.at_ t ∧ ((∃ k xs ys, m t = some (.row k xs) ∧ m t = some (.row k ys) ∧ xs.length = ys.length) ∨ (∃ cs ds, m t = some (.box cs) ∧ m t = some (.box ds)))) := by
  cases hm : m t with
  | none => exact .inl rfl
  | some o => cases o with
    | row k xs => exact .inr ⟨rfl, .inl ⟨k, xs, xs, rfl, rfl, rfl⟩⟩
    | box cs => exact .inr ⟨rfl, .inr ⟨cs, cs, rfl, rfl⟩⟩

theorem RepV.of_heap {m : Mem} {x : AV} {v : Value} (hh : w'.heap = w.heap) (h : RepV w E m x v) : RepV w' E m x v :=
  h.keep (fun b hb => ⟨hb, by rw [hh]⟩) (fun t _ => same_tags E m t)

theorem Inv.drew (h : Inv keep w E st a) : Inv keep { w with drawn := w.drawn + 1 } E st a :=
  ⟨h.df, h.sz, fun d x hx => let ⟨v, h1, h2⟩ := h.tm d x hx; ⟨v, h1, RepV.of_heap (w := w) (w' := { w with drawn := w.drawn + 1 }) rfl h2⟩, fun t o ho => MemRep.of_heap (w := w) (w' := { w with drawn := w.drawn + 1 }) rfl (h.mm t o ho), h.inj, h.own, ⟨h.okl.lt, h.okl.gw.keep (w := w) (w' := { w with drawn := w.drawn + 1 }) (fun b hb => ⟨hb, rfl⟩)⟩, h.kpl⟩

/-- A temporary is set. -/
theorem Inv.put (h : Inv keep w E st a) {dst : Option Nat} {x : AV} {v : Value} (hd : st.fitsDst dst = true) (hx : RepV w E (lk st.m) x v) : Inv keep w E (st.put dst x) (a.put dst v) := by
  cases dst with
  | none => exact h
  | some d =>
    have hd' : d < a.tmps.size := by rw [h.sz]; simpa [St.fitsDst] using hd
    refine ⟨by rw [put_defers]; exact h.df, by rw [put_size]; exact h.sz, fun e y hy => ?_, h.mm, h.inj, h.own, h.okl, h.kpl⟩
    simp only [St.put] at hy
    rw [lk_up] at hy
    rw [put_get _ _ _ _ hd']
    split at hy
    · rename_i he; subst he
      rw [if_pos rfl]
      simp only [Option.some.injEq] at hy
      subst hy
      exact ⟨v, rfl, hx⟩
    · rename_i he
      rw [if_neg he]
      exact h.tm e y hy
end

/-- What an operation does to the state. -/
def Does (P : Program) (o : Oper) (st st' : St) : Prop :=
  ∀ (keep : Nat → Prop) (w : World) (E : Env) (a : Act), Inv keep w E st a →
    ∃ v w' E', ((execOp a.eval o).run P w = .ok (.value v) w' ∨ ((execOp a.eval o).run P w = .ok .skip w' ∧ v = undef)) ∧ Inv keep w' E' st' (a.put o.dst v) ∧ Evo keep w E w' E'

/-! ### Operands -/
def svC : Value → SV
  | .slice none 0 0 => .lst []
  | v => .val v
def avC : Value → AV
  | .slice none 0 0 => .nil
  | .agg cs => .sv (.agg (cs.toList.map svC))
  | v => .sv (.val v)
def aval (st : St) : Operand → Option AV
  | .tmp d => lk st.t d
  | .const v => some (avC v)
  | .func f => some (.sv (.fn f []))
  | .global g => (lk Gtab g).map fun x => .sv (.ref x 0)
theorem svC_rep (w : World) (ok : Nat → Prop) (v : Value) : RepS w ok (svC v) v := by
  unfold svC
  split
  · simp [RepS]
  · simp only [RepS]
theorem svC_repL (w : World) (ok : Nat → Prop) (vs : List Value) : RepL w ok (vs.map svC) vs := by
  refine RepL.of (by simp) fun i x v hx hv => ?_
  rw [List.getElem?_map, hv] at hx
  simp at hx; subst hx
  exact svC_rep w ok v
theorem avC_rep (w : World) (E : Env) (m : Mem) (v : Value) : RepV w E m (avC v) v := by
  unfold avC
  split
  · simp only [RepV]
  · rename_i cs
    simp only [RepV, RepS]
    exact ⟨cs, rfl, svC_repL _ _ _⟩
  · simp only [RepV, RepS]
theorem aval_rep {keep : Nat → Prop} {w : World} {E : Env} {st : St} {a : Act} (h : Inv keep w E st a) {x : Operand} {y : AV} (hx : aval st x = some y) : RepV w E (lk st.m) y (a.eval x) := by
  cases x with
  | tmp d =>
    obtain ⟨v, h1, h2⟩ := h.tm d y hx
    simp only [Act.eval]
    rw [Array.getD_eq_getD_getElem?, h1]
    exact h2
  | const v =>
    simp only [aval, Option.some.injEq] at hx
    subst hx
    exact avC_rep _ _ _ _
  | func f =>
    simp only [aval, Option.some.injEq] at hx
    subst hx
    simp only [RepV, RepS, Act.eval]
    exact ⟨#[], rfl, RepL.nil⟩
  | global g =>
    simp only [aval] at hx
    obtain ⟨x, h1, rfl⟩ := Option.map_eq_some_iff.1 hx
    simp only [RepV, Act.eval]
    exact h.okl.gw g x h1

/-! ### What is exactly one value -/
mutual
def SV.exact : SV → Option Value
  | .val v => some v
  | .agg xs => (SV.exactL xs).map fun l => .agg l.toArray
  | _ => none
def SV.exactL : List SV → Option (List Value)
  | [] => some []
  | x :: xs => match SV.exact x, SV.exactL xs with
    | some v, some vs => some (v :: vs)
    | _, _ => none
end
def AV.exact : AV → Option Value
  | .sv x => x.exact
  | .nil => some (.slice none 0 0)
  | _ => none
theorem exact_rep {w : World} {ok : Nat → Prop} : ∀ {x : SV} {u v : Value}, x.exact = some u → RepS w ok x v → v = u := by
  intro x
  refine SV.rec (motive_1 := fun x => ∀ {u v : Value}, x.exact = some u → RepS w ok x v → v = u) (motive_2 := fun xs => ∀ {us vs : List Value}, SV.exactL xs = some us → RepL w ok xs vs → vs = us)
    ?_ ?_ ?_ ?_ ?_ ?_ ?_ ?_ x
  · intro u v h; simp [SV.exact] at h
  · intro u' u v h hr; simp only [SV.exact, Option.some.injEq] at h; subst h; simpa only [RepS] using hr
  · intro xs ih u v h hr
    simp only [SV.exact, Option.map_eq_some_iff] at h
    obtain ⟨l, hl, rfl⟩ := h
    simp only [RepS] at hr
    obtain ⟨cs, rfl, hr⟩ := hr
    rw [← ih hl hr]
  · intro xs _ u v h; simp [SV.exact] at h
  · intro x off _ u v h; simp [SV.exact] at h
  · intro f caps _ u v h; simp [SV.exact] at h
  · intro us vs h hr; simp only [SV.exactL, Option.some.injEq] at h; subst h; simpa only [RepL] using hr
  · intro x xs ihx ihs us vs h hr
    simp only [RepL] at hr
    obtain ⟨v, vs', rfl, hx, hs⟩ := hr
    simp only [SV.exactL] at h
    split at h
    · rename_i u us' h1 h2
      simp only [Option.some.injEq] at h
      subst h
      rw [ihx h1 hx, ihs h2 hs]
    · cases h
theorem exact_repV {w : World} {E : Env} {m : Mem} {x : AV} {u v : Value} (h : x.exact = some u) (hr : RepV w E m x v) : v = u := by
  cases x with
  | sv x => simp only [RepV] at hr; exact exact_rep h hr
  | nil => simp only [AV.exact, Option.some.injEq] at h; subst h; simpa only [RepV] using hr
  | _ => simp [AV.exact] at h
theorem aval_exact {keep : Nat → Prop} {w : World} {E : Env} {st : St} {a : Act} (h : Inv keep w E st a) {x : Operand} {u : Value} (hx : (aval st x).bind AV.exact = some u) : a.eval x = u := by
  obtain ⟨y, h1, h2⟩ := Option.bind_eq_some_iff.1 hx
  exact exact_repV h2 (aval_rep h h1)

/-- An operation that only computes, its operands known exactly: what the model's own run says. -/
theorem Does.pure {P : Program} {o : Oper} {st : St} {v : Value} (hd : st.fitsDst o.dst = true)
    (h : ∀ (ρ : Operand → Value), (∀ x ∈ o.op.operands.toList, ∀ u, (aval st x).bind AV.exact = some u → ρ x = u) → ∀ w, (execOp ρ o).run P w = .ok (.value v) w) : Does P o st (st.put o.dst (avC v)) :=
  fun keep w E a hI => ⟨v, w, E, .inl (h a.eval (fun x _ u hu => aval_exact hI hu) w), hI.put hd (avC_rep _ _ _ _), Evo.refl _ _ _⟩

/-- The same, and what it tells is told in whatever way. -/
theorem Does.puts {P : Program} {o : Oper} {st : St} {x : AV} (hd : st.fitsDst o.dst = true)
    (h : ∀ (keep : Nat → Prop) (w : World) (E : Env) (a : Act), Inv keep w E st a → ∃ v, (execOp a.eval o).run P w = .ok (.value v) w ∧ RepV w E (lk st.m) x v) : Does P o st (st.put o.dst x) :=
  fun keep w E a hI => let ⟨v, h1, h2⟩ := h keep w E a hI; ⟨v, w, E, .inl h1, hI.put hd h2, Evo.refl _ _ _⟩

def AV.int : AV → Option (IntKind × Int)
  | .sv (.val (.int k n)) => some (k, n)
  | _ => none
def AV.bool : AV → Option Bool
  | .sv (.val (.bool b)) => some b
  | _ => none
theorem AV.int_eq {x : AV} {k : IntKind} {n : Int} (h : x.int = some (k, n)) : x = .sv (.val (.int k n)) := by
  unfold AV.int at h; split at h
  · simp at h; obtain ⟨rfl, rfl⟩ := h; rfl
  · cases h
theorem AV.bool_eq {x : AV} {b : Bool} (h : x.bool = some b) : x = .sv (.val (.bool b)) := by
  unfold AV.bool at h; split at h
  · simp at h; subst h; rfl
  · cases h
theorem RepV.val {w : World} {E : Env} {m : Mem} {u v : Value} (h : RepV w E m (.sv (.val u)) v) : v = u := by simpa only [RepV, RepS] using h
theorem RepV.val_mk {w : World} {E : Env} {m : Mem} (u : Value) : RepV w E m (.sv (.val u)) u := by simp only [RepV, RepS]

/-- The operators on whole numbers. -/
def ibin (op : BinOp) (k : IntKind) (x y : Int) : Option Value :=
  match op with
  | .add => some (.int k (k.wrap (x + y)))
  | .sub => some (.int k (k.wrap (x - y)))
  | .mul => some (.int k (k.wrap (x * y)))
  | .quo => if y = 0 then none else some (.int k (k.wrap (x.tdiv y)))
  | .rem => if y = 0 then none else some (.int k (x.tmod y))
  | .and => some (.int k (k.wrap (BitVec.ofInt k.bits x &&& BitVec.ofInt k.bits y).toNat))
  | .or => some (.int k (k.wrap (BitVec.ofInt k.bits x ||| BitVec.ofInt k.bits y).toNat))
  | .xor => some (.int k (k.wrap (BitVec.ofInt k.bits x ^^^ BitVec.ofInt k.bits y).toNat))
  | .andNot => some (.int k (k.wrap (BitVec.ofInt k.bits x &&& ~~~BitVec.ofInt k.bits y).toNat))
  | .eql => some (.bool (x == y))
  | .neq => some (.bool (x != y))
  | .lss => some (.bool (decide (x < y)))
  | .leq => some (.bool (decide (x ≤ y)))
  | .gtr => some (.bool (decide (x > y)))
  | .geq => some (.bool (decide (x ≥ y)))
  | _ => none
def ishift (op : BinOp) (k : IntKind) (x y : Int) : Option Value :=
  if y < 0 then none else
  match op with
  | .shl => some (.int k (k.wrap (x * 2 ^ (min y.toNat k.bits))))
  | .shr => some (.int k (x.fdiv (2 ^ (min y.toNat k.bits))))
  | _ => none
def abin (op : BinOp) (x y : AV) : Option Value :=
  match x.int, y.int with
  | some (k, a), some (k', b) => match op with
    | .shl | .shr => ishift op k a b
    | _ => if k = k' then ibin op k a b else none
  | _, _ => none
theorem run_ibin {P : Program} {op : BinOp} {t : TypeId} {k : IntKind} {a b : Int} {v : Value} {w : World} {x y : Operand} (hs : op ≠ .shl ∧ op ≠ .shr) (h : ibin op k a b = some v) :
    (do eqGuard op t x y (.int k a) (.int k b); binOp op t (.int k a) (.int k b) : Sem Value).run P w = .ok v w := by
  cases op <;> simp_all [ibin, eqGuard, binOp, Op.intArith, Op.intDiv, Op.intBits, Op.intCmp] <;> (try (obtain ⟨h1, h2⟩ := h; simp_all))
theorem run_ishift {P : Program} {op : BinOp} {t : TypeId} {k k' : IntKind} {a b : Int} {v : Value} {w : World} {x y : Operand} (hs : op = .shl ∨ op = .shr) (h : ishift op k a b = some v) :
    (do eqGuard op t x y (.int k a) (.int k' b); binOp op t (.int k a) (.int k' b) : Sem Value).run P w = .ok v w := by
  unfold ishift at h
  split at h
  · cases h
  · rename_i hb
    rcases hs with rfl | rfl <;> simp_all [eqGuard, binOp, Op.shift] <;> (intro h1; omega)
theorem does_bin {P : Program} {o : Oper} {st : St} {op : BinOp} {t ty : TypeId} {x y : Operand} {X Y : AV} {v : Value} (ho : o.op = .binOp op t x y ty) (hx : aval st x = some X) (hy : aval st y = some Y) (h : abin op X Y = some v)
    (hd : st.fitsDst o.dst = true) : Does P o st (st.put o.dst (.sv (.val v))) := by
  refine Does.puts hd fun keep w E a hI => ⟨v, ?_, RepV.val_mk v⟩
  have h1 := aval_rep hI hx
  have h2 := aval_rep hI hy
  unfold abin at h
  split at h
  · rename_i k a' k' b' e1 e2
    rw [AV.int_eq e1] at h1
    rw [AV.int_eq e2] at h2
    have g1 := h1.val
    have g2 := h2.val
    unfold execOp
    rw [ho]
    simp only [g1, g2]
    have hr : (do eqGuard op t x y (.int k a') (.int k' b'); binOp op t (.int k a') (.int k' b') : Sem Value).run P w = .ok v w := by
      split at h
      · exact run_ishift (.inl rfl) h
      · exact run_ishift (.inr rfl) h
      · split at h
        · rename_i hk; subst hk; exact run_ibin (by constructor <;> assumption) h
        · cases h
    rw [Sem.run_bind, hr]
    rfl
  · cases h

theorem does_move {P : Program} {o : Oper} {st : St} {x : Operand} {X : AV} (ho : o.op = .move x ∨ o.op = .assign x) (hx : aval st x = some X) (hd : st.fitsDst o.dst = true) : Does P o st (st.put o.dst X) := by
  refine Does.puts hd fun keep w E a hI => ⟨a.eval x, ?_, aval_rep hI hx⟩
  rcases ho with ho | ho <;> (unfold execOp; rw [ho]; rfl)

theorem does_pick {P : Program} {o : Oper} {st : St} {c x y : Operand} {C X Y : AV} {b : Bool} (ho : o.op = .pick c x y) (hc : aval st c = some C) (hb : C.bool = some b) (hx : b = true → aval st x = some X) (hy : b = false → aval st y = some Y)
    (hd : st.fitsDst o.dst = true) : Does P o st (st.put o.dst (if b = true then X else Y)) := by
  refine Does.puts hd fun keep w E a hI => ⟨if b = true then a.eval x else a.eval y, ?_, ?_⟩
  · have h1 := aval_rep hI hc
    rw [AV.bool_eq hb] at h1
    unfold execOp
    rw [ho]
    simp only [h1.val]
    cases b <;> simp [asBool]
  · cases b
    · simpa using aval_rep hI (hy rfl)
    · simpa using aval_rep hI (hx rfl)

theorem does_not {P : Program} {o : Oper} {st : St} {t : TypeId} {x : Operand} {X : AV} {b : Bool} (ho : o.op = .unOp .not t x) (hx : aval st x = some X) (hb : X.bool = some b) (hd : st.fitsDst o.dst = true) :
    Does P o st (st.put o.dst (.sv (.val (.bool (!b))))) := by
  refine Does.puts hd fun keep w E a hI => ⟨_, ?_, RepV.val_mk _⟩
  have h1 := aval_rep hI hx
  rw [AV.bool_eq hb] at h1
  unfold execOp
  rw [ho]
  simp only [h1.val]
  simp [Op.unary]
theorem does_neg {P : Program} {o : Oper} {st : St} {t : TypeId} {x : Operand} {X : AV} {k : IntKind} {n : Int} (ho : o.op = .unOp .neg t x) (hx : aval st x = some X) (hb : X.int = some (k, n)) (hd : st.fitsDst o.dst = true) :
    Does P o st (st.put o.dst (.sv (.val (.int k (k.wrap (0 - n)))))) := by
  refine Does.puts hd fun keep w E a hI => ⟨_, ?_, RepV.val_mk _⟩
  have h1 := aval_rep hI hx
  rw [AV.int_eq hb] at h1
  unfold execOp
  rw [ho]
  simp only [h1.val]
  simp [Op.unary, Op.intArith]

/-- A component of what was answered. -/
theorem does_extract {P : Program} {o : Oper} {st : St} {x : Operand} {i : Nat} {xs : List AV} {y : AV} (ho : o.op = .extract x i) (hx : aval st x = some (.tup xs)) (hy : xs[i]? = some y) (hd : st.fitsDst o.dst = true) :
    Does P o st (st.put o.dst y) := by
  refine Does.puts hd fun keep w E a hI => ?_
  have h1 := aval_rep hI hx
  simp only [RepV] at h1
  obtain ⟨cs, hcs, hr⟩ := h1
  obtain ⟨v, hv, hrv⟩ := hr.at hy
  refine ⟨v, ?_, hrv⟩
  unfold execOp
  rw [ho]
  simp only [hcs]
  have : cs[i]? = some v := by simpa using hv
  simp [Instr.extract, this]
end Go.Proofs.YtfcojlagmmgagaaDoor.Ab
