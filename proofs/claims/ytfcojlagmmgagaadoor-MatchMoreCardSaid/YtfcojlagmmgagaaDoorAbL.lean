/- The abstract layer, part L: one function that tells what each operation does. -/
import Derived.Test.YtfcojlagmmgagaaDoorAbK
import Derived.Laws.StructEq
import Derived.ChangeKeysEq
import Derived.Laws.BytesString
namespace Go.Proofs.YtfcojlagmmgagaaDoor.Ab
open Go.RowKit
set_option linter.unusedVariables false
set_option linter.unusedSimpArgs false

def av0 (st : St) (x : Operand) : AV := (aval st x).getD (.sv .any)
theorem av0_rep {keep : Nat → Prop} {w : World} {E : Env} {st : St} {a : Act} (h : Inv keep w E st a) (x : Operand) : RepV w E (lk st.m) (av0 st x) (a.eval x) := by
  unfold av0
  cases hx : aval st x with
  | none => simp only [Option.getD_none, RepV, RepS]
  | some y => exact aval_rep h hx

/-- What two values, known, come to. -/
def binv (op : BinOp) (X Y : AV) : Option Value :=
  match X, Y with
  | .sv (.val (.int k a)), .sv (.val (.int k' b)) => match op with
    | .shl | .shr => ishift op k a b
    | _ => if k = k' then ibin op k a b else none
  | .sv (.val (.string a)), .sv (.val (.string b)) => match op with
    | .eql => some (.bool (a.toList == b.toList))
    | .neq => some (.bool (!(a.toList == b.toList)))
    | _ => none
  | _, _ => none
/-! ### Structs and arrays that are compared -/
def bcode (P : Program) (t : TypeId) : Option Nat :=
  match P.underlying t with
  | some (.int _) => some 0
  | some .bool => some 1
  | some .string => some 2
  | _ => none
def ceqk : Nat → Value → Value → Option Bool
  | 0, .int k a, .int k' b => if k = k' then some (a == b) else none
  | 1, .bool a, .bool b => some (a == b)
  | 2, .string a, .string b => some (a.toList == b.toList)
  | _, _, _ => none
def eqfL (P : Program) : List Field → Option (List (Nat × Nat))
  | [] => some []
  | f :: fs => if f.name ≠ "_" then match bcode P f.type, eqfL P fs with
    | some k, some l => some ((k, f.offset) :: l)
    | _, _ => none
    else none
/-- The cells of a type that are to be compared: what they are, and where. -/
def eqf (P : Program) (t : TypeId) : Option (List (Nat × Nat)) :=
  if P.eqGuardType P.depth t = false then match P.underlying t with
    | some (.struct fs) => if P.stoodInHeld t = false then eqfL P fs.toList else none
    | some (.array n e) => if P.cellsOf e = 1 ∧ (P.info? e).isSome = true then (bcode P e).map fun k => (List.range n).map fun i => (k, i) else none
    | _ => none
  else none
def aeq : List (Nat × Nat) → List SV → List SV → Option Bool
  | [], _, _ => some true
  | (k, off) :: l, xs, ys => match xs[off]?, ys[off]? with
    | some (.val u), some (.val v) => match ceqk k u v, aeq l xs ys with
      | some b, some c => some (b && c)
      | _, _ => none
    | _, _ => none
section
variable {P : Program} {w : World} {ok ok' : Nat → Prop} {xs ys : List SV} {cs ds : Array Value}
theorem ceqk_run {k : Nat} {u v : Value} {b : Bool} {t : TypeId} (d : Nat) (hk : bcode P t = some k) (h : ceqk k u v = some b) : (Op.equalIn (d + 1) t u v).run P w = .ok b w := by
  cases hu : P.underlying t with
  | none => simp [bcode, hu] at hk
  | some q =>
    cases q <;> simp only [bcode, hu, Option.some.injEq, reduceCtorEq] at hk
    all_goals
      subst hk
      cases u <;> cases v <;> simp only [ceqk, reduceCtorEq, Option.some.injEq] at h
    · subst h; simp [Op.equalIn, run_underlying hu]
    · split at h
      · rename_i e; subst e
        simp only [Option.some.injEq] at h; subst h
        simp [Op.equalIn, run_underlying hu]
      · cases h
    · subst h; simp [Op.equalIn, run_underlying hu, beq_toListBytes]
theorem bcode_plain {t : TypeId} {k : Nat} (hk : bcode P t = some k) : (P.underlying t).isSome = true ∧ tagg P t = false := by
  unfold bcode at hk
  split at hk
  · rename_i hu; simp [tagg, hu]
  · rename_i hu; simp [tagg, hu]
  · rename_i hu; simp [tagg, hu]
  · cases hk
theorem part_cell {t : TypeId} {k off : Nat} {u : Value} (hk : bcode P t = some k) (hr : RepL w ok xs cs.toList) (hx : xs[off]? = some (.val u)) : (part t cs off).run P w = .ok u w := by
  obtain ⟨h1, h2⟩ := bcode_plain hk
  have hlt : off < cs.toList.length := by rw [← hr.len]; exact (List.getElem?_eq_some_iff.1 hx).1
  have h3 := hr.get off _ _ hx (List.getElem?_eq_getElem hlt)
  simp only [RepS] at h3
  have h4 : cs[off]? = some u := by
    rw [← h3]
    simp
  simp [part, run_isAgg h1, h2, h4]
theorem eqFields_run (d : Nat) (hx : RepL w ok xs cs.toList) (hy : RepL w ok' ys ds.toList) : ∀ {fs : List Field} {l : List (Nat × Nat)} {b : Bool}, eqfL P fs = some l → aeq l xs ys = some b → (Op.eqFields (d + 1) cs ds fs).run P w = .ok b w
  | [], l, b, hl, hb => by
    simp only [eqfL, Option.some.injEq] at hl; subst hl
    simp only [aeq, Option.some.injEq] at hb; subst hb
    simp [Op.eqFields]
  | f :: fs, l, b, hl, hb => by
    simp only [eqfL] at hl
    split at hl
    case isFalse => cases hl
    rename_i hn
    split at hl
    case h_2 => cases hl
    rename_i k l' hk hl'
    simp only [Option.some.injEq] at hl; subst hl
    simp only [aeq] at hb
    split at hb
    case h_2 => cases hb
    rename_i u v hu hv
    split at hb
    case h_2 => cases hb
    rename_i b1 b2 hb1 hb2
    simp only [Option.some.injEq] at hb; subst hb
    simp only [Op.eqFields, hn, ne_eq, not_false_eq_true, if_true, Sem.run_bind, part_cell hk hx hu, part_cell hk hy hv, Result.andThen_ok, ceqk_run d hk hb1]
    cases b1
    · simp
    · simpa using eqFields_run d hx hy hl' hb2
theorem eqItems_run (d : Nat) {e : TypeId} {k : Nat} (hk : bcode P e = some k) (hc : P.cellsOf e = 1) (hx : RepL w ok xs cs.toList) (hy : RepL w ok' ys ds.toList) : ∀ {is : List Nat} {b : Bool}, aeq (is.map fun i => (k, i)) xs ys = some b → (Op.eqItems (d + 1) e (P.cellsOf e) cs ds is).run P w = .ok b w
  | [], b, hb => by
    simp only [List.map_nil, aeq, Option.some.injEq] at hb; subst hb
    simp [Op.eqItems]
  | i :: is, b, hb => by
    simp only [List.map_cons, aeq] at hb
    split at hb
    case h_2 => cases hb
    rename_i u v hu hv
    split at hb
    case h_2 => cases hb
    rename_i b1 b2 hb1 hb2
    simp only [Option.some.injEq] at hb; subst hb
    have e1 : i * P.cellsOf e = i := by rw [hc, Nat.mul_one]
    simp only [Op.eqItems, Sem.run_bind, e1, part_cell hk hx hu, part_cell hk hy hv, Result.andThen_ok, ceqk_run d hk hb1]
    cases b1
    · simp
    · simpa using eqItems_run d hk hc hx hy hb2
theorem aeq_run {t : TypeId} {l : List (Nat × Nat)} {b : Bool} (hl : eqf P t = some l) (hb : aeq l xs ys = some b) (hx : RepL w ok xs cs.toList) (hy : RepL w ok' ys ds.toList) : P.eqGuardType P.depth t = false ∧ (Op.equalIn 10000 t (.agg cs) (.agg ds)).run P w = .ok b w := by
  unfold eqf at hl
  split at hl
  case isFalse => cases hl
  rename_i hg
  refine ⟨hg, ?_⟩
  split at hl
  · rename_i fs hu
    split at hl
    case isFalse => cases hl
    rename_i hs
    have hf : P.fieldsOf t = fs := by unfold Program.fieldsOf; rw [hu]
    rw [run_equalIn_struct w 9999 t cs ds (by rw [hf]; exact hu) hs, hf]
    exact eqFields_run 9998 hx hy hl hb
  · rename_i n e hu
    split at hl
    case isFalse => cases hl
    rename_i hc
    obtain ⟨k, hk, rfl⟩ := Option.map_eq_some_iff.1 hl
    obtain ⟨i, hi⟩ := Option.isSome_iff_exists.1 hc.2
    rw [run_equalIn_array w 9999 cs ds hu hi]
    exact eqItems_run 9998 hk hc.1 hx hy hb
  · cases hl
end

def beq2 (P : Program) (op : BinOp) (t : TypeId) (X Y : AV) : Option Value :=
  match X, Y with
  | .sv (.val (.bool a)), .sv (.val (.bool b)) => if (match P.underlying t with | some .bool => true | _ => false) = true then (match op with
    | .eql => some (.bool (a == b))
    | .neq => some (.bool (!(a == b)))
    | _ => none) else none
  | .sv (.agg xs), .sv (.agg ys) => match eqf P t with
    | some l => match aeq l xs ys with
      | some b => match op with
        | .eql => some (.bool b)
        | .neq => some (.bool (!b))
        | _ => none
      | none => none
    | none => none
  | _, _ => none
def convk (P : Program) (t : TypeId) (X : AV) : Option AV :=
  match P.underlying t, X with
  | some (.int k), .sv (.val (.int _ n)) => some (.sv (.val (.int k (k.wrap n))))
  | some .string, .sv (.val (.string s)) => some (.sv (.val (.string s)))
  | some .string, .sv (.val (.int _ n)) => some (.sv (.val (.string (Utf8.encode n))))
  | _, _ => none

/-! ### Bytes as a string -/
def byteS : List SV → Option (List Int)
  | [] => some []
  | .val (.int .u8 n) :: l => (byteS l).map (n :: ·)
  | _ => none
def b8 (n : Int) : SV := .val (.int .u8 n)
theorem byteS_map : ∀ l : List Int, byteS (l.map b8) = some l
  | [] => rfl
  | n :: l => by
    have := byteS_map l
    simp only [List.map_cons, b8, byteS] at this ⊢
    rw [this]; rfl
theorem byteS_eq : ∀ {xs : List SV} {ns : List Int}, byteS xs = some ns → xs = ns.map b8
  | [], ns, h => by simp only [byteS, Option.some.injEq] at h; subst h; rfl
  | x :: xs, ns, h => by
    unfold byteS at h
    split at h
    · rename_i e; cases e
    · rename_i n l e
      simp only [List.cons.injEq] at e
      obtain ⟨rfl, rfl⟩ := e
      obtain ⟨ms, h1, rfl⟩ := Option.map_eq_some_iff.1 h
      rw [byteS_eq h1]; rfl
    · cases h
/-- The string of so many bytes. -/
def ofB (ns : List Int) : ByteArray := ns.foldl (fun r n => r.push (UInt8.ofNat n.toNat)) ByteArray.empty
def convS (P : Program) (st : St) (s t : TypeId) (X : AV) : Option AV := match selem P s, P.underlying t with
  | some e, some .string => match P.underlying e, (rowOf st X).bind byteS with
    | some (.int .u8), some ns => some (.sv (.val (.string (ofB ns))))
    | _, _ => none
  | _, _ => none
theorem bytes_vals {w : World} {ok : Nat → Prop} : ∀ {ns : List Int} {vs : List Value}, RepL w ok (ns.map b8) vs → vs = ns.map (Value.int .u8)
  | [], vs, h => by simpa only [List.map_nil, RepL] using h
  | n :: ns, vs, h => by
    simp only [List.map_cons, RepL] at h
    obtain ⟨v, vs', rfl, h1, h2⟩ := h
    simp only [b8, RepS] at h1
    rw [h1, bytes_vals h2]; rfl
theorem convS_run {P : Program} {keep : Nat → Prop} {w : World} {E : Env} {st : St} {a : Act} (hI : Inv keep w E st a) {s t : TypeId} {X Y : AV} (h : convS P st s t X = some Y) {v : Value} (hv : RepV w E (lk st.m) X v) :
    ∃ u, (convert s t v).run P w = .ok u w ∧ RepV w E (lk st.m) Y u := by
  unfold convS at h
  split at h
  case h_2 => cases h
  rename_i e he ht
  split at h
  case h_2 => cases h
  rename_i ns hu hb
  simp only [Option.some.injEq] at h; subst h
  obtain ⟨xs, hx, hb⟩ := Option.bind_eq_some_iff.1 hb
  have := byteS_eq hb; subst this
  obtain ⟨b, c, rfl, _, hor⟩ := src_rep hI hx hv
  refine ⟨_, ?_, RepV.val_mk _⟩
  rw [run_convert_bytes_string w s t e _ _ _ (selem_eq he).1 hu ht]
  rcases hor with h0 | ⟨ad, sz, vs, rfl, hr, hat⟩
  · have h0 : ns = [] := by simpa using h0
    subst h0
    cases b with
    | none => rfl
    | some ad =>
      have := run_bytesToString (P := P) w ad 0 c [] (run_loadCells_list w ad [] (fun j v hj => by simp at hj))
      simpa [ofB] using this
  · have := bytes_vals hr; subst this
    have hl := run_loadCells_list (P := P) w ad (ns.map (Value.int .u8)) (fun j v hj => by
      obtain ⟨k1, k2⟩ := hat j v hj
      obtain ⟨n, _, rfl⟩ := List.mem_map.1 (List.mem_of_getElem? hj)
      have hs : sz = 1 := by rw [← k1]; rfl
      have := k2 0 (.int .u8 n) rfl
      rw [Go.Deep.add_add, hs, Nat.mul_one, Nat.add_zero] at this
      exact this)
    have := run_bytesToString (P := P) w ad ns.length c ns (by simpa using hl)
    simpa [ofB] using this

/-- A condition, what is put, what is stored. -/
structure Dl where
  c : Prop
  x : Option AV
  m : Option (Nat × Obj')
def St.app (st : St) (dst : Option Nat) (d : Dl) : St :=
  let s := match d.x with
    | some x => st.put dst x
    | none => st
  match d.m with
  | some (t, o) => { s with m := up s.m t o }
  | none => s

def astoreO (P : Program) (st : St) (ty : TypeId) (X Y : AV) : Option (Nat × Obj') :=
  match Y.cells (lk st.m) with
  | some ys =>
    if (ys.length == tsz P ty && ys.all AV.one) = true then
      match X with
      | .box t off => match lk st.m t with
        | some (.box cs) => if off + ys.length ≤ cs.length then some (t, .box (setAt cs off ys)) else none
        | _ => none
      | .elt t i off => match lk st.m t with
        | some (.row k xs) => match xs[i]?, AV.svs ys with
          | some x, some zs => if (x.solid && zs.all SV.one) = true ∧ off + zs.length ≤ x.cells.length then some (t, .row k (xs.set i (x.withCells (setAt x.cells off zs)))) else none
          | _, _ => none
        | _ => none
      | _ => none
    else none
  | none => none
theorem astore_eq (P : Program) (st : St) (ty : TypeId) (X Y : AV) : astore P st ty X Y = (astoreO P st ty X Y).map fun p => up st.m p.1 p.2 := by
  unfold astore astoreO
  cases hy : Y.cells (lk st.m) with
  | none => rfl
  | some ys =>
    dsimp only
    by_cases c : (ys.length == tsz P ty && ys.all AV.one) = true
    · rw [if_pos c, if_pos c]
      cases X with
      | box t off =>
        dsimp only
        cases lk st.m t with
        | none => rfl
        | some o => cases o with
          | row k xs => rfl
          | box cs =>
            dsimp only
            by_cases h : off + ys.length ≤ cs.length
            · rw [if_pos h, if_pos h]; rfl
            · rw [if_neg h, if_neg h]; rfl
      | elt t i off =>
        dsimp only
        cases lk st.m t with
        | none => rfl
        | some o => cases o with
          | box cs => rfl
          | row k xs =>
            dsimp only
            cases xs[i]? with
            | none => rfl
            | some x => cases AV.svs ys with
              | none => rfl
              | some zs =>
                dsimp only
                by_cases h : (x.solid && zs.all SV.one) = true ∧ off + zs.length ≤ x.cells.length
                · rw [if_pos h, if_pos h]; rfl
                · rw [if_neg h, if_neg h]; rfl
      | _ => rfl
    · rw [if_neg c, if_neg c]; rfl

def caps1 (st : St) : List Operand → Option (List AV)
  | [] => some []
  | x :: xs => match aval st x, caps1 st xs with
    | some y, some ys => some (y :: ys)
    | _, _ => none

def dltB (P : Program) (st : St) (b : Builtin) (xs : List Operand) (ts : List TypeId) : Option Dl :=
  match b, xs, ts with
  | .len, [x], [ty] => match aval st x with
    | some (.sv (.val (.string s))) => match P.underlying ty with
      | some .string => some ⟨True, some (.sv (.val (.int .i64 s.size))), none⟩
      | _ => none
    | some X => match selem P ty, rowOf st X with
      | some _, some xs => some ⟨True, some (.sv (.val (.int .i64 xs.length))), none⟩
      | _, _ => none
    | none => none
  | .min, [x, y], [_, _] => match aval st x, aval st y with
    | some (.sv (.val (.int k m))), some (.sv (.val (.int k' n))) => if k = k' then some ⟨True, some (.sv (.val (.int k (if n < m then n else m)))), none⟩ else none
    | _, _ => none
  | .max, [x, y], [_, _] => match aval st x, aval st y with
    | some (.sv (.val (.int k m))), some (.sv (.val (.int k' n))) => if k = k' then some ⟨True, some (.sv (.val (.int k (if m < n then n else m)))), none⟩ else none
    | _, _ => none
  | _, _, _ => none

def idxA (P : Program) (st : St) (ty : TypeId) (X : AV) (n : Int) : Option Dl :=
  match X with
  | .own t => match selem P ty, lk st.m t with
      | some e, some (.row k xs) => if k = tsz P e then some ⟨0 ≤ n ∧ n < (xs.length : Int), some (.elt t n.toNat 0), none⟩ else none
      | _, _ => none
  | .sl t k => match selem P ty, lk st.m t with
      | some e, some (.box _) => if tsz P e = 1 then some ⟨0 ≤ n ∧ n < (k : Int), some (.box t n.toNat), none⟩ else none
      | _, _ => none
  | .sv (.lst xs) => match selem P ty with
      | some e => some ⟨(0 ≤ n ∧ n < (xs.length : Int)) ∧ (xs.getD n.toNat .any).solid = true ∧ (xs.getD n.toNat .any).cells.length = tsz P e, some (.sv (.ref (xs.getD n.toNat .any) 0)), none⟩
      | none => none
  | X => match aelem P ty with
      | some (len, e) => (ashift st (n.toNat * tsz P e) X).map fun Y => ⟨0 ≤ n ∧ n < (len : Int), some Y, none⟩
      | none => none

def dlt (P : Program) (o : Oper) (st : St) : Option Dl :=
  match o.op with
  | .move x | .assign x => (aval st x).map fun X => ⟨True, some X, none⟩
  | .pick c x y => match aval st c with
    | some (.sv (.val (.bool b))) => some ⟨True, some (if b = true then av0 st x else av0 st y), none⟩
    | _ => none
  | .load ty p => match (aval st p).bind (aload P st ty) with
    | some Y => if (P.underlying ty).isSome = true then some ⟨True, some Y, none⟩ else none
    | none => none
  | .store ty p y => match aval st p, aval st y, o.dst with
    | some X, some Y, none => match astoreO P st ty X Y with
      | some q => if (P.info? ty).isSome = true then some ⟨True, none, some q⟩ else none
      | none => none
    | _, _, _ => none
  | .binOp op t x y _ => match aval st x, aval st y with
    | some X, some Y => match binv op X Y with
      | some v => some ⟨True, some (.sv (.val v)), none⟩
      | none => match beq2 P op t X Y with
        | some v => some ⟨True, some (.sv (.val v)), none⟩
        | none => none
    | _, _ => none
  | .unOp .not _ x => match aval st x with
    | some (.sv (.val (.bool b))) => some ⟨True, some (.sv (.val (.bool (!b)))), none⟩
    | _ => none
  | .unOp .neg _ x => match aval st x with
    | some (.sv (.val (.int k n))) => some ⟨True, some (.sv (.val (.int k (k.wrap (0 - n))))), none⟩
    | _ => none
  | .convert s t x => match (aval st x).bind (convk P t) with
    | some Y => if (P.underlying s).isSome = true then some ⟨True, some Y, none⟩ else none
    | none => ((aval st x).bind (convS P st s t)).map fun Y => ⟨True, some Y, none⟩
  | .extract x i => match aval st x with
    | some (.tup xs) => xs[i]?.map fun y => ⟨True, some y, none⟩
    | _ => none
  | .fieldAddr ty x f => match aval st x, foff P ty f with
    | some X, some n => (ashift st n X).map fun Y => ⟨True, some Y, none⟩
    | _, _ => none
  | .nilCheck x => match aval st x with
    | some X => (ashift st 0 X).map fun _ => ⟨True, some X, none⟩
    | none => none
  | .indexAddr ty x y => match aval st x, (aval st y).bind AV.int with
    | some X, some p => idxA P st ty X p.2
    | _, _ => none
  | .field ty x f => match aval st x, ftype P ty f with
    | some (.sv (.agg xs)), some (t, n) => (apart P t xs n).map fun z => ⟨True, some (.sv z), none⟩
    | _, _ => none
  | .index ty x y => match aval st x, aval st y with
    | some (.sv (.agg xs)), some (.sv (.val (.int _ n))) => match aelem P ty with
      | some (len, e) => if (P.underlying e).isSome = true ∧ tagg P e = false then some ⟨(0 ≤ n ∧ n < (len : Int)) ∧ n.toNat * tsz P e < xs.length, some (.sv (xs.getD (n.toNat * tsz P e) .any)), none⟩ else none
      | none => none
    | some (.sv (.val (.string s))), some (.sv (.val (.int _ n))) => match P.underlying ty with
      | some .string => some ⟨0 ≤ n ∧ n < (s.size : Int), some (.sv (.val (.int .u8 (bt s n)))), none⟩
      | _ => none
    | _, _ => none
  | .slice ty x lo hi none => match aval st x with
    | some (.sv (.lst xs)) => match selem P ty, bnd st 0 lo, bnd st xs.length hi with
      | some e, some l, some h => some ⟨(0 ≤ l ∧ l ≤ h ∧ h ≤ (xs.length : Int)) ∧ ∀ z ∈ xs, z.fits (tsz P e) = true, some (.sv (.lst ((xs.take h.toNat).drop l.toNat))), none⟩
      | _, _, _ => none
    | some (.sv (.val (.string s))) => match P.underlying ty, bnd st 0 lo, bnd st s.size hi with
      | some .string, some l, some h => some ⟨0 ≤ l ∧ l ≤ h ∧ h ≤ (s.size : Int), some (.sv (.val (.string (s.extract l.toNat h.toNat)))), none⟩
      | _, _, _ => none
    | _ => none
  | .makeFunc (.func f) first caps => if first.size = 0 then (caps1 st caps.toList).map fun l => ⟨True, some (.fnv f l), none⟩ else none
  | .call { callee := .builtin b, args := xs, argTypes := ts } => dltB P st b xs.toList ts.toList
  | _ => none

theorem Does.ofPut {P : Program} {o : Oper} {st : St} {X : AV} {c : Prop} (h : Does P o st (st.put o.dst X)) : Does P o st (st.app o.dst ⟨c, some X, none⟩) := h

theorem binv_run {P : Program} {op : BinOp} {t : TypeId} {X Y : AV} {v : Value} (h : binv op X Y = some v) {w : World} {x y : Operand} {u1 u2 : Value} {E : Env} {m : Mem} (h1 : RepV w E m X u1) (h2 : RepV w E m Y u2) :
    (do eqGuard op t x y u1 u2; binOp op t u1 u2 : Sem Value).run P w = .ok v w := by
  unfold binv at h
  split at h
  · rename_i k a k' b
    rw [h1.val, h2.val]
    split at h
    · exact run_ishift (.inl rfl) h
    · exact run_ishift (.inr rfl) h
    · split at h
      · rename_i hk; subst hk; exact run_ibin (by constructor <;> assumption) h
      · cases h
  · rename_i a b
    rw [h1.val, h2.val]
    split at h <;> first | (simp only [Option.some.injEq] at h; subst h; simp [eqGuard, binOp, Op.stringOp]) | cases h
  · cases h
theorem run_equal_bool {P : Program} {t : TypeId} {a b : Bool} {w : World} (hq : P.underlying t = some .bool) : (Op.equal t (.bool a) (.bool b)).run P w = .ok (a == b) w := by
  show (Op.equalIn (9999 + 1) t (.bool a) (.bool b)).run P w = _
  unfold Op.equalIn
  rw [Sem.run_bind, run_underlying hq]
  rfl
theorem beq2_run {P : Program} {op : BinOp} {t : TypeId} {X Y : AV} {v : Value} (h : beq2 P op t X Y = some v) {w : World} {x y : Operand} {u1 u2 : Value} {E : Env} {m : Mem} (h1 : RepV w E m X u1) (h2 : RepV w E m Y u2) :
    (do eqGuard op t x y u1 u2; binOp op t u1 u2 : Sem Value).run P w = .ok v w := by
  unfold beq2 at h
  split at h
  · rename_i a b
    rw [h1.val, h2.val]
    have hu : ∀ (c : Prop) [Decidable c] {z : Option Value}, (if (match P.underlying t with | some .bool => true | _ => false) = true then z else none) = some v → P.underlying t = some .bool ∧ z = some v := by
      intro c _ z hz
      cases hq : P.underlying t with
      | none => simp [hq] at hz
      | some q => cases q <;> simp [hq] at hz; exact ⟨rfl, hz⟩
    obtain ⟨hq, h⟩ := hu True h
    split at h <;> first | (simp only [Option.some.injEq] at h; subst h; simp [eqGuard, binOp, run_equal_bool hq]) | cases h
  · rename_i xs ys
    split at h
    case h_2 => cases h
    rename_i l hl
    split at h
    case h_2 => cases h
    rename_i b hb
    simp only [RepV, RepS] at h1 h2
    obtain ⟨cs, rfl, hx⟩ := h1
    obtain ⟨ds, rfl, hy⟩ := h2
    obtain ⟨hg, hrun⟩ := aeq_run hl hb hx hy
    rw [Sem.run_bind, run_eqGuard_agg w op t x y cs ds hg]
    split at h
    · simp only [Option.some.injEq] at h; subst h
      simp [run_eql_struct, hrun]
    · simp only [Option.some.injEq] at h; subst h
      simp [run_neq_struct, hrun]
    · cases h
  · cases h

theorem caps1_rep {kp : Nat → Prop} {w : World} {E : Env} {st : St} {a : Act} (hI : Inv kp w E st a) : ∀ {l : List Operand} {ys : List AV}, caps1 st l = some ys → RepVL w E (lk st.m) ys (l.map a.eval)
  | [], ys, h => by simp only [caps1, Option.some.injEq] at h; subst h; exact RepVL.nil
  | x :: xs, ys, h => by
    simp only [caps1] at h
    split at h
    · rename_i y ys' h1 h2
      simp only [Option.some.injEq] at h; subst h
      exact RepVL.cons (aval_rep hI h1) (caps1_rep hI h2)
    · cases h

theorem dlt_does {P : Program} {o : Oper} {st : St} {d : Dl} (h : dlt P o st = some d) (hc : d.c) (hd : st.fitsDst o.dst = true) : Does P o st (st.app o.dst d) := by
  unfold dlt at h
  split at h
  · rename_i x ho; obtain ⟨X, hX, rfl⟩ := Option.map_eq_some_iff.1 h; exact does_move (.inl ho) hX hd
  · rename_i x ho; obtain ⟨X, hX, rfl⟩ := Option.map_eq_some_iff.1 h; exact does_move (.inr ho) hX hd
  · rename_i c x y ho
    split at h
    · rename_i b hb
      simp only [Option.some.injEq] at h; subst h
      refine Does.puts hd fun keep w E a hI => ⟨if b = true then a.eval x else a.eval y, ?_, ?_⟩
      · have h1 := (aval_rep hI hb).val
        unfold execOp
        rw [ho]
        simp only [h1]
        cases b <;> simp [asBool]
      · cases b
        · simpa using av0_rep hI y
        · simpa using av0_rep hI x
    · cases h
  · rename_i ty p ho
    split at h
    case h_2 => cases h
    rename_i Y hY
    split at h
    case isFalse => cases h
    rename_i hu
    simp only [Option.some.injEq] at h; subst h
    obtain ⟨X, hX, hY⟩ := Option.bind_eq_some_iff.1 hY
    exact does_load ho hX hu hY hd
  · rename_i ty p y ho
    split at h
    case h_2 => cases h
    rename_i X Y hX hY hdst
    split at h
    case h_2 => cases h
    rename_i q hq
    split at h
    case isFalse => cases h
    rename_i hi
    simp only [Option.some.injEq] at h; subst h
    exact does_store ho hdst hX hY hi (by rw [astore_eq, hq]; rfl)
  · rename_i op t x y ty ho
    split at h
    case h_2 => cases h
    rename_i X Y hX hY
    have key : ∀ v, (∀ (keep : Nat → Prop) (w : World) (E : Env) (a : Act), Inv keep w E st a → (do eqGuard op t x y (a.eval x) (a.eval y); binOp op t (a.eval x) (a.eval y) : Sem Value).run P w = .ok v w) → Does P o st (st.put o.dst (.sv (.val v))) := fun v hv =>
      Does.puts hd fun keep w E a hI => ⟨v, by
        unfold execOp
        rw [ho]
        dsimp only
        rw [Sem.run_bind, hv keep w E a hI]
        rfl, RepV.val_mk v⟩
    split at h
    · rename_i v hv
      simp only [Option.some.injEq] at h; subst h
      exact key v fun keep w E a hI => binv_run hv (aval_rep hI hX) (aval_rep hI hY)
    · split at h
      · rename_i v hv
        simp only [Option.some.injEq] at h; subst h
        exact key v fun keep w E a hI => beq2_run hv (aval_rep hI hX) (aval_rep hI hY)
      · cases h
  · rename_i t x ho
    split at h
    · rename_i b hb
      simp only [Option.some.injEq] at h; subst h
      exact does_not ho hb rfl hd
    · cases h
  · rename_i t x ho
    split at h
    · rename_i k n hb
      simp only [Option.some.injEq] at h; subst h
      exact does_neg ho hb rfl hd
    · cases h
  · rename_i s t x ho
    split at h
    case h_2 =>
      obtain ⟨Y, hY, rfl⟩ := Option.map_eq_some_iff.1 h
      obtain ⟨X, hX, hY⟩ := Option.bind_eq_some_iff.1 hY
      refine Does.puts hd fun keep w E a hI => ?_
      obtain ⟨u, h1, h2⟩ := convS_run hI hY (aval_rep hI hX)
      refine ⟨u, ?_, h2⟩
      unfold execOp
      rw [ho]
      dsimp only
      rw [Sem.run_bind, h1]
      rfl
    rename_i Y hY
    split at h
    case isFalse => cases h
    rename_i hs
    obtain ⟨ds, hs⟩ := Option.isSome_iff_exists.1 hs
    simp only [Option.some.injEq] at h; subst h
    obtain ⟨X, hX, hY⟩ := Option.bind_eq_some_iff.1 hY
    unfold convk at hY
    split at hY
    · rename_i k k' n hu
      simp only [Option.some.injEq] at hY; subst hY
      refine Does.puts hd fun keep w E a hI => ⟨.int k (k.wrap n), ?_, RepV.val_mk _⟩
      have h1 := (aval_rep hI hX).val
      unfold execOp
      rw [ho]
      simp only [h1]
      cases ds <;> simp [convert, run_underlying hs, run_underlying hu, Conv.intToInt]
    · rename_i z hu
      simp only [Option.some.injEq] at hY; subst hY
      refine Does.puts hd fun keep w E a hI => ⟨.string z, ?_, RepV.val_mk _⟩
      have h1 := (aval_rep hI hX).val
      unfold execOp
      rw [ho]
      simp only [h1]
      cases ds <;> simp [convert, run_underlying hs, run_underlying hu]
    · rename_i k n hu
      simp only [Option.some.injEq] at hY; subst hY
      refine Does.puts hd fun keep w E a hI => ⟨.string (Utf8.encode n), ?_, RepV.val_mk _⟩
      have h1 := (aval_rep hI hX).val
      unfold execOp
      rw [ho]
      simp only [h1]
      cases ds <;> simp [convert, run_underlying hs, run_underlying hu, Conv.intToString]
    · cases hY
  · rename_i x i ho
    split at h
    case h_2 => cases h
    rename_i xs hx
    obtain ⟨y, hy, rfl⟩ := Option.map_eq_some_iff.1 h
    exact does_extract ho hx hy hd
  · rename_i ty x f ho
    split at h
    case h_2 => cases h
    rename_i X n hX hn
    obtain ⟨Y, hY, rfl⟩ := Option.map_eq_some_iff.1 h
    exact does_fieldAddr ho hX hn hY hd
  · rename_i x ho
    split at h
    case h_2 => cases h
    rename_i X hX
    obtain ⟨Y, hY, rfl⟩ := Option.map_eq_some_iff.1 h
    exact does_nilCheck ho hX hY hd
  · rename_i ty x y ho
    split at h
    case h_2 => cases h
    rename_i X p hX hp
    obtain ⟨Y, hY, hp⟩ := Option.bind_eq_some_iff.1 hp
    obtain ⟨k, n⟩ := p
    have hy := hY
    rw [AV.int_eq hp] at hy
    unfold idxA at h
    split at h
    · rename_i t
      split at h
      case h_2 => cases h
      rename_i e k' xs he hm
      split at h
      case isFalse => cases h
      rename_i hk
      subst hk
      simp only [Option.some.injEq] at h; subst h
      exact does_indexAddr_own ho hX he hm hy hc hd
    · rename_i t k'
      split at h
      case h_2 => cases h
      rename_i e cs he hm
      split at h
      case isFalse => cases h
      rename_i hk
      simp only [Option.some.injEq] at h; subst h
      exact does_indexAddr_sl ho hX he hk hm hy hc hd
    · rename_i xs
      split at h
      case h_2 => cases h
      rename_i e he
      simp only [Option.some.injEq] at h; subst h
      obtain ⟨⟨c1, c2⟩, c3⟩ := hc
      have hlt : n.toNat < xs.length := by omega
      have hg : xs[n.toNat]? = some (xs.getD n.toNat .any) := by rw [List.getD_eq_getElem?_getD, List.getElem?_eq_getElem hlt]; rfl
      exact does_indexAddr_lst ho hX hy he c1 hg c3 hd
    · rename_i hnot1 hnot2 hnot3
      split at h
      case h_2 => cases h
      rename_i len e he
      obtain ⟨Y, hY, rfl⟩ := Option.map_eq_some_iff.1 h
      exact does_indexAddr_arr ho hX hy he hc hY hd
  · rename_i ty x f ho
    split at h
    case h_2 => cases h
    rename_i xs t n hx hf
    obtain ⟨z, hz, rfl⟩ := Option.map_eq_some_iff.1 h
    exact does_field ho hx hf hz hd
  · rename_i ty x y ho
    split at h
    · rename_i xs k n hx hy
      split at h
      case h_2 => cases h
      rename_i len e he
      split at h
      case isFalse => cases h
      rename_i hu
      simp only [Option.some.injEq] at h; subst h
      refine does_index_arr ho hx hy he hu.1 hc.1 ?_ hd
      unfold apart
      rw [hu.2, if_neg (by simp), List.getD_eq_getElem?_getD, List.getElem?_eq_getElem hc.2]
      rfl
    · rename_i s k n hx hy
      split at h
      · rename_i hu
        simp only [Option.some.injEq] at h; subst h
        exact does_index_str ho hx hy hu hc hd
      · cases h
    · cases h
  · rename_i ty x lo hi ho
    split at h
    · rename_i xs hx
      split at h
      case h_2 => cases h
      rename_i e l h' he hl hh
      simp only [Option.some.injEq] at h; subst h
      exact does_slice ho hx he hl hh hc.1 hc.2 hd
    · rename_i s hx
      split at h
      · rename_i l h' hu hl hh
        simp only [Option.some.injEq] at h; subst h
        exact does_slice_str ho hx hu hl hh hc hd
      · cases h
    · cases h
  · rename_i f first caps ho
    split at h
    case isFalse => cases h
    rename_i hfi
    obtain ⟨ys, hys, rfl⟩ := Option.map_eq_some_iff.1 h
    refine Does.puts hd fun keep w E a hI => ⟨.func (.func f) #[] (caps.map a.eval), ?_, ?_⟩
    · have : first = #[] := Array.eq_empty_of_size_eq_zero hfi
      unfold execOp
      rw [ho]
      simp [Instr.makeFunc, this]
    · simp only [RepV]
      exact ⟨_, rfl, by simpa using caps1_rep hI hys⟩
  · rename_i b xs ts ho
    unfold dltB at h
    split at h
    · rename_i x ty hxs hts
      have e1 : xs = #[x] := Array.toList_inj.1 (by simpa using hxs)
      have e2 : ts = #[ty] := Array.toList_inj.1 (by simpa using hts)
      subst e1; subst e2
      split at h
      · rename_i s hx
        split at h
        · rename_i hu
          simp only [Option.some.injEq] at h; subst h
          exact does_len_str ho hx hu hd
        · cases h
      · rename_i X hnot hx
        split at h
        case h_2 => cases h
        rename_i e xs he hxs
        simp only [Option.some.injEq] at h; subst h
        exact does_len ho hx he hxs hd
      · cases h
    · rename_i x y t1 t2 hxs hts
      have e1 : xs = #[x, y] := Array.toList_inj.1 (by simpa using hxs)
      have e2 : ts = #[t1, t2] := Array.toList_inj.1 (by simpa using hts)
      subst e1; subst e2
      split at h
      case h_2 => cases h
      rename_i k m k' n hx hy
      split at h
      case isFalse => cases h
      rename_i hk
      subst hk
      simp only [Option.some.injEq] at h; subst h
      exact does_min ho hx hy hd
    · rename_i x y t1 t2 hxs hts
      have e1 : xs = #[x, y] := Array.toList_inj.1 (by simpa using hxs)
      have e2 : ts = #[t1, t2] := Array.toList_inj.1 (by simpa using hts)
      subst e1; subst e2
      split at h
      case h_2 => cases h
      rename_i k m k' n hx hy
      split at h
      case isFalse => cases h
      rename_i hk
      subst hk
      simp only [Option.some.injEq] at h; subst h
      exact does_max ho hx hy hd
    · cases h
  · cases h
end Go.Proofs.YtfcojlagmmgagaaDoor.Ab
