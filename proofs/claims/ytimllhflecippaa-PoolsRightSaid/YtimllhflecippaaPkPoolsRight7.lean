/- The texts of the law PoolsRight, without what it does not use, laid together: part 7. -/
import Derived.Test.YtimllhflecippaaPkPoolsRight1
import Derived.Test.YtimllhflecippaaPkPoolsRight2
import Derived.Test.YtimllhflecippaaPkPoolsRight3
import Derived.Test.YtimllhflecippaaPkPoolsRight4
import Derived.Test.YtimllhflecippaaPkPoolsRight5
import Derived.Test.YtimllhflecippaaPkPoolsRight6
import Derived.WalkKit
import Derived.Below
import Derived.Lib.TrailingZeros
import Derived.Deep.Slices
import Derived.Great.BuildSlice
import Derived.Scope
import Derived.Laws.StructEq
import Derived.ChangeKeysEq
import Derived.Laws.BytesString
import Derived.Laws.FloatArith
import Derived.Orders
import Derived.ChangeArms
import Derived.SizedLaws
import Derived.ChangeSlices
import Derived.OpenShut
import Derived.WideShapes
import Derived.ChangeOld
import Derived.ShutString
import Derived.ProofKit
import Derived.Laws.Cover3
import Derived.Deep.Draws
import Derived.Deep.AppendLies
import Derived.Maps.AppendAt
import Derived.OwnWalk
import Derived.Laws.BytesArg
import Derived.Laws.MakeOwn
import Derived.Laws.OwnMore
import Derived.Deep.OwnRows
import Derived.Tactics
import Derived.Lib.ConvBytes
import Derived.Laws.Slices
import Derived.KernelRfl
import Derived.RowKit3
import Derived.Deep.LoopGhost
import Derived.Deep.QuietTactic
import Derived.BigQuiet
import Derived.WideLaws
import Derived.Deep.DeepCutAuto
import Derived.Deep.CutBlock
import Derived.Deep.RegionHeld3
import Derived.Laws.Rows
import Derived.Lib.AppendStr
import Derived.ArgAppend
import Derived.Laws.IdiomCopy
import Derived.RowKit
import Derived.OrdersHeld
import Derived.Laws.BitsLemmas
import Derived.Test.YtimllhflecippaaProg
import Derived.WalkSpells
import Derived.Laws.Strings

section
namespace Go.Proofs.Ytimllhflecippaa.Ab
open Go.RowKit
set_option linter.unusedVariables false
set_option linter.unusedSimpArgs false

def av0 (st : St) (x : Operand) : AV := (aval st x).getD (.sv .any)
theorem av0_rep {keep : Nat → Prop} {w : World} {E : Env} {st : St} {a : Act} (h : Inv keep w E st a) (x : Operand) : RepV w E (lk st.m) (av0 st x) (a.eval x) := by
  unfold av0
  cases hx : aval st x with
  | none => simp only [Option.getD_none, RepV, RepS]
  | some y => exact aval_rep h hx

/-- Floats: less, equal, greater. -/
def fLt (k : FloatKind) (a b : Nat) : Bool := k.format.order a b == some .lt
def fEq (k : FloatKind) (a b : Nat) : Bool := k.format.order a b == some .eq
def fGt (k : FloatKind) (a b : Nat) : Bool := k.format.order a b == some .gt
def fbin (op : BinOp) (k : FloatKind) (a b : Nat) : Option Value :=
  match op with
  | .eql => some (.bool (fEq k a b))
  | .neq => some (.bool (!fEq k a b))
  | .lss => some (.bool (fLt k a b))
  | .leq => some (.bool (fLt k a b || fEq k a b))
  | .gtr => some (.bool (fGt k a b))
  | .geq => some (.bool (fGt k a b || fEq k a b))
  | op => (floatBits op k a b).map (.float k)
/-- What two values, known, come to. -/
def binv (op : BinOp) (X Y : AV) : Option Value :=
  match X, Y with
  | .sv (.val (.int k a)), .sv (.val (.int k' b)) => match op with
    | .shl | .shr => ishift op k a b
    | _ => if k = k' then ibin op k a b else none
  | .sv (.val (.string a)), .sv (.val (.string b)) => match op with
    | .eql => some (.bool (a.toList == b.toList))
    | .neq => some (.bool (!(a.toList == b.toList)))
    | _ => none
  | .sv (.val (.float k a)), .sv (.val (.float k' b)) => if k = k' then fbin op k a b else none
  | _, _ => none
def bcode (P : Program) (t : TypeId) : Option Nat :=
  match P.underlying t with
  | some (.int _) => some 0
  | some .bool => some 1
  | some .string => some 2
  | _ => none
def ceqk : Nat → Value → Value → Option Bool
  | 0, .int k a, .int k' b => if k = k' then some (a == b) else none
  | 1, .bool a, .bool b => some (a == b)
  | 2, .string a, .string b => some (a.toList == b.toList)
  | _, _, _ => none
def eqfL (P : Program) : List Field → Option (List (Nat × Nat))
  | [] => some []
  | f :: fs => if f.name ≠ "_" then match bcode P f.type, eqfL P fs with
    | some k, some l => some ((k, f.offset) :: l)
    | _, _ => none
    else none
/-- The cells of a type that are to be compared: what they are, and where. -/
def eqf (P : Program) (t : TypeId) : Option (List (Nat × Nat)) :=
  if P.eqGuardType P.depth t = false then match P.underlying t with
    | some (.struct fs) => if P.stoodInHeld t = false then eqfL P fs.toList else none
    | some (.array n e) => if P.cellsOf e = 1 ∧ (P.info? e).isSome = true then (bcode P e).map fun k => (List.range n).map fun i => (k, i) else none
    | _ => none
  else none
def aeq : List (Nat × Nat) → List SV → List SV → Option Bool
  | [], _, _ => some true
  | (k, off) :: l, xs, ys => match xs[off]?, ys[off]? with
    | some (.val u), some (.val v) => match ceqk k u v, aeq l xs ys with
      | some b, some c => some (b && c)
      | _, _ => none
    | _, _ => none
section
variable {P : Program} {w : World} {ok ok' : Nat → Prop} {xs ys : List SV} {cs ds : Array Value}
theorem ceqk_run {k : Nat} {u v : Value} {b : Bool} {t : TypeId} (d : Nat) (hk : bcode P t = some k) (h : ceqk k u v = some b) : (Op.equalIn (d + 1) t u v).run P w = .ok b w := by
  cases hu : P.underlying t with
  | none => simp [bcode, hu] at hk
  | some q =>
    cases q <;> simp only [bcode, hu, Option.some.injEq, reduceCtorEq] at hk
    all_goals
      subst hk
      cases u <;> cases v <;> simp only [ceqk, reduceCtorEq, Option.some.injEq] at h
    · subst h; simp [Op.equalIn, run_underlying hu]
    · split at h
      · rename_i e; subst e
        simp only [Option.some.injEq] at h; subst h
        simp [Op.equalIn, run_underlying hu]
      · cases h
    · subst h; simp [Op.equalIn, run_underlying hu, beq_toListBytes]
theorem bcode_plain {t : TypeId} {k : Nat} (hk : bcode P t = some k) : (P.underlying t).isSome = true ∧ tagg P t = false := by
  unfold bcode at hk
  split at hk
  · rename_i hu; simp [tagg, hu]
  · rename_i hu; simp [tagg, hu]
  · rename_i hu; simp [tagg, hu]
  · cases hk
theorem part_cell {t : TypeId} {k off : Nat} {u : Value} (hk : bcode P t = some k) (hr : RepL w ok xs cs.toList) (hx : xs[off]? = some (.val u)) : (part t cs off).run P w = .ok u w := by
  obtain ⟨h1, h2⟩ := bcode_plain hk
  have hlt : off < cs.toList.length := by rw [← hr.len]; exact (List.getElem?_eq_some_iff.1 hx).1
  have h3 := hr.get off _ _ hx (List.getElem?_eq_getElem hlt)
  simp only [RepS] at h3
  have h4 : cs[off]? = some u := by
    rw [← h3]
    simp
  simp [part, run_isAgg h1, h2, h4]
theorem eqFields_run (d : Nat) (hx : RepL w ok xs cs.toList) (hy : RepL w ok' ys ds.toList) : ∀ {fs : List Field} {l : List (Nat × Nat)} {b : Bool}, eqfL P fs = some l → aeq l xs ys = some b → (Op.eqFields (d + 1) cs ds fs).run P w = .ok b w
  | [], l, b, hl, hb => by
    simp only [eqfL, Option.some.injEq] at hl; subst hl
    simp only [aeq, Option.some.injEq] at hb; subst hb
    simp [Op.eqFields]
  | f :: fs, l, b, hl, hb => by
    simp only [eqfL] at hl
    split at hl
    case isFalse => cases hl
    rename_i hn
    split at hl
    case h_2 => cases hl
    rename_i k l' hk hl'
    simp only [Option.some.injEq] at hl; subst hl
    simp only [aeq] at hb
    split at hb
    case h_2 => cases hb
    rename_i u v hu hv
    split at hb
    case h_2 => cases hb
    rename_i b1 b2 hb1 hb2
    simp only [Option.some.injEq] at hb; subst hb
    simp only [Op.eqFields, hn, ne_eq, not_false_eq_true, if_true, Sem.run_bind, part_cell hk hx hu, part_cell hk hy hv, Result.andThen_ok, ceqk_run d hk hb1]
    cases b1
    · simp
    · simpa using eqFields_run d hx hy hl' hb2
theorem eqItems_run (d : Nat) {e : TypeId} {k : Nat} (hk : bcode P e = some k) (hc : P.cellsOf e = 1) (hx : RepL w ok xs cs.toList) (hy : RepL w ok' ys ds.toList) : ∀ {is : List Nat} {b : Bool}, aeq (is.map fun i => (k, i)) xs ys = some b → (Op.eqItems (d + 1) e (P.cellsOf e) cs ds is).run P w = .ok b w
  | [], b, hb => by
    simp only [List.map_nil, aeq, Option.some.injEq] at hb; subst hb
    simp [Op.eqItems]
  | i :: is, b, hb => by
    simp only [List.map_cons, aeq] at hb
    split at hb
    case h_2 => cases hb
    rename_i u v hu hv
    split at hb
    case h_2 => cases hb
    rename_i b1 b2 hb1 hb2
    simp only [Option.some.injEq] at hb; subst hb
    have e1 : i * P.cellsOf e = i := by rw [hc, Nat.mul_one]
    simp only [Op.eqItems, Sem.run_bind, e1, part_cell hk hx hu, part_cell hk hy hv, Result.andThen_ok, ceqk_run d hk hb1]
    cases b1
    · simp
    · simpa using eqItems_run d hk hc hx hy hb2
theorem aeq_run {t : TypeId} {l : List (Nat × Nat)} {b : Bool} (hl : eqf P t = some l) (hb : aeq l xs ys = some b) (hx : RepL w ok xs cs.toList) (hy : RepL w ok' ys ds.toList) : P.eqGuardType P.depth t = false ∧ (Op.equalIn 10000 t (.agg cs) (.agg ds)).run P w = .ok b w := by
  unfold eqf at hl
  split at hl
  case isFalse => cases hl
  rename_i hg
  refine ⟨hg, ?_⟩
  split at hl
  · rename_i fs hu
    split at hl
    case isFalse => cases hl
    rename_i hs
    have hf : P.fieldsOf t = fs := by unfold Program.fieldsOf; rw [hu]
    rw [run_equalIn_struct w 9999 t cs ds (by rw [hf]; exact hu) hs, hf]
    exact eqFields_run 9998 hx hy hl hb
  · rename_i n e hu
    split at hl
    case isFalse => cases hl
    rename_i hc
    obtain ⟨k, hk, rfl⟩ := Option.map_eq_some_iff.1 hl
    obtain ⟨i, hi⟩ := Option.isSome_iff_exists.1 hc.2
    rw [run_equalIn_array w 9999 cs ds hu hi]
    exact eqItems_run 9998 hk hc.1 hx hy hb
  · cases hl
end

def beq2 (P : Program) (op : BinOp) (t : TypeId) (X Y : AV) : Option Value :=
  match X, Y with
  | .sv (.val (.bool a)), .sv (.val (.bool b)) => if (match P.underlying t with | some .bool => true | _ => false) = true then (match op with
    | .eql => some (.bool (a == b))
    | .neq => some (.bool (!(a == b)))
    | _ => none) else none
  | .sv (.agg xs), .sv (.agg ys) => match eqf P t with
    | some l => match aeq l xs ys with
      | some b => match op with
        | .eql => some (.bool b)
        | .neq => some (.bool (!b))
        | _ => none
      | none => none
    | none => none
  | _, _ => none
def convk (P : Program) (t : TypeId) (X : AV) : Option AV :=
  match P.underlying t, X with
  | some (.int k), .sv (.val (.int _ n)) => some (.sv (.val (.int k (k.wrap n))))
  | some .string, .sv (.val (.string s)) => some (.sv (.val (.string s)))
  | some .string, .sv (.val (.int _ n)) => some (.sv (.val (.string (Utf8.encode n))))
  | some (.float k), .sv (.val (.int _ n)) => some (.sv (.val (.float k (k.nearest n))))
  | _, _ => none

def byteS : List SV → Option (List Int)
  | [] => some []
  | .val (.int .u8 n) :: l => (byteS l).map (n :: ·)
  | _ => none
def b8 (n : Int) : SV := .val (.int .u8 n)
theorem byteS_eq : ∀ {xs : List SV} {ns : List Int}, byteS xs = some ns → xs = ns.map b8
  | [], ns, h => by simp only [byteS, Option.some.injEq] at h; subst h; rfl
  | x :: xs, ns, h => by
    unfold byteS at h
    split at h
    · rename_i e; cases e
    · rename_i n l e
      simp only [List.cons.injEq] at e
      obtain ⟨rfl, rfl⟩ := e
      obtain ⟨ms, h1, rfl⟩ := Option.map_eq_some_iff.1 h
      rw [byteS_eq h1]; rfl
    · cases h
/-- The string of so many bytes. -/
def ofB (ns : List Int) : ByteArray := ns.foldl (fun r n => r.push (UInt8.ofNat n.toNat)) ByteArray.empty
def convS (P : Program) (st : St) (s t : TypeId) (X : AV) : Option AV := match selem P s, P.underlying t with
  | some e, some .string => match P.underlying e, (rowOf st X).bind byteS with
    | some (.int .u8), some ns => some (.sv (.val (.string (ofB ns))))
    | _, _ => none
  | _, _ => none
theorem bytes_vals {w : World} {ok : Nat → Prop} : ∀ {ns : List Int} {vs : List Value}, RepL w ok (ns.map b8) vs → vs = ns.map (Value.int .u8)
  | [], vs, h => by simpa only [List.map_nil, RepL] using h
  | n :: ns, vs, h => by
    simp only [List.map_cons, RepL] at h
    obtain ⟨v, vs', rfl, h1, h2⟩ := h
    simp only [b8, RepS] at h1
    rw [h1, bytes_vals h2]; rfl
theorem convS_run {P : Program} {keep : Nat → Prop} {w : World} {E : Env} {st : St} {a : Act} (hI : Inv keep w E st a) {s t : TypeId} {X Y : AV} (h : convS P st s t X = some Y) {v : Value} (hv : RepV w E (lk st.m) X v) :
    ∃ u, (convert s t v).run P w = .ok u w ∧ RepV w E (lk st.m) Y u := by
  unfold convS at h
  split at h
  case h_2 => cases h
  rename_i e he ht
  split at h
  case h_2 => cases h
  rename_i ns hu hb
  simp only [Option.some.injEq] at h; subst h
  obtain ⟨xs, hx, hb⟩ := Option.bind_eq_some_iff.1 hb
  have := byteS_eq hb; subst this
  obtain ⟨b, c, rfl, _, hor⟩ := src_rep hI hx hv
  refine ⟨_, ?_, RepV.val_mk _⟩
  rw [run_convert_bytes_string w s t e _ _ _ (selem_eq he).1 hu ht]
  rcases hor with h0 | ⟨ad, sz, vs, rfl, hr, hat⟩
  · have h0 : ns = [] := by simpa using h0
    subst h0
    cases b with
    | none => rfl
    | some ad =>
      have := run_bytesToString (P := P) w ad 0 c [] (run_loadCells_list w ad [] (fun j v hj => by simp at hj))
      simpa [ofB] using this
  · have := bytes_vals hr; subst this
    have hl := run_loadCells_list (P := P) w ad (ns.map (Value.int .u8)) (fun j v hj => by
      obtain ⟨k1, k2⟩ := hat j v hj
      obtain ⟨n, _, rfl⟩ := List.mem_map.1 (List.mem_of_getElem? hj)
      have hs : sz = 1 := by rw [← k1]; rfl
      have := k2 0 (.int .u8 n) rfl
      rw [Go.Deep.add_add, hs, Nat.mul_one, Nat.add_zero] at this
      exact this)
    have := run_bytesToString (P := P) w ad ns.length c ns (by simpa using hl)
    simpa [ofB] using this

/-- A condition, what is put, what is stored. -/
structure Dl where
  c : Prop
  x : Option AV
  m : Option (Nat × Obj')
def St.app (st : St) (dst : Option Nat) (d : Dl) : St :=
  let s := match d.x with
    | some x => st.put dst x
    | none => st
  match d.m with
  | some (t, o) => { s with m := up s.m t o }
  | none => s

def astoreO (P : Program) (st : St) (ty : TypeId) (X Y : AV) : Option (Nat × Obj') :=
  match Y.cells (lk st.m) with
  | some ys =>
    if (ys.length == tsz P ty && ys.all AV.one) = true then
      match X with
      | .box t off => match lk st.m t with
        | some (.box cs) => if off + ys.length ≤ cs.length then some (t, .box (setAt cs off ys)) else none
        | _ => none
      | .elt t i off => match lk st.m t with
        | some (.row k xs) => match xs[i]?, AV.svs ys with
          | some x, some zs => if (x.solid && zs.all SV.one) = true ∧ off + zs.length ≤ x.cells.length then some (t, .row k (xs.set i (x.withCells (setAt x.cells off zs)))) else none
          | _, _ => none
        | _ => none
      | _ => none
    else none
  | none => none
theorem astore_eq (P : Program) (st : St) (ty : TypeId) (X Y : AV) : astore P st ty X Y = (astoreO P st ty X Y).map fun p => up st.m p.1 p.2 := by
  unfold astore astoreO
  cases hy : Y.cells (lk st.m) with
  | none => rfl
  | some ys =>
    dsimp only
    by_cases c : (ys.length == tsz P ty && ys.all AV.one) = true
    · rw [if_pos c, if_pos c]
      cases X with
      | box t off =>
        dsimp only
        cases lk st.m t with
        | none => rfl
        | some o => cases o with
          | row k xs => rfl
          | box cs =>
            dsimp only
            by_cases h : off + ys.length ≤ cs.length
            · rw [if_pos h, if_pos h]; rfl
            · rw [if_neg h, if_neg h]; rfl
      | elt t i off =>
        dsimp only
        cases lk st.m t with
        | none => rfl
        | some o => cases o with
          | box cs => rfl
          | row k xs =>
            dsimp only
            cases xs[i]? with
            | none => rfl
            | some x => cases AV.svs ys with
              | none => rfl
              | some zs =>
                dsimp only
                by_cases h : (x.solid && zs.all SV.one) = true ∧ off + zs.length ≤ x.cells.length
                · rw [if_pos h, if_pos h]; rfl
                · rw [if_neg h, if_neg h]; rfl
      | _ => rfl
    · rw [if_neg c, if_neg c]; rfl

def caps1 (st : St) : List Operand → Option (List AV)
  | [] => some []
  | x :: xs => match aval st x, caps1 st xs with
    | some y, some ys => some (y :: ys)
    | _, _ => none

def dltB (P : Program) (st : St) (b : Builtin) (xs : List Operand) (ts : List TypeId) : Option Dl :=
  match b, xs, ts with
  | .len, [x], [ty] => match aval st x with
    | some (.sv (.val (.string s))) => match P.underlying ty with
      | some .string => some ⟨True, some (.sv (.val (.int .i64 s.size))), none⟩
      | _ => none
    | some X => match selem P ty, rowOf st X with
      | some _, some xs => some ⟨True, some (.sv (.val (.int .i64 xs.length))), none⟩
      | _, _ => none
    | none => none
  | .min, [x, y], [_, _] => match aval st x, aval st y with
    | some (.sv (.val (.int k m))), some (.sv (.val (.int k' n))) => if k = k' then some ⟨True, some (.sv (.val (.int k (if n < m then n else m)))), none⟩ else none
    | _, _ => none
  | .max, [x, y], [_, _] => match aval st x, aval st y with
    | some (.sv (.val (.int k m))), some (.sv (.val (.int k' n))) => if k = k' then some ⟨True, some (.sv (.val (.int k (if m < n then n else m)))), none⟩ else none
    | _, _ => none
  | _, _, _ => none

def idxA (P : Program) (st : St) (ty : TypeId) (X : AV) (n : Int) : Option Dl :=
  match X with
  | .own t => match selem P ty, lk st.m t with
      | some e, some (.row k xs) => if k = tsz P e then some ⟨0 ≤ n ∧ n < (xs.length : Int), some (.elt t n.toNat 0), none⟩ else none
      | _, _ => none
  | .sl t k => match selem P ty, lk st.m t with
      | some e, some (.box _) => if tsz P e = 1 then some ⟨0 ≤ n ∧ n < (k : Int), some (.box t n.toNat), none⟩ else none
      | _, _ => none
  | .sv (.lst xs) => match selem P ty with
      | some e => some ⟨(0 ≤ n ∧ n < (xs.length : Int)) ∧ (xs.getD n.toNat .any).solid = true ∧ (xs.getD n.toNat .any).cells.length = tsz P e, some (.sv (.ref (xs.getD n.toNat .any) 0)), none⟩
      | none => none
  | X => match aelem P ty with
      | some (len, e) => (ashift st (n.toNat * tsz P e) X).map fun Y => ⟨0 ≤ n ∧ n < (len : Int), some Y, none⟩
      | none => none

def dlt (P : Program) (o : Oper) (st : St) : Option Dl :=
  match o.op with
  | .move x | .assign x => (aval st x).map fun X => ⟨True, some X, none⟩
  | .pick c x y => match aval st c with
    | some (.sv (.val (.bool b))) => some ⟨True, some (if b = true then av0 st x else av0 st y), none⟩
    | _ => none
  | .load ty p => match (aval st p).bind (aload P st ty) with
    | some Y => if (P.underlying ty).isSome = true then some ⟨True, some Y, none⟩ else none
    | none => none
  | .store ty p y => match aval st p, aval st y, o.dst with
    | some X, some Y, none => match astoreO P st ty X Y with
      | some q => if (P.info? ty).isSome = true then some ⟨True, none, some q⟩ else none
      | none => none
    | _, _, _ => none
  | .binOp op t x y _ => match aval st x, aval st y with
    | some X, some Y => match binv op X Y with
      | some v => some ⟨True, some (.sv (.val v)), none⟩
      | none => match beq2 P op t X Y with
        | some v => some ⟨True, some (.sv (.val v)), none⟩
        | none => none
    | _, _ => none
  | .unOp .not _ x => match aval st x with
    | some (.sv (.val (.bool b))) => some ⟨True, some (.sv (.val (.bool (!b)))), none⟩
    | _ => none
  | .unOp .neg _ x => match aval st x with
    | some (.sv (.val (.int k n))) => some ⟨True, some (.sv (.val (.int k (k.wrap (0 - n))))), none⟩
    | _ => none
  | .convert s t x => match (aval st x).bind (convk P t) with
    | some Y => if (P.underlying s).isSome = true then some ⟨True, some Y, none⟩ else none
    | none => ((aval st x).bind (convS P st s t)).map fun Y => ⟨True, some Y, none⟩
  | .extract x i => match aval st x with
    | some (.tup xs) => xs[i]?.map fun y => ⟨True, some y, none⟩
    | _ => none
  | .fieldAddr ty x f => match aval st x, foff P ty f with
    | some X, some n => (ashift st n X).map fun Y => ⟨True, some Y, none⟩
    | _, _ => none
  | .nilCheck x => match aval st x with
    | some X => (ashift st 0 X).map fun _ => ⟨True, some X, none⟩
    | none => none
  | .indexAddr ty x y => match aval st x, (aval st y).bind AV.int with
    | some X, some p => idxA P st ty X p.2
    | _, _ => none
  | .field ty x f => match aval st x, ftype P ty f with
    | some (.sv (.agg xs)), some (t, n) => (apart P t xs n).map fun z => ⟨True, some (.sv z), none⟩
    | _, _ => none
  | .index ty x y => match aval st x, aval st y with
    | some (.sv (.agg xs)), some (.sv (.val (.int _ n))) => match aelem P ty with
      | some (len, e) => if (P.underlying e).isSome = true ∧ tagg P e = false then some ⟨(0 ≤ n ∧ n < (len : Int)) ∧ n.toNat * tsz P e < xs.length, some (.sv (xs.getD (n.toNat * tsz P e) .any)), none⟩ else none
      | none => none
    | some (.sv (.val (.string s))), some (.sv (.val (.int _ n))) => match P.underlying ty with
      | some .string => some ⟨0 ≤ n ∧ n < (s.size : Int), some (.sv (.val (.int .u8 (bt s n)))), none⟩
      | _ => none
    | _, _ => none
  | .slice ty x lo hi none => match aval st x with
    | some (.sv (.lst xs)) => match selem P ty, bnd st 0 lo, bnd st xs.length hi with
      | some e, some l, some h => some ⟨(0 ≤ l ∧ l ≤ h ∧ h ≤ (xs.length : Int)) ∧ ∀ z ∈ xs, z.fits (tsz P e) = true, some (.sv (.lst ((xs.take h.toNat).drop l.toNat))), none⟩
      | _, _, _ => none
    | some (.sv (.val (.string s))) => match P.underlying ty, bnd st 0 lo, bnd st s.size hi with
      | some .string, some l, some h => some ⟨0 ≤ l ∧ l ≤ h ∧ h ≤ (s.size : Int), some (.sv (.val (.string (s.extract l.toNat h.toNat)))), none⟩
      | _, _, _ => none
    | _ => none
  | .makeFunc (.func f) first caps => if first.size = 0 then (caps1 st caps.toList).map fun l => ⟨True, some (.fnv f l), none⟩ else none
  | .call { callee := .builtin b, args := xs, argTypes := ts } => dltB P st b xs.toList ts.toList
  | _ => none

theorem binv_run {P : Program} {op : BinOp} {t : TypeId} {X Y : AV} {v : Value} (h : binv op X Y = some v) {w : World} {x y : Operand} {u1 u2 : Value} {E : Env} {m : Mem} (h1 : RepV w E m X u1) (h2 : RepV w E m Y u2) :
    (do eqGuard op t x y u1 u2; binOp op t u1 u2 : Sem Value).run P w = .ok v w := by
  unfold binv at h
  split at h
  · rename_i k a k' b
    rw [h1.val, h2.val]
    split at h
    · exact run_ishift (.inl rfl) h
    · exact run_ishift (.inr rfl) h
    · split at h
      · rename_i hk; subst hk; exact run_ibin (by constructor <;> assumption) h
      · cases h
  · rename_i a b
    rw [h1.val, h2.val]
    split at h <;> first | (simp only [Option.some.injEq] at h; subst h; simp [eqGuard, binOp, Op.stringOp]) | cases h
  · rename_i k a k' b
    rw [h1.val, h2.val]
    split at h
    case isFalse => cases h
    rename_i hk
    subst hk
    have hg : ∀ op, (eqGuard op t x y (.float k a) (.float k b)).run P w = .ok () w := fun op => by cases op <;> simp [eqGuard]
    rw [Sem.run_bind, hg]
    show (binOp op t (.float k a) (.float k b)).run P w = _
    cases op
    case eql => simp only [fbin, Option.some.injEq] at h; subst h; simp [binOp, Op.floatCmp, fEq]
    case neq => simp only [fbin, Option.some.injEq] at h; subst h; simp [binOp, Op.floatCmp, fEq, bne]
    case lss => simp only [fbin, Option.some.injEq] at h; subst h; simp [binOp, Op.floatCmp, fLt]
    case leq => simp only [fbin, Option.some.injEq] at h; subst h; simp [binOp, Op.floatCmp, fLt, fEq]
    case gtr => simp only [fbin, Option.some.injEq] at h; subst h; simp [binOp, Op.floatCmp, fGt]
    case geq => simp only [fbin, Option.some.injEq] at h; subst h; simp [binOp, Op.floatCmp, fGt, fEq]
    all_goals
      simp only [fbin] at h
      obtain ⟨r, hr, rfl⟩ := Option.map_eq_some_iff.1 h
      exact run_float_arith w _ t k a b r hr
  · cases h
theorem run_equal_bool {P : Program} {t : TypeId} {a b : Bool} {w : World} (hq : P.underlying t = some .bool) : (Op.equal t (.bool a) (.bool b)).run P w = .ok (a == b) w := by
  show (Op.equalIn (9999 + 1) t (.bool a) (.bool b)).run P w = _
  unfold Op.equalIn
  rw [Sem.run_bind, run_underlying hq]
  rfl
theorem beq2_run {P : Program} {op : BinOp} {t : TypeId} {X Y : AV} {v : Value} (h : beq2 P op t X Y = some v) {w : World} {x y : Operand} {u1 u2 : Value} {E : Env} {m : Mem} (h1 : RepV w E m X u1) (h2 : RepV w E m Y u2) :
    (do eqGuard op t x y u1 u2; binOp op t u1 u2 : Sem Value).run P w = .ok v w := by
  unfold beq2 at h
  split at h
  · rename_i a b
    rw [h1.val, h2.val]
    have hu : ∀ (c : Prop) [Decidable c] {z : Option Value}, (if (match P.underlying t with | some .bool => true | _ => false) = true then z else none) = some v → P.underlying t = some .bool ∧ z = some v := by
      intro c _ z hz
      cases hq : P.underlying t with
      | none => simp [hq] at hz
      | some q => cases q <;> simp [hq] at hz; exact ⟨rfl, hz⟩
    obtain ⟨hq, h⟩ := hu True h
    split at h <;> first | (simp only [Option.some.injEq] at h; subst h; simp [eqGuard, binOp, run_equal_bool hq]) | cases h
  · rename_i xs ys
    split at h
    case h_2 => cases h
    rename_i l hl
    split at h
    case h_2 => cases h
    rename_i b hb
    simp only [RepV, RepS] at h1 h2
    obtain ⟨cs, rfl, hx⟩ := h1
    obtain ⟨ds, rfl, hy⟩ := h2
    obtain ⟨hg, hrun⟩ := aeq_run hl hb hx hy
    rw [Sem.run_bind, run_eqGuard_agg w op t x y cs ds hg]
    split at h
    · simp only [Option.some.injEq] at h; subst h
      simp [run_eql_struct, hrun]
    · simp only [Option.some.injEq] at h; subst h
      simp [run_neq_struct, hrun]
    · cases h
  · cases h

theorem caps1_rep {kp : Nat → Prop} {w : World} {E : Env} {st : St} {a : Act} (hI : Inv kp w E st a) : ∀ {l : List Operand} {ys : List AV}, caps1 st l = some ys → RepVL w E (lk st.m) ys (l.map a.eval)
  | [], ys, h => by simp only [caps1, Option.some.injEq] at h; subst h; exact RepVL.nil
  | x :: xs, ys, h => by
    simp only [caps1] at h
    split at h
    · rename_i y ys' h1 h2
      simp only [Option.some.injEq] at h; subst h
      exact RepVL.cons (aval_rep hI h1) (caps1_rep hI h2)
    · cases h

theorem dlt_does {P : Program} {o : Oper} {st : St} {d : Dl} (h : dlt P o st = some d) (hc : d.c) (hd : st.fitsDst o.dst = true) : Does P o st (st.app o.dst d) := by
  unfold dlt at h
  split at h
  · rename_i x ho; obtain ⟨X, hX, rfl⟩ := Option.map_eq_some_iff.1 h; exact does_move (.inl ho) hX hd
  · rename_i x ho; obtain ⟨X, hX, rfl⟩ := Option.map_eq_some_iff.1 h; exact does_move (.inr ho) hX hd
  · rename_i c x y ho
    split at h
    · rename_i b hb
      simp only [Option.some.injEq] at h; subst h
      refine Does.puts hd fun keep w E a hI => ⟨if b = true then a.eval x else a.eval y, ?_, ?_⟩
      · have h1 := (aval_rep hI hb).val
        unfold execOp
        rw [ho]
        simp only [h1]
        cases b <;> simp [asBool]
      · cases b
        · simpa using av0_rep hI y
        · simpa using av0_rep hI x
    · cases h
  · rename_i ty p ho
    split at h
    case h_2 => cases h
    rename_i Y hY
    split at h
    case isFalse => cases h
    rename_i hu
    simp only [Option.some.injEq] at h; subst h
    obtain ⟨X, hX, hY⟩ := Option.bind_eq_some_iff.1 hY
    exact does_load ho hX hu hY hd
  · rename_i ty p y ho
    split at h
    case h_2 => cases h
    rename_i X Y hX hY hdst
    split at h
    case h_2 => cases h
    rename_i q hq
    split at h
    case isFalse => cases h
    rename_i hi
    simp only [Option.some.injEq] at h; subst h
    exact does_store ho hdst hX hY hi (by rw [astore_eq, hq]; rfl)
  · rename_i op t x y ty ho
    split at h
    case h_2 => cases h
    rename_i X Y hX hY
    have key : ∀ v, (∀ (keep : Nat → Prop) (w : World) (E : Env) (a : Act), Inv keep w E st a → (do eqGuard op t x y (a.eval x) (a.eval y); binOp op t (a.eval x) (a.eval y) : Sem Value).run P w = .ok v w) → Does P o st (st.put o.dst (.sv (.val v))) := fun v hv =>
      Does.puts hd fun keep w E a hI => ⟨v, by
        unfold execOp
        rw [ho]
        dsimp only
        rw [Sem.run_bind, hv keep w E a hI]
        rfl, RepV.val_mk v⟩
    split at h
    · rename_i v hv
      simp only [Option.some.injEq] at h; subst h
      exact key v fun keep w E a hI => binv_run hv (aval_rep hI hX) (aval_rep hI hY)
    · split at h
      · rename_i v hv
        simp only [Option.some.injEq] at h; subst h
        exact key v fun keep w E a hI => beq2_run hv (aval_rep hI hX) (aval_rep hI hY)
      · cases h
  · rename_i t x ho
    split at h
    · rename_i b hb
      simp only [Option.some.injEq] at h; subst h
      exact does_not ho hb rfl hd
    · cases h
  · rename_i t x ho
    split at h
    · rename_i k n hb
      simp only [Option.some.injEq] at h; subst h
      exact does_neg ho hb rfl hd
    · cases h
  · rename_i s t x ho
    split at h
    case h_2 =>
      obtain ⟨Y, hY, rfl⟩ := Option.map_eq_some_iff.1 h
      obtain ⟨X, hX, hY⟩ := Option.bind_eq_some_iff.1 hY
      refine Does.puts hd fun keep w E a hI => ?_
      obtain ⟨u, h1, h2⟩ := convS_run hI hY (aval_rep hI hX)
      refine ⟨u, ?_, h2⟩
      unfold execOp
      rw [ho]
      dsimp only
      rw [Sem.run_bind, h1]
      rfl
    rename_i Y hY
    split at h
    case isFalse => cases h
    rename_i hs
    obtain ⟨ds, hs⟩ := Option.isSome_iff_exists.1 hs
    simp only [Option.some.injEq] at h; subst h
    obtain ⟨X, hX, hY⟩ := Option.bind_eq_some_iff.1 hY
    unfold convk at hY
    split at hY
    · rename_i k k' n hu
      simp only [Option.some.injEq] at hY; subst hY
      refine Does.puts hd fun keep w E a hI => ⟨.int k (k.wrap n), ?_, RepV.val_mk _⟩
      have h1 := (aval_rep hI hX).val
      unfold execOp
      rw [ho]
      simp only [h1]
      cases ds <;> simp [convert, run_underlying hs, run_underlying hu, Conv.intToInt]
    · rename_i z hu
      simp only [Option.some.injEq] at hY; subst hY
      refine Does.puts hd fun keep w E a hI => ⟨.string z, ?_, RepV.val_mk _⟩
      have h1 := (aval_rep hI hX).val
      unfold execOp
      rw [ho]
      simp only [h1]
      cases ds <;> simp [convert, run_underlying hs, run_underlying hu]
    · rename_i k n hu
      simp only [Option.some.injEq] at hY; subst hY
      refine Does.puts hd fun keep w E a hI => ⟨.string (Utf8.encode n), ?_, RepV.val_mk _⟩
      have h1 := (aval_rep hI hX).val
      unfold execOp
      rw [ho]
      simp only [h1]
      cases ds <;> simp [convert, run_underlying hs, run_underlying hu, Conv.intToString]
    · rename_i k k' n hu
      simp only [Option.some.injEq] at hY; subst hY
      refine Does.puts hd fun keep w E a hI => ⟨.float k (k.nearest n), ?_, RepV.val_mk _⟩
      have h1 := (aval_rep hI hX).val
      unfold execOp
      rw [ho]
      simp only [h1]
      cases ds <;> simp [convert, run_underlying hs, run_underlying hu, Conv.intToFloat]
    · cases hY
  · rename_i x i ho
    split at h
    case h_2 => cases h
    rename_i xs hx
    obtain ⟨y, hy, rfl⟩ := Option.map_eq_some_iff.1 h
    exact does_extract ho hx hy hd
  · rename_i ty x f ho
    split at h
    case h_2 => cases h
    rename_i X n hX hn
    obtain ⟨Y, hY, rfl⟩ := Option.map_eq_some_iff.1 h
    exact does_fieldAddr ho hX hn hY hd
  · rename_i x ho
    split at h
    case h_2 => cases h
    rename_i X hX
    obtain ⟨Y, hY, rfl⟩ := Option.map_eq_some_iff.1 h
    exact does_nilCheck ho hX hY hd
  · rename_i ty x y ho
    split at h
    case h_2 => cases h
    rename_i X p hX hp
    obtain ⟨Y, hY, hp⟩ := Option.bind_eq_some_iff.1 hp
    obtain ⟨k, n⟩ := p
    have hy := hY
    rw [AV.int_eq hp] at hy
    unfold idxA at h
    split at h
    · rename_i t
      split at h
      case h_2 => cases h
      rename_i e k' xs he hm
      split at h
      case isFalse => cases h
      rename_i hk
      subst hk
      simp only [Option.some.injEq] at h; subst h
      exact does_indexAddr_own ho hX he hm hy hc hd
    · rename_i t k'
      split at h
      case h_2 => cases h
      rename_i e cs he hm
      split at h
      case isFalse => cases h
      rename_i hk
      simp only [Option.some.injEq] at h; subst h
      exact does_indexAddr_sl ho hX he hk hm hy hc hd
    · rename_i xs
      split at h
      case h_2 => cases h
      rename_i e he
      simp only [Option.some.injEq] at h; subst h
      obtain ⟨⟨c1, c2⟩, c3⟩ := hc
      have hlt : n.toNat < xs.length := by omega
      have hg : xs[n.toNat]? = some (xs.getD n.toNat .any) := by rw [List.getD_eq_getElem?_getD, List.getElem?_eq_getElem hlt]; rfl
      exact does_indexAddr_lst ho hX hy he c1 hg c3 hd
    · rename_i hnot1 hnot2 hnot3
      split at h
      case h_2 => cases h
      rename_i len e he
      obtain ⟨Y, hY, rfl⟩ := Option.map_eq_some_iff.1 h
      exact does_indexAddr_arr ho hX hy he hc hY hd
  · rename_i ty x f ho
    split at h
    case h_2 => cases h
    rename_i xs t n hx hf
    obtain ⟨z, hz, rfl⟩ := Option.map_eq_some_iff.1 h
    exact does_field ho hx hf hz hd
  · rename_i ty x y ho
    split at h
    · rename_i xs k n hx hy
      split at h
      case h_2 => cases h
      rename_i len e he
      split at h
      case isFalse => cases h
      rename_i hu
      simp only [Option.some.injEq] at h; subst h
      refine does_index_arr ho hx hy he hu.1 hc.1 ?_ hd
      unfold apart
      rw [hu.2, if_neg (by simp), List.getD_eq_getElem?_getD, List.getElem?_eq_getElem hc.2]
      rfl
    · rename_i s k n hx hy
      split at h
      · rename_i hu
        simp only [Option.some.injEq] at h; subst h
        exact does_index_str ho hx hy hu hc hd
      · cases h
    · cases h
  · rename_i ty x lo hi ho
    split at h
    · rename_i xs hx
      split at h
      case h_2 => cases h
      rename_i e l h' he hl hh
      simp only [Option.some.injEq] at h; subst h
      exact does_slice ho hx he hl hh hc.1 hc.2 hd
    · rename_i s hx
      split at h
      · rename_i l h' hu hl hh
        simp only [Option.some.injEq] at h; subst h
        exact does_slice_str ho hx hu hl hh hc hd
      · cases h
    · cases h
  · rename_i f first caps ho
    split at h
    case isFalse => cases h
    rename_i hfi
    obtain ⟨ys, hys, rfl⟩ := Option.map_eq_some_iff.1 h
    refine Does.puts hd fun keep w E a hI => ⟨.func (.func f) #[] (caps.map a.eval), ?_, ?_⟩
    · have : first = #[] := Array.eq_empty_of_size_eq_zero hfi
      unfold execOp
      rw [ho]
      simp [Instr.makeFunc, this]
    · simp only [RepV]
      exact ⟨_, rfl, by simpa using caps1_rep hI hys⟩
  · rename_i b xs ts ho
    unfold dltB at h
    split at h
    · rename_i x ty hxs hts
      have e1 : xs = #[x] := Array.toList_inj.1 (by simpa using hxs)
      have e2 : ts = #[ty] := Array.toList_inj.1 (by simpa using hts)
      subst e1; subst e2
      split at h
      · rename_i s hx
        split at h
        · rename_i hu
          simp only [Option.some.injEq] at h; subst h
          exact does_len_str ho hx hu hd
        · cases h
      · rename_i X hnot hx
        split at h
        case h_2 => cases h
        rename_i e xs he hxs
        simp only [Option.some.injEq] at h; subst h
        exact does_len ho hx he hxs hd
      · cases h
    · rename_i x y t1 t2 hxs hts
      have e1 : xs = #[x, y] := Array.toList_inj.1 (by simpa using hxs)
      have e2 : ts = #[t1, t2] := Array.toList_inj.1 (by simpa using hts)
      subst e1; subst e2
      split at h
      case h_2 => cases h
      rename_i k m k' n hx hy
      split at h
      case isFalse => cases h
      rename_i hk
      subst hk
      simp only [Option.some.injEq] at h; subst h
      exact does_min ho hx hy hd
    · rename_i x y t1 t2 hxs hts
      have e1 : xs = #[x, y] := Array.toList_inj.1 (by simpa using hxs)
      have e2 : ts = #[t1, t2] := Array.toList_inj.1 (by simpa using hts)
      subst e1; subst e2
      split at h
      case h_2 => cases h
      rename_i k m k' n hx hy
      split at h
      case isFalse => cases h
      rename_i hk
      subst hk
      simp only [Option.some.injEq] at h; subst h
      exact does_max ho hx hy hd
    · cases h
  · cases h
end Go.Proofs.Ytimllhflecippaa.Ab
end

section
namespace Go.Proofs.Ytimllhflecippaa.Ab
open Go.RowKit
set_option linter.unusedVariables false
set_option linter.unusedSimpArgs false

theorem does_build0 {P : Program} {o : Oper} {st : St} {d : Nat} {e ty : TypeId} (ho : o.op = .buildSlice ty 0 #[]) (hd : o.dst = some d) (hf : st.fresh d = true) (hn : d < st.n) (he : selem P ty = some e) (hp : 0 < tsz P e) :
    Does P o st { st with t := up st.t d (.own d), m := up st.m d (.row (tsz P e) []) } := by
  intro keep w E a hI
  obtain ⟨hu, hi⟩ := selem_eq he
  have hrun : (execOp a.eval o).run P w = .ok (.value (.slice (some ⟨w.heap.size, 0, none⟩) 0 0)) (w.alloc (.cells #[] e)) := by
    unfold execOp
    rw [ho]
    simp [Instr.buildSlice, run_underlying hu, run_sizeOf hi, Instr.fill, newRow, Array.range_zero']
  refine ⟨_, _, E.set d (some (w.heap.size, 0, tsz P e)), .inl hrun, ?_, Evo.grow hI ⟨rfl, rfl, rfl⟩ (by simp) (fun j hj => Go.heap_alloc_old w (.cells #[] e) hj) rfl (Env.set_pin (St.fresh_pin hf))⟩
  rw [hd]
  exact row_new (e := e) (w' := w.alloc (.cells #[] e)) hI hf hn [] [] 0 (tsz P e) #[] (by simp) (fun i hi => Go.heap_alloc_old w _ hi) (Go.heap_alloc_new w _) RepL.nil hp (fun _ => rfl) (Nat.le_refl _) (by simp [maxLen]) (by simp) (fun i u hu => by simp at hu)

/-- What is made: a condition, and the state behind. -/
structure Mk where
  c : Prop
  st : St
def crtA (P : Program) (st : St) (d : Nat) (xs : List Operand) (ts : List TypeId) : Option Mk :=
  match xs, ts with
  | [x, y], [ty, ty'] => match selem P ty, (aval st y).bind (rowOf st) with
    | some e, some ys => match tzero P e with
      | some z => if ty = ty' ∧ z.cells.size = tsz P e ∧ 0 < tsz P e then
          (match aval st x with
          | some .nil => some ⟨(st.fresh d = true ∧ d < st.n) ∧ (∀ u ∈ ys, u.fits (tsz P e) = true) ∧ ys.length * (tby P e + 1) ≤ 140737488355328, { st with t := up st.t d (.own d), m := up st.m d (.row (tsz P e) ys) }⟩
          | some (.own t) => match lk st.m t with
            | some (.row k zs) => if k = tsz P e then some ⟨(st.fresh d = true ∧ d < st.n) ∧ (∀ u ∈ ys, u.fits (tsz P e) = true) ∧ (zs.length + ys.length) * (tby P e + 1) ≤ 140737488355328, { st with t := up st.t d (.own d), m := up (rm st.m t) d (.row (tsz P e) (zs ++ ys)) }⟩ else none
            | _ => none
          | _ => none)
        else none
      | none => none
    | _, _ => none
  | _, _ => none
def crt (P : Program) (o : Oper) (st : St) : Option Mk :=
  match o.dst with
  | none => none
  | some d => match o.op with
    | .alloc e => (tzero P e).map fun z => ⟨st.fresh d = true ∧ d < st.n, { st with t := up st.t d (.box d 0), m := up st.m d (.box (z.cells.toList.map avC)) }⟩
    | .box e x => ((aval st x).bind (AV.cells (lk st.m))).map fun cs => ⟨st.fresh d = true ∧ d < st.n, { st with t := up st.t d (.box d 0), m := up st.m d (.box cs) }⟩
    | .makeSlice ty x y => match aval st x, aval st y, selem P ty with
      | some (.sv (.val (.int _ n))), some (.sv (.val (.int _ n'))), some e => match tzero P e with
        | some z => if (zeroSV z).fits (tsz P e) = true ∧ tsz P e ≠ 0 then some ⟨(st.fresh d = true ∧ d < st.n) ∧ n' = n ∧ 0 ≤ n ∧ n.toNat * (tby P e + 1) ≤ 140737488355328, { st with t := up st.t d (.own d), m := up st.m d (.row (tsz P e) (List.replicate n.toNat (zeroSV z))) }⟩ else none
        | none => none
      | _, _, _ => none
    | .buildSlice ty len ps => match selem P ty with
      | some e => match tzero P e with
        | some z => if (zeroSV z).fits (tsz P e) = true ∧ tsz P e ≠ 0 ∧ len * tsz P e ≤ 65536 then
            (if len = 0 then (if ps.size = 0 then some ⟨st.fresh d = true ∧ d < st.n, { st with t := up st.t d (.own d), m := up st.m d (.row (tsz P e) []) }⟩ else none)
            else (aparts st (tsz P e) (List.replicate len (zeroSV z)) ps.toList).map fun xs => ⟨st.fresh d = true ∧ d < st.n, { st with t := up st.t d (.own d), m := up st.m d (.row (tsz P e) xs) }⟩)
          else none
        | none => none
      | none => none
    | .build ty ps => match tzero P ty, splaces P ty with
      | some z, some pl => (afill st (fun i => pl[i]?) (z.cells.toList.map svC) ps.toList).map fun xs => ⟨d < st.n, st.put (some d) (.sv (.agg xs))⟩
      | _, _ => none
    | .slice ty x lo (some (.const (.int _ h))) (some (.const (.int _ m))) => if h = 0 ∧ m = 0 then (match (aval st x).bind (rowOf st), selem P ty, bnd st 0 lo with
      | some _, some e, some l => if l = 0 ∧ 0 < tsz P e then some ⟨st.fresh d = true ∧ d < st.n, { st with t := up st.t d (.own d), m := up st.m d (.row (tsz P e) []) }⟩ else none
      | _, _, _ => none) else none
    | .call { callee := .builtin .append, args := xs, argTypes := ts } => crtA P st d xs.toList ts.toList
    | _ => none
theorem crt_does {P : Program} {o : Oper} {st : St} {m : Mk} (h : crt P o st = some m) (hc : m.c) : Does P o st m.st := by
  unfold crt at h
  split at h
  case h_1 => cases h
  rename_i d hd
  split at h
  · rename_i e ho
    obtain ⟨z, hz, rfl⟩ := Option.map_eq_some_iff.1 h
    exact does_alloc ho hd hc.1 hc.2 hz
  · rename_i e x ho
    obtain ⟨cs, hcs, rfl⟩ := Option.map_eq_some_iff.1 h
    obtain ⟨X, hX, hcs⟩ := Option.bind_eq_some_iff.1 hcs
    exact does_box ho hd hc.1 hc.2 hX hcs
  · rename_i ty x y ho
    split at h
    case h_2 => cases h
    rename_i k n k' n' e hx hy he
    split at h
    case h_2 => cases h
    rename_i z hz
    split at h
    case isFalse => cases h
    rename_i hf
    simp only [Option.some.injEq] at h; subst h
    obtain ⟨⟨c1, c2⟩, rfl, c3, c4⟩ := hc
    exact does_make ho hd c1 c2 hx hy he hz c3 c4 hf.1 hf.2
  · rename_i ty len ps ho
    split at h
    case h_2 => cases h
    rename_i e he
    split at h
    case h_2 => cases h
    rename_i z hz
    split at h
    case isFalse => cases h
    rename_i hf
    split at h
    · rename_i hl
      split at h
      case isFalse => cases h
      rename_i hps
      have hps' : ps = #[] := Array.eq_empty_of_size_eq_zero hps
      subst hl; subst hps'
      simp only [Option.some.injEq] at h; subst h
      exact does_build0 ho hd hc.1 hc.2 he (by omega)
    · rename_i hl
      obtain ⟨xs, hxs, rfl⟩ := Option.map_eq_some_iff.1 h
      exact does_buildSlice ho hd hc.1 hc.2 he hz hf.1 hf.2.1 hl hf.2.2 hxs
  · rename_i ty ps ho
    split at h
    case h_2 => cases h
    rename_i z pl hz hpl
    obtain ⟨xs, hxs, rfl⟩ := Option.map_eq_some_iff.1 h
    rw [← hd]
    exact does_build ho hz hpl hxs (by rw [hd]; simpa [St.fitsDst] using hc)
  · rename_i ty x lo k1 h1 k2 m1 ho
    split at h
    case isFalse => cases h
    rename_i h0
    obtain ⟨rfl, rfl⟩ := h0
    split at h
    case h_2 => cases h
    rename_i xs e l hxs he hl
    split at h
    case isFalse => cases h
    rename_i h0
    obtain ⟨rfl, h0⟩ := h0
    simp only [Option.some.injEq] at h; subst h
    obtain ⟨X, hX, hxs⟩ := Option.bind_eq_some_iff.1 hxs
    exact does_slice0 (sz := 0) ho hX hxs he hl hd hc.1 hc.2 h0
  · rename_i xs ts ho
    unfold crtA at h
    split at h
    case h_2 => cases h
    rename_i x y ty ty' hxs hts
    have e1 : xs = #[x, y] := Array.toList_inj.1 (by simpa using hxs)
    have e2 : ts = #[ty, ty'] := Array.toList_inj.1 (by simpa using hts)
    subst e1; subst e2
    split at h
    case h_2 => cases h
    rename_i e ys he hys
    split at h
    case h_2 => cases h
    rename_i z hz
    split at h
    case isFalse => cases h
    rename_i hq
    obtain ⟨rfl, q1, q2⟩ := hq
    obtain ⟨Y, hY, hys⟩ := Option.bind_eq_some_iff.1 hys
    split at h
    · rename_i hx
      simp only [Option.some.injEq] at h; subst h
      exact does_append_nil ho hd hc.1.1 hc.1.2 he hz q1 q2 hx hY hys hc.2.1 hc.2.2
    · rename_i t hx
      split at h
      · rename_i k zs hm
        split at h
        case isFalse => cases h
        rename_i hk
        subst hk
        simp only [Option.some.injEq] at h; subst h
        exact does_append_own ho hd hc.1.1 hc.1.2 he hz q1 q2 hx hm hY hys hc.2.1 hc.2.2
      · cases h
    · cases h
  · cases h

inductive Fr where
  | seq (y : Code)
  | blk (id : Nat)
  | scp
def kq (P : Program) (Q : Exit → St → Prop) : List Fr → Exit → St → Prop
  | [] => Q
  | .seq y :: k => thenQ (Tr P y (kq P Q k)) (kq P Q k)
  | .blk id :: k => blockQ id (kq P Q k)
  | .scp :: k => scopeQ (kq P Q k)
/-- Code, and what is to be done behind it. -/
def TrK (P : Program) (Q : Exit → St → Prop) (c : Code) (k : List Fr) (st : St) : Prop := Tr P c (kq P Q k) st
/-- The rest of a region, and what is to be done behind it. -/
def RnK (P : Program) (Q : Exit → St → Prop) (ops : Array Oper) (l : List Oper) (k : List Fr) (st : St) : Prop := Rn P ops l (fun st' => kq P Q k .normal st') st
def LoopW (P : Program) (Q : Exit → St → Prop) (c : Code) (k : List Fr) (st : St) : Prop := TrK P Q (.loop c) k st
def DrawW (P : Program) (Q : Exit → St → Prop) (id : Nat) (ops : Array Oper) (k : List Fr) (st : St) : Prop := TrK P Q (.region id ops true) k st
def OpW (P : Program) (Q : Exit → St → Prop) (ops : Array Oper) (o : Oper) (l : List Oper) (k : List Fr) (st : St) : Prop := RnK P Q ops (o :: l) k st

def popTo (id : Nat) : List Fr → Option (List Fr)
  | [] => none
  | .seq _ :: k => popTo id k
  | .blk i :: k => if i = id then some k else popTo id k
  | .scp :: k => popTo id k
theorem popTo_spec {P : Program} {Q : Exit → St → Prop} {id : Nat} {st : St} : ∀ {k k' : List Fr}, popTo id k = some k' → kq P Q k' .normal st → kq P Q k (.exit id) st
  | [], k', h, _ => by simp [popTo] at h
  | .seq y :: k, k', h, hq => by
    simp only [popTo] at h
    simp only [kq, thenQ]
    exact popTo_spec h hq
  | .blk i :: k, k', h, hq => by
    simp only [popTo] at h
    simp only [kq, blockQ]
    split at h
    · rename_i e; simp only [Option.some.injEq] at h; subst h; rw [if_pos e.symm]; exact hq
    · rename_i e; rw [if_neg (Ne.symm e)]; exact popTo_spec h hq
  | .scp :: k, k', h, hq => by
    simp only [popTo] at h
    simp only [kq, scopeQ]
    exact popTo_spec h hq
theorem popNone_spec {P : Program} {Q : Exit → St → Prop} {id : Nat} {st : St} : ∀ {k : List Fr}, popTo id k = none → Q (.exit id) st → kq P Q k (.exit id) st
  | [], _, hq => hq
  | .seq y :: k, h, hq => by
    simp only [popTo] at h
    simp only [kq, thenQ]
    exact popNone_spec h hq
  | .blk i :: k, h, hq => by
    simp only [popTo] at h
    simp only [kq, blockQ]
    split at h
    · cases h
    · rename_i e; rw [if_neg (Ne.symm e)]; exact popNone_spec h hq
  | .scp :: k, h, hq => by
    simp only [popTo] at h
    simp only [kq, scopeQ]
    exact popNone_spec h hq
theorem ret_spec {P : Program} {Q : Exit → St → Prop} {st : St} : ∀ {k : List Fr}, Q .ret st → kq P Q k .ret st
  | [], hq => hq
  | .seq y :: k, hq => by simp only [kq, thenQ]; exact ret_spec hq
  | .blk i :: k, hq => by simp only [kq, blockQ]; exact ret_spec hq
  | .scp :: k, hq => by simp only [kq, scopeQ]; exact ret_spec hq

def csz : Code → Nat
  | .seq a b => csz a + csz b + 2
  | .cond _ a b => csz a + csz b + 2
  | .block _ a => csz a + 2
  | .loop a => csz a + 2
  | .scope a => csz a + 2
  | .region _ ops _ => 2 * ops.size + 3
  | _ => 1
def ksz : List Fr → Nat
  | [] => 0
  | .seq y :: k => csz y + 1 + ksz k
  | .blk _ :: k => 1 + ksz k
  | .scp :: k => 1 + ksz k
theorem ksz_pop {id : Nat} : ∀ {k k' : List Fr}, popTo id k = some k' → ksz k' ≤ ksz k
  | [], k', h => by simp [popTo] at h
  | .seq y :: k, k', h => by simp only [popTo] at h; have := ksz_pop h; simp only [ksz]; omega
  | .blk i :: k, k', h => by
    simp only [popTo] at h
    split at h
    · simp only [Option.some.injEq] at h; subst h; simp only [ksz]; omega
    · have := ksz_pop h; simp only [ksz]; omega
  | .scp :: k, k', h => by simp only [popTo] at h; have := ksz_pop h; simp only [ksz]; omega

mutual
/-- Code is run, as far as it goes by itself. -/
def ex (P : Program) (Q : Exit → St → Prop) (c : Code) (k : List Fr) (st : St) : Prop :=
  match c with
  | .skip => nr P Q k st
  | .seq a b => ex P Q a (.seq b :: k) st
  | .block id a => ex P Q a (.blk id :: k) st
  | .scope a => ex P Q a (.scp :: k) st
  | .cond c a b => match aval st c with
    | some (.sv (.val (.bool x))) => cnd P Q x a b k st
    | _ => False
  | .exit id => match h : popTo id k with
    | some k' => nr P Q k' st
    | none => Q (.exit id) st
  | .ret => Q .ret st
  | .region id ops draw => if draw = true then DrawW P Q id ops k st else rn P Q ops ops.toList k st
  | .loop c => LoopW P Q c k st
  | .label _ => nr P Q k st
  | _ => False
  termination_by (csz c + ksz k, 2)
  decreasing_by
  all_goals simp only [csz, ksz, Prod.lex_def]
  all_goals first | omega | (have := ksz_pop h; omega) | (simp; omega)
/-- A test: known, or to be parted. -/
def cnd (P : Program) (Q : Exit → St → Prop) (x : Bool) (a b : Code) (k : List Fr) (st : St) : Prop :=
  match x with
  | true => ex P Q a k st
  | false => ex P Q b k st
  termination_by (csz a + csz b + ksz k + 1, 0)
  decreasing_by
  all_goals simp only [csz, ksz, Prod.lex_def]
  all_goals omega
def nr (P : Program) (Q : Exit → St → Prop) (k : List Fr) (st : St) : Prop :=
  match k with
  | [] => Q .normal st
  | .seq y :: k => ex P Q y k st
  | .blk _ :: k => nr P Q k st
  | .scp :: k => nr P Q k st
  termination_by (ksz k, 0)
  decreasing_by
  all_goals simp only [csz, ksz, Prod.lex_def]
  all_goals omega
def rn (P : Program) (Q : Exit → St → Prop) (ops : Array Oper) (l : List Oper) (k : List Fr) (st : St) : Prop :=
  match l with
  | [] => nr P Q k st
  | o :: l => match grd ops st o with
    | some b => gd P Q b ops o l k st
    | none => False
  termination_by (ksz k + 2 * l.length + 1, 0)
  decreasing_by
  all_goals simp only [csz, ksz, Prod.lex_def, List.length_cons]
  all_goals omega
/-- An operation that is wanted, or not. -/
def gd (P : Program) (Q : Exit → St → Prop) (b : Bool) (ops : Array Oper) (o : Oper) (l : List Oper) (k : List Fr) (st : St) : Prop :=
  match b with
  | true => match dlt P o st with
      | some d => (d.c ∧ st.fitsDst o.dst = true) ∧ rn P Q ops l k (st.app o.dst d)
      | none => match crt P o st with
        | some m => m.c ∧ rn P Q ops l k m.st
        | none => OpW P Q ops o l k st
  | false => st.fitsDst o.dst = true ∧ rn P Q ops l k (st.put o.dst (.sv (.val undef)))
  termination_by (ksz k + 2 * l.length + 2, 0)
  decreasing_by
  all_goals simp only [csz, ksz, Prod.lex_def, List.length_cons]
  all_goals omega
end

/-- What is run by itself, holds. -/
theorem run_sound {P : Program} {Q : Exit → St → Prop} : ∀ (n : Nat),
    (∀ c k st, csz c + ksz k < n → ex P Q c k st → TrK P Q c k st) ∧ (∀ k st, ksz k < n → nr P Q k st → kq P Q k .normal st) ∧
    (∀ ops l k st, ksz k + 2 * l.length + 1 < n → rn P Q ops l k st → RnK P Q ops l k st) ∧ (∀ b ops o l k st, ksz k + 2 * l.length + 2 < n → grd ops st o = some b → gd P Q b ops o l k st → RnK P Q ops (o :: l) k st)
  | 0 => ⟨fun _ _ _ h => by omega, fun _ _ h => by omega, fun _ _ _ _ h => by omega, fun _ _ _ _ _ _ h => by omega⟩
  | n + 1 => by
    obtain ⟨h1, h2, h3, h4⟩ := run_sound (P := P) (Q := Q) n
    have hnr : ∀ k st, ksz k < n + 1 → nr P Q k st → kq P Q k .normal st := fun k => by
      induction k with
      | nil => intro st _ h; simpa only [nr, kq] using h
      | cons f k ih =>
        intro st hs h
        cases f with
        | seq y =>
          simp only [nr] at h
          simp only [ksz] at hs
          exact h1 y k st (by omega) h
        | blk id =>
          simp only [nr] at h
          simp only [ksz] at hs
          exact ih st (by omega) h
        | scp =>
          simp only [nr] at h
          simp only [ksz] at hs
          exact ih st (by omega) h
    have hgd : ∀ b ops o l k st, ksz k + 2 * l.length + 2 < n + 1 → grd ops st o = some b → gd P Q b ops o l k st → RnK P Q ops (o :: l) k st := fun b ops o l k st hs hg h => by
      cases b with
      | true =>
        simp only [gd] at h
        split at h
        · rename_i d hd
          exact Rn.step hg (dlt_does hd h.1.1 h.1.2) (h3 ops l k _ (by omega) h.2)
        · split at h
          · rename_i m hm
            exact Rn.step hg (crt_does hm h.1) (h3 ops l k _ (by omega) h.2)
          · exact h
      | false =>
        simp only [gd] at h
        exact Rn.skip hg h.1 (h3 ops l k _ (by omega) h.2)
    have hrn : ∀ ops l k st, ksz k + 2 * l.length + 1 < n + 1 → rn P Q ops l k st → RnK P Q ops l k st := fun ops l k st hs h => by
      cases l with
      | nil => simp only [rn] at h; exact Rn.nil (hnr k st (by omega) h)
      | cons o l =>
        simp only [rn] at h
        simp only [List.length_cons] at hs
        split at h
        · rename_i b hg; exact hgd b ops o l k st (by omega) hg h
        · exact h.elim
    refine ⟨fun c k st hs h => ?_, hnr, hrn, hgd⟩
    cases c with
    | skip => simp only [ex] at h; exact Tr.skip (hnr k st (by simp only [csz] at hs; omega) h)
    | region id ops draw =>
      simp only [ex] at h
      split at h
      · rename_i hd; subst hd; exact h
      · rename_i hd
        have hd' : draw = false := by simpa using hd
        subst hd'
        have := hrn ops ops.toList k st (by simp only [csz] at hs; simp; omega) h
        exact Tr.region (l := ops.toList) this
    | seq a b => simp only [ex] at h; exact Tr.seq (h1 a (.seq b :: k) st (by simp only [csz] at hs; simp only [ksz]; omega) h)
    | cond c a b =>
      simp only [ex] at h
      simp only [csz] at hs
      split at h
      · rename_i x hx
        refine Tr.cond hx (fun e => ?_) (fun e => ?_)
        · subst e; simp only [cnd] at h; exact h1 a k st (by omega) h
        · subst e; simp only [cnd] at h; exact h1 b k st (by omega) h
      · exact h.elim
    | block id a => simp only [ex] at h; exact Tr.block (h1 a (.blk id :: k) st (by simp only [csz] at hs; simp only [ksz]; omega) h)
    | loop a => simp only [ex] at h; exact h
    | exit id =>
      simp only [ex] at h
      split at h
      · rename_i k' hp
        exact Tr.exit (popTo_spec hp (hnr k' st (by have := ksz_pop hp; simp only [csz] at hs; omega) h))
      · rename_i hp; exact Tr.exit (popNone_spec hp h)
    | label id => simp only [ex] at h; exact Tr.label (hnr k st (by simp only [csz] at hs; omega) h)
    | ret => simp only [ex] at h; exact Tr.ret (ret_spec h)
    | goto l => simp only [ex] at h
    | rangeFunc f ps as_ b => simp only [ex] at h
    | scope b => simp only [ex] at h; exact Tr.scope (h1 b (.scp :: k) st (by simp only [csz] at hs; simp only [ksz]; omega) h)
    | refuse w => simp only [ex] at h
theorem TrK.ex {P : Program} {Q : Exit → St → Prop} {c : Code} {k : List Fr} {st : St} (h : Ab.ex P Q c k st) : TrK P Q c k st := (run_sound (csz c + ksz k + 1)).1 c k st (by omega) h
theorem RnK.rn {P : Program} {Q : Exit → St → Prop} {ops : Array Oper} {l : List Oper} {k : List Fr} {st : St} (h : Ab.rn P Q ops l k st) : RnK P Q ops l k st := (run_sound (ksz k + 2 * l.length + 2)).2.2.1 ops l k st (by omega) h
theorem Tr.ex {P : Program} {Q : Exit → St → Prop} {c : Code} {st : St} (h : Ab.ex P Q c [] st) : Tr P c Q st := TrK.ex (k := []) h
/-- What is to be done behind a piece of code, by the way it is left. -/
def kx (P : Program) (Q : Exit → St → Prop) (k : List Fr) (e : Exit) (st : St) : Prop :=
  match e with
  | .normal => nr P Q k st
  | .exit id => match popTo id k with
    | some k' => nr P Q k' st
    | none => Q (.exit id) st
  | .ret => Q .ret st
  | _ => False
theorem kx_kq {P : Program} {Q : Exit → St → Prop} {k : List Fr} {e : Exit} {st : St} (h : kx P Q k e st) : kq P Q k e st := by
  have hnr : ∀ k, nr P Q k st → kq P Q k .normal st := fun k hk => (run_sound (ksz k + 1)).2.1 k st (by omega) hk
  cases e with
  | normal => exact hnr k h
  | exit id =>
    simp only [kx] at h
    split at h
    · rename_i k' hp; exact popTo_spec hp (hnr k' h)
    · rename_i hp; exact popNone_spec hp h
  | ret => exact ret_spec h
  | _ => exact h.elim
/-- The post of a round. -/
def loopQ (P : Program) (Q : Exit → St → Prop) (k : List Fr) (K : St → Prop) (e : Exit) (st : St) : Prop :=
  match e with
  | .normal => K st
  | e => kx P Q k e st
/-- A loop. -/
theorem LoopW.of {P : Program} {Q : Exit → St → Prop} {c : Code} {k : List Fr} {st : St} {σ : Type} (S : σ → St) (I : σ → Prop) (μ : σ → Nat) (s0 : σ) (h0 : I s0) (hst : Ent st (S s0))
    (round : ∀ s, I s → Ab.ex P (loopQ P Q k (fun st' => ∃ s', I s' ∧ μ s' < μ s ∧ Ent st' (S s'))) c [] (S s)) : LoopW P Q c k st :=
  Tr.loop S I μ s0 h0 hst fun s hs => Tr.mono (Tr.ex (round s hs)) fun e st' h => by
    cases e with
    | normal => exact h
    | _ => exact kx_kq h
/-- A piece of code ahead of more: what it leaves. -/
theorem ex.cut {P : Program} {Q : Exit → St → Prop} {c : Code} {k : List Fr} {st : St} {σ : Type} (S : σ → St) (I : σ → Prop) (h : Ab.ex P (loopQ P Q k (fun st' => ∃ s, I s ∧ Ent st' (S s))) c [] st) (hk : ∀ s, I s → nr P Q k (S s)) : TrK P Q c k st :=
  Tr.mono' (Tr.ex h) fun keep w E a e st' hI hq => by
    cases e with
    | normal =>
      obtain ⟨s, hs, hent⟩ := hq
      obtain ⟨E', h1, h2⟩ := hent keep w E a hI
      exact ⟨S s, E', h1, h2, kx_kq (e := .normal) (hk s hs)⟩
    | _ => exact ⟨st', E, hI, Evo.refl _ _ _, kx_kq hq⟩
where
  Tr.mono' {P : Program} {Q Q' : Exit → St → Prop} {c : Code} {st : St} (h : Tr P c Q st) (hq : ∀ (keep : Nat → Prop) (w : World) (E : Env) (a : Act) (e : Exit) (st' : St), Inv keep w E st' a → Q e st' → ∃ st2 E2, Inv keep w E2 st2 a ∧ Evo keep w E w E2 ∧ Q' e st2) : Tr P c Q' st := fun keep w E a hI =>
    Code.wp_mono (fun e a' w' ⟨st', E', h1, h2, h3⟩ => by
      obtain ⟨st2, E2, k1, k2, k3⟩ := hq keep w' E' a' e st' h1 h3
      exact ⟨st2, E2, k1, h2.trans k2, k3⟩) (h keep w E a hI)
end Go.Proofs.Ytimllhflecippaa.Ab
end

section
namespace Go.Proofs.Ytimllhflecippaa.Ab
open Go.RowKit
set_option linter.unusedVariables false
set_option linter.unusedSimpArgs false

/-- The footprint of one operation: temporaries and tags that it reads; tags whose kind and size it reads; what it writes; the tag that it makes; whether it makes or ends tags; the tags that its boxes hold. -/
structure Ft where
  rT : List Nat
  rM : List Nat
  sM : List Nat
  wT : Option (Nat × AV)
  wM : List (Nat × Option Obj')
  nw : Option Nat
  hv : Bool
  hs : List Nat
def upo {α : Type} (l : List (Nat × α)) (w : Option (Nat × α)) : List (Nat × α) := match w with
  | some (k, x) => up l k x
  | none => l
def upm (l : List (Nat × Obj')) : List (Nat × Option Obj') → List (Nat × Obj')
  | [] => l
  | (k, some o) :: r => up (upm l r) k o
  | (k, none) :: r => rm (upm l r) k
theorem lk_upo {α : Type} (l : List (Nat × α)) (w : Option (Nat × α)) (d : Nat) : lk (upo l w) d = match lk w.toList d with | some x => some x | none => lk l d := by
  unfold upo
  cases w with
  | none => rfl
  | some p =>
    obtain ⟨k, x⟩ := p
    simp only [Option.toList_some, lk]
    rw [lk_up]
    split <;> rfl
theorem lk_upm (l : List (Nat × Obj')) (d : Nat) : ∀ (w : List (Nat × Option Obj')), lk (upm l w) d = match lk w d with | some x => x | none => lk l d
  | [] => rfl
  | (k, some o) :: r => by
    simp only [upm, lk, lk_up]
    split
    · rfl
    · exact lk_upm l d r
  | (k, none) :: r => by
    simp only [upm, lk, lk_rm]
    split
    · rfl
    · exact lk_upm l d r
def St.upd (st : St) (f : Ft) : St := { st with t := upo st.t f.wT, m := upm st.m f.wM }
/-- Nothing holds a tag. -/
def Fresh (s : St) (d : Nat) : Prop := d < 1000000 ∧ lk s.m d = none ∧ (∀ e x, lk s.t e = some x → x.holds d = false) ∧ ∀ t cs, lk s.m t = some (.box cs) → AV.holdsL d cs = false

def OStep (P : Program) (ops : Array Oper) (o : Oper) (st st' : St) : Prop :=
  ∀ (keep : Nat → Prop) (w : World) (E : Env) (a : Act), Inv keep w E st a → ∀ (N : Act → World → Prop) (Q : Exit → Act → World → Prop), (∀ a' w' E', Inv keep w' E' st' a' → Evo keep w E w' E' → N a' w') →
    if Region.wanted o (yielded ops a.tmps) = true then o.wp P a w N Q else N (a.put o.dst undef) w
/-- Alike in kind and in size. -/
def OLk : Option Obj' → Option Obj' → Prop
  | none, none => True
  | some (.row k xs), some (.row k' ys) => k = k' ∧ xs.length = ys.length
  | some (.box cs), some (.box ds) => cs.length = ds.length
  | _, _ => False
theorem OLk.refl (o : Option Obj') : OLk o o := by
  cases o with
  | none => trivial
  | some o => cases o with
    | row k xs => exact ⟨rfl, rfl⟩
    | box cs => exact rfl
theorem OLk.trans {a b c : Option Obj'} (h : OLk a b) (k : OLk b c) : OLk a c := by
  cases a with
  | none => cases b with
    | none => exact k
    | some b => exact h.elim
  | some a => cases b with
    | none => cases a <;> exact h.elim
    | some b => cases c with
      | none => cases b <;> exact k.elim
      | some c => cases a with
        | row _ _ => cases b with
          | row _ _ => cases c with
            | row _ _ => exact ⟨h.1.trans k.1, h.2.trans k.2⟩
            | box _ => exact k.elim
          | box _ => exact h.elim
        | box _ => cases b with
          | row _ _ => exact h.elim
          | box _ => cases c with
            | row _ _ => exact k.elim
            | box _ => exact Eq.trans h k
theorem OLk.symm {a b : Option Obj'} (h : OLk a b) : OLk b a := by
  cases a with
  | none => cases b with
    | none => trivial
    | some b => exact h.elim
  | some a => cases b with
    | none => cases a <;> exact h.elim
    | some b => cases a with
      | row _ _ => cases b with
        | row _ _ => exact ⟨h.1.symm, h.2.symm⟩
        | box _ => exact h.elim
      | box _ => cases b with
        | row _ _ => exact h.elim
        | box _ => exact Eq.symm h
def LocT (P : Program) (ops : Array Oper) (o : Oper) (st : St) (f : Ft) : Prop :=
  ((f.hv = false → ∀ t x, lk f.wM t = some x → OLk x (lk st.m t)) ∧ ∀ t cs, lk f.wM t = some (some (.box cs)) → ∀ d, AV.holdsL d cs = true → d ∈ f.hs) ∧
  ∀ s : St, s.n = st.n → (∀ d ∈ f.rT, lk s.t d = lk st.t d) → (∀ t ∈ f.rM, lk s.m t = lk st.m t) → (∀ t ∈ f.sM, OLk (lk s.m t) (lk st.m t)) → (∀ d, f.nw = some d → Fresh s d) → OStep P ops o s (s.upd f)
inductive Rd (P : Program) (ops : Array Oper) : List Oper → St → List Ft → St → Prop where
  | nil (st : St) : Rd P ops [] st [] st
  | cons {o : Oper} {l : List Oper} {st st' : St} {f : Ft} {fs : List Ft} : LocT P ops o st f → Rd P ops l (st.upd f) fs st' → Rd P ops (o :: l) st (f :: fs) st'

def wKeyT (f : Ft) : List Nat := f.wT.toList.map (·.1)
def wKeyM (f : Ft) : List Nat := f.wM.map (·.1)
def apartL (a b : List Nat) : Bool := a.all fun x => !b.contains x
/-- What i writes, j neither reads nor writes. -/
def clear1 (fi fj : Ft) : Bool := apartL (wKeyT fi) fj.rT && apartL (wKeyT fi) (wKeyT fj) && apartL (wKeyM fi) fj.rM && apartL (wKeyM fi) (wKeyM fj)
/-- What is written holds no such tag. -/
def noHold (d : Nat) (f : Ft) : Bool := (f.wT.toList.all fun p => !p.2.holds d) && !f.hs.contains d && !(wKeyM f).contains d
def ordOk (ops : Array Oper) (A : Array Nat) : Bool :=
  (List.range ops.size).all fun j => match ops[j]? with
    | some o => (o.after.toList.all fun e => !Region.binds .any e || decide (e.on < j)) && (List.range ops.size).all fun k => !(A.getD j 0).testBit k || o.after.toList.any fun e => Region.binds .any e && (e.on == k || (A.getD e.on 0).testBit k)
    | none => false
def pairOk (n : Nat) (A : Array Nat) (fs : List Ft) : Bool :=
  (List.range n).all fun i => (List.range n).all fun j => i == j || (A.getD j 0).testBit i || (A.getD i 0).testBit j || match fs[i]?, fs[j]? with
    | some fi, some fj => clear1 fi fj
    | _, _ => false
/-- Those that make or end tags: nothing reads the kind of such a tag; a tag that is made was none, and is held by nothing but what comes behind it. -/
def newOk (D : List Nat) (n : Nat) (A : Array Nat) (fs : List Ft) : Bool :=
  (List.range n).all fun i => match fs[i]? with
    | some fi => (!fi.hv || fs.all fun fj => apartL (wKeyM fi) fj.sM) && match fi.nw with
      | some d => D.contains d && (List.range n).all fun j => i == j || (A.getD j 0).testBit i || match fs[j]? with
        | some fj => noHold d fj
        | none => true
      | none => true
    | none => true
def chk (D : List Nat) (ops : Array Oper) (fs : List Ft) : Bool := ordOk ops (Region.before ops) && pairOk ops.size (Region.before ops) fs && fs.length == ops.size && newOk D ops.size (Region.before ops) fs

section
variable {P : Program} {ops : Array Oper} {A : Array Nat} {fs : List Ft} {n : Nat}
theorem ordOk_spec (h : ordOk ops A = true) {j : Nat} {o : Oper} (ho : ops[j]? = some o) : (∀ e ∈ o.after, Region.binds .any e = true → e.on < j) ∧ ∀ k, k < ops.size → (A.getD j 0).testBit k = true → ∃ e ∈ o.after, Region.binds .any e = true ∧ (e.on = k ∨ (A.getD e.on 0).testBit k = true) := by
  unfold ordOk at h
  rw [List.all_eq_true] at h
  have hj : j < ops.size := (Array.getElem?_eq_some_iff.1 ho).1
  have := h j (List.mem_range.2 hj)
  rw [ho] at this
  simp only [Bool.and_eq_true, List.all_eq_true, Bool.or_eq_true, Bool.not_eq_true', decide_eq_true_eq, List.any_eq_true, List.mem_range] at this
  obtain ⟨h1, h2⟩ := this
  refine ⟨fun e he hb => ?_, fun k hk ht => ?_⟩
  · rcases h1 e (by simpa using he) with h | h
    · rw [hb] at h; cases h
    · exact h
  · rcases h2 k hk with h | ⟨e, he, hb, h⟩
    · rw [ht] at h; cases h
    · exact ⟨e, by simpa using he, hb, h.imp (fun h => by simpa using h) id⟩
theorem anc_lt (h : ordOk ops A = true) : ∀ (j k : Nat), j < ops.size → k < ops.size → (A.getD j 0).testBit k = true → k < j := by
  intro j
  induction j using Nat.strongRecOn with
  | _ j ih =>
    intro k hj hk ht
    obtain ⟨h1, h2⟩ := ordOk_spec h (Array.getElem?_eq_getElem hj)
    obtain ⟨e, he, hb, h3⟩ := h2 k hk ht
    have h4 := h1 e he hb
    rcases h3 with rfl | h3
    · exact h4
    · have := ih e.on h4 k (by omega) hk h3; omega
/-- What is done is done with all ahead of it. -/
def Closed (ops : Array Oper) (D : Nat → Bool) : Prop := ∀ (j : Nat) (o : Oper), ops[j]? = some o → D j = true → ∀ e ∈ o.after, Region.binds .any e = true → D e.on = true
theorem anc_done (h : ordOk ops A = true) {D : Nat → Bool} (hD : Closed ops D) : ∀ (j k : Nat), j < ops.size → k < ops.size → D j = true → (A.getD j 0).testBit k = true → D k = true := by
  intro j
  induction j using Nat.strongRecOn with
  | _ j ih =>
    intro k hj hk hd ht
    obtain ⟨h1, h2⟩ := ordOk_spec h (Array.getElem?_eq_getElem hj)
    obtain ⟨e, he, hb, h3⟩ := h2 k hk ht
    have h4 := h1 e he hb
    have h5 := hD j _ (Array.getElem?_eq_getElem hj) hd e he hb
    rcases h3 with rfl | h3
    · exact h5
    · exact ih e.on h4 k (by omega) hk h5 h3
theorem pairOk_spec (h : pairOk n A fs = true) {i j : Nat} {fi fj : Ft} (hi : i < n) (hj : j < n) (hne : i ≠ j) (h1 : (A.getD j 0).testBit i = false) (h2 : (A.getD i 0).testBit j = false) (hfi : fs[i]? = some fi) (hfj : fs[j]? = some fj) : clear1 fi fj = true := by
  unfold pairOk at h
  rw [List.all_eq_true] at h
  have h3 := h i (List.mem_range.2 hi)
  rw [List.all_eq_true] at h3
  have h4 := h3 j (List.mem_range.2 hj)
  rw [h1, h2, hfi, hfj] at h4
  simpa [hne] using h4
theorem apartL_spec {a b : List Nat} (h : apartL a b = true) {x : Nat} (ha : x ∈ a) (hb : x ∈ b) : False := by
  unfold apartL at h
  rw [List.all_eq_true] at h
  have := h x ha
  simp only [Bool.not_eq_true', List.contains_eq_mem, decide_eq_false_iff_not] at this
  exact this hb
/-- What a key holds, once those of D have been done. -/
def vT {α : Type} (f0 : Nat → Option α) (ws : Nat → List (Nat × α)) (D : Nat → Bool) : Nat → Nat → Option α
  | 0, d => f0 d
  | k + 1, d => if D k = true then (match lk (ws k) d with | some x => some x | none => vT f0 ws D k d) else vT f0 ws D k d
theorem vT_same {α : Type} (f0 : Nat → Option α) (ws : Nat → List (Nat × α)) {D D' : Nat → Bool} {d : Nat} : ∀ k, (∀ j, j < k → (D j = D' j ∨ lk (ws j) d = none)) → vT f0 ws D k d = vT f0 ws D' k d
  | 0, _ => rfl
  | k + 1, h => by
    simp only [vT]
    rw [vT_same f0 ws k (fun j hj => h j (by omega))]
    rcases h k (by omega) with h | h
    · rw [h]
    · rw [h]; simp
theorem vT_stop {α : Type} (f0 : Nat → Option α) (ws : Nat → List (Nat × α)) {D : Nat → Bool} {d i : Nat} : ∀ k, (∀ j, i ≤ j → j < i + k → D j = true → lk (ws j) d = none) → vT f0 ws D (i + k) d = vT f0 ws D i d
  | 0, _ => rfl
  | k + 1, h => by
    rw [← Nat.add_assoc]
    simp only [vT]
    rw [vT_stop f0 ws k (fun j h1 h2 h3 => h j h1 (by omega) h3)]
    split
    · rename_i hd; rw [h (i + k) (by omega) (by omega) hd]
    · rfl
/-- One more is done. -/
theorem vT_one {α : Type} (f0 : Nat → Option α) (ws : Nat → List (Nat × α)) {D : Nat → Bool} {d i : Nat} (hi : D i = false) (hc : ∀ j, i < j → D j = true → ∀ x, lk (ws j) d = some x → lk (ws i) d = none) : ∀ k, vT f0 ws (fun j => D j || j == i) (i + 1 + k) d = match lk (ws i) d with | some x => some x | none => vT f0 ws D (i + 1 + k) d
  | 0 => by
    simp only [Nat.add_zero, vT]
    have h0 : vT f0 ws (fun j => D j || j == i) i d = vT f0 ws D i d := vT_same f0 ws i (fun j hj => .inl (by
      have : (j == i) = false := by simp; omega
      simp [this]))
    rw [h0]
    simp [hi]
  | k + 1 => by
    rw [show i + 1 + (k + 1) = i + 1 + k + 1 by omega]
    simp only [vT]
    rw [vT_one f0 ws hi hc k]
    have : ((i + 1 + k) == i) = false := by simp; omega
    simp only [this, Bool.or_false]
    cases hd : D (i + 1 + k) with
    | false => simp
    | true =>
      simp only [if_true]
      cases hl : lk (ws (i + 1 + k)) d with
      | none => rfl
      | some x => rw [hc _ (by omega) hd x hl]
end

section
variable {P : Program} {ops : Array Oper} {st st' : St} {fs : List Ft}
theorem vT_like (f0 : Nat → Option (Option Obj')) (ws : Nat → List (Nat × Option Obj')) (D : Nat → Bool) (d : Nat) {o : Option Obj'} (h0 : f0 d = some o) (h : ∀ j x, lk (ws j) d = some x → OLk x o) : ∀ k, ∃ x, vT f0 ws D k d = some x ∧ OLk x o
  | 0 => ⟨o, h0, OLk.refl _⟩
  | k + 1 => by
    obtain ⟨x, hx, ih⟩ := vT_like f0 ws D d h0 h k
    simp only [vT]
    split
    · split
      · rename_i y hy; exact ⟨y, rfl, h k y hy⟩
      · exact ⟨x, hx, ih⟩
    · exact ⟨x, hx, ih⟩
theorem vT_from {α : Type} (f0 : Nat → Option α) (ws : Nat → List (Nat × α)) (D : Nat → Bool) (d : Nat) {x : α} : ∀ k, vT f0 ws D k d = some x → f0 d = some x ∨ ∃ j, j < k ∧ D j = true ∧ lk (ws j) d = some x
  | 0, h => .inl h
  | k + 1, h => by
    simp only [vT] at h
    split at h
    · rename_i hD
      split at h
      · rename_i y hy
        simp only [Option.some.injEq] at h; subst h
        exact .inr ⟨k, by omega, hD, hy⟩
      · rcases vT_from f0 ws D d k h with h | ⟨j, h1, h2, h3⟩
        · exact .inl h
        · exact .inr ⟨j, by omega, h2, h3⟩
    · rcases vT_from f0 ws D d k h with h | ⟨j, h1, h2, h3⟩
      · exact .inl h
      · exact .inr ⟨j, by omega, h2, h3⟩
/-- The state behind so many, in the text's order. -/
def pre (st : St) : List Ft → Nat → St
  | _, 0 => st
  | [], _ + 1 => st
  | f :: fs, k + 1 => pre (st.upd f) fs k
theorem Rd.get : ∀ {l : List Oper} {st st' : St} {fs : List Ft}, Rd P ops l st fs st' → fs.length = l.length ∧ pre st fs fs.length = st' ∧ ∀ (i : Nat) (o : Oper), l[i]? = some o → ∃ f, fs[i]? = some f ∧ LocT P ops o (pre st fs i) f
  | _, _, _, _, .nil st => ⟨rfl, rfl, fun i o h => by simp at h⟩
  | _, _, _, _, .cons (o := o) (st := st) (f := f) (fs := fs) h1 h2 => by
    obtain ⟨k1, k2, k3⟩ := Rd.get h2
    refine ⟨by simp [k1], k2, fun i o' ho => ?_⟩
    cases i with
    | zero => simp at ho; subst ho; exact ⟨f, rfl, h1⟩
    | succ i => exact k3 i o' (by simpa using ho)
def wsT (fs : List Ft) (k : Nat) : List (Nat × AV) := match fs[k]? with | some f => f.wT.toList | none => []
def wsM (fs : List Ft) (k : Nat) : List (Nat × Option Obj') := match fs[k]? with | some f => f.wM | none => []
def mI (st : St) (t : Nat) : Option (Option Obj') := some (lk st.m t)
theorem pre_n : ∀ (fs : List Ft) (st : St) (k : Nat), (pre st fs k).n = st.n
  | _, st, 0 => by unfold pre; rfl
  | [], st, k + 1 => rfl
  | f :: fs, st, k + 1 => by simp only [pre]; rw [pre_n fs]; rfl
theorem vT_cons {α : Type} (f0 : Nat → Option α) (ws : Nat → List (Nat × α)) : ∀ (k d : Nat), vT f0 ws (fun _ => true) (k + 1) d = vT (fun d => match lk (ws 0) d with | some x => some x | none => f0 d) (fun j => ws (j + 1)) (fun _ => true) k d
  | 0, d => by simp [vT]
  | k + 1, d => by
    have := vT_cons f0 ws k d
    rw [vT]
    rw [this]
    simp [vT]
theorem pre_t : ∀ (fs : List Ft) (st : St) (k d : Nat), k ≤ fs.length → lk (pre st fs k).t d = vT (lk st.t) (wsT fs) (fun _ => true) k d
  | fs, st, 0, d, _ => by unfold pre; rfl
  | [], st, k + 1, d, h => by simp at h
  | f :: fs, st, k + 1, d, h => by
    simp only [pre]
    rw [pre_t fs (st.upd f) k d (by simpa using h), vT_cons]
    congr 1
    funext e
    simp only [St.upd, lk_upo]
    rfl
theorem pre_m : ∀ (fs : List Ft) (st : St) (k d : Nat), k ≤ fs.length → some (lk (pre st fs k).m d) = vT (mI st) (wsM fs) (fun _ => true) k d
  | fs, st, 0, d, _ => by unfold pre; rfl
  | [], st, k + 1, d, h => by simp at h
  | f :: fs, st, k + 1, d, h => by
    simp only [pre]
    rw [pre_m fs (st.upd f) k d (by simpa using h), vT_cons]
    congr 1
    funext e
    simp only [mI, St.upd, lk_upm]
    rw [show wsM (f :: fs) 0 = f.wM from rfl]
    cases lk f.wM e <;> rfl

/-- A state that is where those of D have been done. -/
def IsAt (st : St) (fs : List Ft) (D : Nat → Bool) (s : St) : Prop :=
  s.n = st.n ∧ (∀ d, lk s.t d = vT (lk st.t) (wsT fs) D fs.length d) ∧ ∀ t, some (lk s.m t) = vT (mI st) (wsM fs) D fs.length t

theorem draw_core {Ds : List Nat} (hD0 : ∀ d ∈ Ds, Fresh st d) (hR : Rd P ops ops.toList st fs st') (hc : chk Ds ops fs = true) {K : St → Prop} (hK : K st') {keep : Nat → Prop} {w0 : World} {E0 : Env} :
    ∀ (fuel : Nat) (listed : Array Bool) (s : St) (a : Act) (w : World) (E : Env), listed.size = ops.size → Closed ops (fun i => listed.getD i false) → (∃ un : List Nat, un.length = fuel ∧ ∀ i, i < ops.size → listed.getD i false = false → i ∈ un) → Inv keep w E s a → Evo keep w0 E0 w E → IsAt st fs (fun i => listed.getD i false) s →
      wpAny P .any ops (fun e a' w' => ∃ st' E', Inv keep w' E' st' a' ∧ Evo keep w0 E0 w' E' ∧ e = .normal ∧ K st') fuel listed a w := by
  obtain ⟨hlen, hpre, hget⟩ := hR.get
  simp only [chk, Bool.and_eq_true, beq_iff_eq] at hc
  obtain ⟨⟨⟨hord, hpair⟩, hfl⟩, hnew⟩ := hc
  simp only [Array.length_toList, Array.getElem?_toList] at hlen hget
  -- when nothing may come up, all has been done
  have done : ∀ (listed : Array Bool) (s : St) (a : Act) (w : World) (E : Env), listed.size = ops.size → Region.ready .any ops listed = [] → Inv keep w E s a → Evo keep w0 E0 w E → IsAt st fs (fun i => listed.getD i false) s → ∃ st' E', Inv keep w E' st' a ∧ Evo keep w0 E0 w E' ∧ Exit.normal = Exit.normal ∧ K st' := by
    intro listed s a w E hsz hr hI hE hat
    have hall : ∀ i, i < ops.size → listed.getD i false = true := by
      intro i
      induction i using Nat.strongRecOn with
      | _ i ih =>
        intro hi
        cases hl : listed.getD i false with
        | true => rfl
        | false =>
          exfalso
          have : i ∈ Region.ready .any ops listed := by
            rw [mem_ready]
            refine ⟨?_, ops[i], Array.getElem?_eq_getElem hi, fun e he hb => ?_⟩
            · rw [Array.getD_eq_getD_getElem?] at hl ⊢
              rw [Array.getElem?_eq_getElem (by omega)] at hl ⊢
              exact hl
            · have := (ordOk_spec hord (Array.getElem?_eq_getElem hi)).1 e he hb
              exact ih e.on this (by omega)
          rw [hr] at this
          cases this
    refine ⟨st', E, hI.le ⟨?_, fun d x hx => ?_, fun t o ho => ?_⟩, hE, rfl, hK⟩
    · rw [← hpre, pre_n]; exact hat.1
    · rw [hat.2.1 d, ← hx, ← hpre, pre_t fs st _ d (Nat.le_refl _)]
      exact vT_same _ _ _ (fun j hj => .inl (hall j (by omega)))
    · refine Option.some.inj ?_
      rw [hat.2.2 t, ← ho, ← hpre, pre_m fs st _ t (Nat.le_refl _)]
      exact vT_same _ _ _ (fun j hj => .inl (hall j (by omega)))
  intro fuel
  induction fuel with
  | zero =>
    intro listed s a w E hsz hcl ⟨un, hun, hmem⟩ hI hE hat
    have hun0 : un = [] := List.eq_nil_of_length_eq_zero hun
    subst hun0
    have hr : Region.ready .any ops listed = [] := by
      rw [List.eq_nil_iff_forall_not_mem]
      intro i hi
      rw [mem_ready] at hi
      obtain ⟨h1, o, ho, _⟩ := hi
      have hlt : i < ops.size := (Array.getElem?_eq_some_iff.1 ho).1
      have := hmem i hlt (by
        rw [Array.getD_eq_getD_getElem?] at h1 ⊢
        rw [Array.getElem?_eq_getElem (by omega)] at h1 ⊢
        exact h1)
      cases this
    exact ⟨hr, done listed s a w E hsz hr hI hE hat⟩
  | succ fuel ih =>
    intro listed s a w E hsz hcl ⟨un, hun, hmem⟩ hI hE hat
    refine ⟨fun hr => done listed s a w E hsz hr hI hE hat, fun i hi => ?_⟩
    rw [mem_ready] at hi
    obtain ⟨hnl, o, ho, hpr⟩ := hi
    have hlt : i < ops.size := (Array.getElem?_eq_some_iff.1 ho).1
    have hnl' : listed.getD i false = false := by
      rw [Array.getD_eq_getD_getElem?] at hnl ⊢
      rw [Array.getElem?_eq_getElem (by omega)] at hnl ⊢
      exact hnl
    obtain ⟨f, hf, hloc⟩ := hget i o ho
    -- those ahead of i have been done
    have hanc : ∀ k, k < ops.size → ((Region.before ops).getD i 0).testBit k = true → listed.getD k false = true := fun k hk ht => by
      obtain ⟨h1, h2⟩ := ordOk_spec hord ho
      obtain ⟨e, he, hb, h3⟩ := h2 k hk ht
      have h4 := hpr e he hb
      rcases h3 with rfl | h3
      · exact h4
      · exact anc_done hord hcl e.on k (by have := h1 e he hb; omega) hk h4 h3
    have notanc : ∀ k, k < ops.size → listed.getD k false = true → ((Region.before ops).getD k 0).testBit i = false := fun k hk hd => by
      cases ht : ((Region.before ops).getD k 0).testBit i with
      | false => rfl
      | true => rw [anc_done hord hcl k i hk hlt hd ht] at hnl'; cases hnl'
    -- those that may be out of order have nothing to do with i
    have free : ∀ k fk, k < ops.size → fs[k]? = some fk → (k < i ∧ listed.getD k false = false ∨ i < k ∧ listed.getD k false = true) → clear1 fk f = true := fun k fk hk hfk hor => by
      refine pairOk_spec hpair hk hlt (by omega) ?_ ?_ hfk hf
      · cases ht : ((Region.before ops).getD i 0).testBit k with
        | false => rfl
        | true =>
          rcases hor with ⟨_, h2⟩ | ⟨h1, _⟩
          · rw [hanc k hk ht] at h2; cases h2
          · have := anc_lt hord i k hlt hk ht; omega
      · rcases hor with ⟨h1, h2⟩ | ⟨h1, h2⟩
        · cases ht : ((Region.before ops).getD k 0).testBit i with
          | false => rfl
          | true => have := anc_lt hord k i hk hlt ht; omega
        · exact notanc k hk h2
    have keyT : ∀ k fk x d, fs[k]? = some fk → lk (wsT fs k) d = some x → d ∈ wKeyT fk := fun k fk x d hk hx => by
      have := lk_mem hx
      simp only [wsT, hk] at this
      exact List.mem_map.2 ⟨_, this, rfl⟩
    have keyM : ∀ k fk x d, fs[k]? = some fk → lk (wsM fs k) d = some x → d ∈ wKeyM fk := fun k fk x d hk hx => by
      have := lk_mem hx
      simp only [wsM, hk] at this
      exact List.mem_map.2 ⟨_, this, rfl⟩
    have hfs : ∀ k, k < ops.size → ∃ fk, fs[k]? = some fk := fun k hk => ⟨_, List.getElem?_eq_getElem (by omega)⟩
    have hsplit : fs.length = i + (fs.length - i) := by omega
    -- what i reads is as the text's order has it
    have agT : ∀ d ∈ f.rT, lk s.t d = lk (pre st fs i).t d := fun d hd => by
      rw [hat.2.1 d, pre_t fs st i d (by omega)]
      rw [hsplit, vT_stop (lk st.t) (wsT fs) (fs.length - i) (fun j h1 h2 h3 => by
        cases hl : lk (wsT fs j) d with
        | none => rfl
        | some x =>
          obtain ⟨fk, hfk⟩ := hfs j (by omega)
          have hne : j ≠ i := fun e => by rw [e] at h3; rw [hnl'] at h3; cases h3
          have := free j fk (by omega) hfk (.inr ⟨by omega, h3⟩)
          simp only [clear1, Bool.and_eq_true] at this
          exact (apartL_spec this.1.1.1 (keyT j fk x d hfk hl) hd).elim)]
      exact vT_same _ _ _ (fun j hj => by
        cases hdj : listed.getD j false with
        | true => exact .inl rfl
        | false =>
          right
          cases hl : lk (wsT fs j) d with
          | none => rfl
          | some x =>
            obtain ⟨fk, hfk⟩ := hfs j (by omega)
            have := free j fk (by omega) hfk (.inl ⟨hj, hdj⟩)
            simp only [clear1, Bool.and_eq_true] at this
            exact (apartL_spec this.1.1.1 (keyT j fk x d hfk hl) hd).elim)
    have agM : ∀ d ∈ f.rM, lk s.m d = lk (pre st fs i).m d := fun d hd => by
      refine Option.some.inj ?_
      rw [hat.2.2 d, pre_m fs st i d (by omega)]
      rw [hsplit, vT_stop (mI st) (wsM fs) (fs.length - i) (fun j h1 h2 h3 => by
        cases hl : lk (wsM fs j) d with
        | none => rfl
        | some x =>
          obtain ⟨fk, hfk⟩ := hfs j (by omega)
          have hne : j ≠ i := fun e => by rw [e] at h3; rw [hnl'] at h3; cases h3
          have := free j fk (by omega) hfk (.inr ⟨by omega, h3⟩)
          simp only [clear1, Bool.and_eq_true] at this
          exact (apartL_spec this.1.2 (keyM j fk x d hfk hl) hd).elim)]
      exact vT_same _ _ _ (fun j hj => by
        cases hdj : listed.getD j false with
        | true => exact .inl rfl
        | false =>
          right
          cases hl : lk (wsM fs j) d with
          | none => rfl
          | some x =>
            obtain ⟨fk, hfk⟩ := hfs j (by omega)
            have := free j fk (by omega) hfk (.inl ⟨hj, hdj⟩)
            simp only [clear1, Bool.and_eq_true] at this
            exact (apartL_spec this.1.2 (keyM j fk x d hfk hl) hd).elim)
    -- memory keeps its kind and its size
    have hnewi : ∀ k fk, k < ops.size → fs[k]? = some fk → (fk.hv = true → ∀ fj ∈ fs, apartL (wKeyM fk) fj.sM = true) ∧ ∀ d, fk.nw = some d → d ∈ Ds ∧ ∀ j fj, j < ops.size → fs[j]? = some fj → k = j ∨ ((Region.before ops).getD j 0).testBit k = true ∨ noHold d fj = true := fun k fk hk hfk => by
      unfold newOk at hnew
      rw [List.all_eq_true] at hnew
      have := hnew k (List.mem_range.2 hk)
      rw [hfk] at this
      simp only [Bool.and_eq_true, Bool.or_eq_true, Bool.not_eq_true'] at this
      refine ⟨fun hv fj hj => ?_, fun d hd => ?_⟩
      · rcases this.1 with h | h
        · rw [hv] at h; cases h
        · rw [List.all_eq_true] at h; exact h fj hj
      · have h2 := this.2
        rw [hd] at h2
        simp only [Bool.and_eq_true, List.contains_eq_mem, decide_eq_true_eq] at h2
        refine ⟨h2.1, fun j fj hj hfj => ?_⟩
        have h3 := h2.2
        rw [List.all_eq_true] at h3
        have h4 := h3 j (List.mem_range.2 hj)
        rw [hfj] at h4
        simp only [Bool.or_eq_true, beq_iff_eq] at h4
        rcases h4 with (h4 | h4) | h4
        · exact .inl h4
        · exact .inr (.inl h4)
        · exact .inr (.inr h4)
    have hlike : ∀ t ∈ f.sM, OLk (lk s.m t) (lk (pre st fs i).m t) := fun t ht => by
      have hwr : ∀ j x, lk (wsM fs j) t = some x → OLk x (lk st.m t) := by
        intro j
        induction j using Nat.strongRecOn with
        | _ j ihj =>
          intro x hx
          by_cases hj : j < ops.size
          · obtain ⟨fj, hfj, hlocj⟩ := hget j ops[j] (Array.getElem?_eq_getElem hj)
            have hlight : fj.hv = false := by
              cases hh : fj.hv with
              | false => rfl
              | true => exact (apartL_spec ((hnewi j fj hj hfj).1 hh f (List.mem_of_getElem? hf)) (keyM j fj x t hfj hx) ht).elim
            have h1 := hlocj.1.1 hlight t x (by simpa [wsM, hfj] using hx)
            refine h1.trans ?_
            have hpm := pre_m fs st j t (by omega)
            have hcut : vT (mI st) (wsM fs) (fun _ => true) j t = vT (mI st) (fun i => if i < j then wsM fs i else []) (fun _ => true) j t := by
              have key : ∀ k, k ≤ j → vT (mI st) (wsM fs) (fun _ => true) k t = vT (mI st) (fun i => if i < j then wsM fs i else []) (fun _ => true) k t := by
                intro k
                induction k with
                | zero => intro _; rfl
                | succ k ihk =>
                  intro hkj
                  simp only [vT]
                  rw [ihk (by omega), if_pos (show k < j by omega)]
              exact key j (Nat.le_refl _)
            obtain ⟨y, hy, hly⟩ := vT_like (mI st) (fun i => if i < j then wsM fs i else []) (fun _ => true) t (o := lk st.m t) rfl (fun j' z hz => by
              split at hz
              · rename_i hlt'; exact ihj j' hlt' z hz
              · simp [lk] at hz) j
            rw [hcut, hy] at hpm
            rw [Option.some.inj hpm]
            exact hly
          · simp only [wsM] at hx
            rw [List.getElem?_eq_none (by omega)] at hx
            simp [lk] at hx
      have h1 := hat.2.2 t
      have h2 := pre_m fs st i t (by omega)
      obtain ⟨y, hy, hly⟩ := vT_like (mI st) (wsM fs) (fun i => listed.getD i false) t (o := lk st.m t) rfl hwr fs.length
      obtain ⟨z, hz, hlz⟩ := vT_like (mI st) (wsM fs) (fun _ => true) t (o := lk st.m t) rfl hwr i
      rw [hy] at h1
      rw [hz] at h2
      rw [Option.some.inj h1, Option.some.inj h2]
      exact hly.trans hlz.symm
    have hfresh : ∀ d, f.nw = some d → Fresh s d := fun d hd => by
      obtain ⟨hdD, hno⟩ := (hnewi i f hlt hf).2 d hd
      obtain ⟨g1, g2, g3, g4⟩ := hD0 d hdD
      have hdone : ∀ j, j < fs.length → listed.getD j false = true → ∃ fj, fs[j]? = some fj ∧ noHold d fj = true := fun j hj hdj => by
        obtain ⟨fj, hfj⟩ := hfs j (by omega)
        refine ⟨fj, hfj, ?_⟩
        rcases hno j fj (by omega) hfj with h | h | h
        · subst h; rw [hnl'] at hdj; cases hdj
        · rw [notanc j (by omega) hdj] at h; cases h
        · exact h
      refine ⟨g1, ?_, fun e x hx => ?_, fun t cs hx => ?_⟩
      · have h1 := hat.2.2 d
        rcases vT_from _ _ _ _ _ h1.symm with h2 | ⟨j, h2, h3, h4⟩
        · exact (Option.some.inj h2).symm.trans g2
        · obtain ⟨fj, hfj, hn⟩ := hdone j h2 h3
          have := keyM j fj _ d hfj h4
          simp only [noHold, Bool.and_eq_true, Bool.not_eq_true', List.contains_eq_mem, decide_eq_false_iff_not] at hn
          exact (hn.2 this).elim
      · have h1 := hat.2.1 e
        rw [hx] at h1
        rcases vT_from _ _ _ _ _ h1.symm with h2 | ⟨j, h2, h3, h4⟩
        · exact g3 e x h2
        · obtain ⟨fj, hfj, hn⟩ := hdone j h2 h3
          have hm := lk_mem h4
          simp only [wsT, hfj] at hm
          simp only [noHold, Bool.and_eq_true, List.all_eq_true] at hn
          simpa using hn.1.1 _ hm
      · have h1 := hat.2.2 t
        rw [hx] at h1
        rcases vT_from _ _ _ _ _ h1.symm with h2 | ⟨j, h2, h3, h4⟩
        · exact g4 t cs (Option.some.inj h2)
        · obtain ⟨fj, hfj, hn⟩ := hdone j h2 h3
          simp only [wsM, hfj] at h4
          simp only [noHold, Bool.and_eq_true, Bool.not_eq_true', List.contains_eq_mem, decide_eq_false_iff_not] at hn
          obtain ⟨f', hf', hlocj⟩ := hget j ops[j] (Array.getElem?_eq_getElem (by omega))
          rw [hfj] at hf'
          simp only [Option.some.injEq] at hf'; subst hf'
          cases hh : AV.holdsL d cs with
          | false => rfl
          | true => exact (hn.1.2 (hlocj.1.2 t cs h4 d hh)).elim
    have hstep := hloc.2 s (by rw [hat.1, pre_n]) agT agM hlike hfresh keep w E a hI
    -- where we stand behind it
    have hD : ∀ j, (listed.setIfInBounds i true).getD j false = (listed.getD j false || j == i) := fun j => by
      rw [Array.getD_eq_getD_getElem?, Array.getElem?_setIfInBounds]
      by_cases hij : i = j
      · subst hij; simp [hsz, hlt]
      · rw [if_neg hij, ← Array.getD_eq_getD_getElem?]
        have : (j == i) = false := by simp; omega
        rw [this, Bool.or_false]
    have hsplit2 : fs.length = i + 1 + (fs.length - (i + 1)) := by omega
    have hat' : IsAt st fs (fun j => (listed.setIfInBounds i true).getD j false) (s.upd f) := by
      have hfun : (fun j => (listed.setIfInBounds i true).getD j false) = (fun j => (fun j => listed.getD j false) j || j == i) := funext hD
      rw [hfun]
      refine ⟨hat.1, fun d => ?_, fun d => ?_⟩
      · simp only [St.upd, lk_upo]
        rw [hsplit2, vT_one (lk st.t) (wsT fs) hnl' (fun j h1 h3 x hl => by
          by_cases hj : j < ops.size
          · obtain ⟨fk, hfk⟩ := hfs j hj
            have hcl := free j fk hj hfk (.inr ⟨h1, h3⟩)
            simp only [clear1, Bool.and_eq_true] at hcl
            cases hl2 : lk (wsT fs i) d with
            | none => rfl
            | some y => exact (apartL_spec hcl.1.1.2 (keyT j fk x d hfk hl) (keyT i f y d hf hl2)).elim
          · simp only [wsT] at hl
            rw [List.getElem?_eq_none (by omega)] at hl
            simp [lk] at hl), ← hsplit2, ← hat.2.1 d]
        simp only [wsT, hf]
      · simp only [St.upd, lk_upm]
        rw [hsplit2, vT_one (mI st) (wsM fs) hnl' (fun j h1 h3 x hl => by
          by_cases hj : j < ops.size
          · obtain ⟨fk, hfk⟩ := hfs j hj
            have hcl := free j fk hj hfk (.inr ⟨h1, h3⟩)
            simp only [clear1, Bool.and_eq_true] at hcl
            cases hl2 : lk (wsM fs i) d with
            | none => rfl
            | some y => exact (apartL_spec hcl.2 (keyM j fk x d hfk hl) (keyM i f y d hf hl2)).elim
          · simp only [wsM] at hl
            rw [List.getElem?_eq_none (by omega)] at hl
            simp [lk] at hl), ← hsplit2, ← hat.2.2 d]
        simp only [wsM, hf]
        cases lk f.wM d <;> rfl
    have next : ∀ a' w' E', Inv keep w' E' (s.upd f) a' → Evo keep w E w' E' → wpAny P .any ops (fun e a' w' => ∃ st' E', Inv keep w' E' st' a' ∧ Evo keep w0 E0 w' E' ∧ e = .normal ∧ K st') fuel (listed.setIfInBounds i true) a' w' := fun a' w' E' k1 k2 => by
      refine ih _ (s.upd f) a' w' E' (by simpa using hsz) ?_ ⟨un.erase i, ?_, ?_⟩ k1 (hE.trans k2) hat'
      · intro j oj hoj hdj e he hb
        simp only [hD] at hdj ⊢
        simp only [Bool.or_eq_true, beq_iff_eq] at hdj ⊢
        rcases hdj with hdj | rfl
        · exact .inl (hcl j oj hoj hdj e he hb)
        · rw [ho] at hoj; simp only [Option.some.injEq] at hoj; subst hoj
          exact .inl (hpr e he hb)
      · rw [List.length_erase_of_mem (hmem i hlt hnl'), hun]; rfl
      · intro j hj hl
        rw [hD] at hl
        simp only [Bool.or_eq_false_iff, beq_eq_false_iff_ne, ne_eq] at hl
        exact (List.mem_erase_of_ne hl.2).2 (hmem j hj hl.1)
    have hs2 := hstep (wpAny P .any ops (fun e a' w' => ∃ st' E', Inv keep w' E' st' a' ∧ Evo keep w0 E0 w' E' ∧ e = .normal ∧ K st') fuel (listed.setIfInBounds i true)) (fun e a' w' => ∃ st' E', Inv keep w' E' st' a' ∧ Evo keep w0 E0 w' E' ∧ e = .normal ∧ K st') next
    unfold wpOp
    rw [ho]
    dsimp only
    split
    · rename_i hw; rw [if_pos hw] at hs2; exact .inl hs2
    · rename_i hw; rw [if_neg hw] at hs2; exact hs2

theorem Tr.draw {id : Nat} {Q : Exit → St → Prop} {Ds : List Nat} (hD0 : ∀ d ∈ Ds, Fresh st d) (hm : P.follows .mixedOrders = true) (hR : Rd P ops ops.toList st fs st') (hc : chk Ds ops fs = true) (hK : Q .normal st') : Tr P (.region id ops true) Q st := fun keep w E a hI => by
  have h0 : ∀ i, (Array.replicate ops.size false).getD i false = false := fun i => by
    rw [Array.getD_eq_getD_getElem?, Array.getElem?_replicate]; split <;> rfl
  refine wp_region_any hm ?_
  have := draw_core (K := fun st' => Q .normal st') (keep := keep) (w0 := w) (E0 := E) hD0 hR hc hK ops.size (Array.replicate ops.size false) st a { w with drawn := w.drawn + 1 } E (by simp) (fun j o _ hd => by have hd' := hd; simp only [h0] at hd'; cases hd') ⟨List.range ops.size, by simp, fun i hi _ => List.mem_range.2 hi⟩ hI.drew (Evo.drew _ _ _) ⟨rfl, fun d => ?_, fun t => ?_⟩
  · refine wpAny_mono' ?_ this
    rintro e a' w' ⟨st2, E2, h1, h2, rfl, h3⟩
    exact ⟨st2, E2, h1, h2, h3⟩
  · have := vT_stop (lk st.t) (wsT fs) (D := fun i => (Array.replicate ops.size false).getD i false) (d := d) (i := 0) fs.length (fun j _ _ hd => by rw [h0] at hd; cases hd)
    rw [Nat.zero_add] at this
    rw [this]; rfl
  · have := vT_stop (mI st) (wsM fs) (D := fun i => (Array.replicate ops.size false).getD i false) (d := t) (i := 0) fs.length (fun j _ _ hd => by rw [h0] at hd; cases hd)
    rw [Nat.zero_add] at this
    rw [this]; rfl
where
  wpOp_mono' {Q Q' : Exit → Act → World → Prop} {K K' : Act → World → Prop} (hq : ∀ e a w, Q e a w → Q' e a w) (hk : ∀ a w, K a w → K' a w) {i : Nat} {a : Act} {w : World} (h : wpOp P ops Q i K a w) : wpOp P ops Q' i K' a w := by
    unfold wpOp at h ⊢
    split at h
    · exact hk _ _ h
    · split at h
      · rename_i hw
        rw [if_pos hw]
        rcases h with h | ⟨h1, a0, w0, h2⟩
        · left
          unfold Oper.wp at h ⊢
          revert h
          generalize (execOp a.eval _).run P w = r
          intro h
          unfold Oper.upon at h ⊢
          split at h
          · exact hk _ _ h
          · exact hk _ _ h
          · exact hk _ _ h
          · refine Calls.mono h ?_
            intro e w' he
            cases e with
            | returned v => exact hk _ _ he
            | panicked c => exact hq _ _ _ he
            | outgrown => obtain ⟨a1, w1, h1⟩ := he; exact ⟨a1, w1, hq _ _ _ h1⟩
          · exact Rows.mono h fun v w' he => hk _ _ he
          · exact hq _ _ _ h
          · exact h.elim
        · exact .inr ⟨h1, a0, w0, hq _ _ _ h2⟩
      · rename_i hw
        rw [if_neg hw]
        exact hk _ _ h
  wpAny_mono' {Q Q' : Exit → Act → World → Prop} (hq : ∀ e a w, Q e a w → Q' e a w) : ∀ {fuel : Nat} {listed : Array Bool} {a : Act} {w : World}, wpAny P .any ops Q fuel listed a w → wpAny P .any ops Q' fuel listed a w
    | 0, _, _, _, h => ⟨h.1, hq _ _ _ h.2⟩
    | fuel + 1, _, _, _, h => ⟨fun hr => hq _ _ _ (h.1 hr), fun i hi => Tr.draw.wpOp_mono' hq (fun _ _ hk => Tr.draw.wpAny_mono' hq hk) (h.2 i hi)⟩
end
end Go.Proofs.Ytimllhflecippaa.Ab
end

section
namespace Go.Proofs.Ytimllhflecippaa.Ab
open Go.RowKit
set_option linter.unusedVariables false
set_option linter.unusedSimpArgs false

mutual
def AV.tags : AV → List Nat
  | .sv _ | .nil => []
  | .own t | .box t _ | .elt t _ _ | .sl t _ => [t]
  | .tup xs | .fnv _ xs | .agg xs => AV.tagsL xs
def AV.tagsL : List AV → List Nat
  | [] => []
  | x :: xs => AV.tags x ++ AV.tagsL xs
end
theorem holds_tags {t : Nat} : ∀ {X : AV}, X.holds t = true → t ∈ X.tags := by
  intro X
  refine AV.rec (motive_1 := fun X => X.holds t = true → t ∈ X.tags) (motive_2 := fun l => AV.holdsL t l = true → t ∈ AV.tagsL l) ?_ ?_ ?_ ?_ ?_ ?_ ?_ ?_ ?_ ?_ ?_ X
  · intro x h; simp [AV.holds] at h
  · intro h; simp [AV.holds] at h
  · intro s h; simp only [AV.holds, beq_iff_eq] at h; simp [AV.tags, h]
  · intro s o h; simp only [AV.holds, beq_iff_eq] at h; simp [AV.tags, h]
  · intro s i o h; simp only [AV.holds, beq_iff_eq] at h; simp [AV.tags, h]
  · intro xs ih h; simp only [AV.holds] at h; simp only [AV.tags]; exact ih h
  · intro f xs ih h; simp only [AV.holds] at h; simp only [AV.tags]; exact ih h
  · intro xs ih h; simp only [AV.holds] at h; simp only [AV.tags]; exact ih h
  · intro s n h; simp only [AV.holds, beq_iff_eq] at h; simp [AV.tags, h]
  · intro h; simp [AV.holdsL] at h
  · intro x xs ihx ihs h
    simp only [AV.holdsL, Bool.or_eq_true] at h
    simp only [AV.tagsL, List.mem_append]
    exact h.imp ihx ihs

section
variable {s st : St} {X Y : AV} {P : Program}
def Agr (s st : St) (X : AV) : Prop := ∀ t, X.holds t = true → lk s.m t = lk st.m t
theorem Agr.own {t : Nat} (h : Agr s st (.own t)) : lk s.m t = lk st.m t := h t (by simp [AV.holds])
theorem Agr.box {t o : Nat} (h : Agr s st (.box t o)) : lk s.m t = lk st.m t := h t (by simp [AV.holds])
theorem Agr.elt {t i o : Nat} (h : Agr s st (.elt t i o)) : lk s.m t = lk st.m t := h t (by simp [AV.holds])
theorem Agr.sl {t n : Nat} (h : Agr s st (.sl t n)) : lk s.m t = lk st.m t := h t (by simp [AV.holds])
theorem live_agr (h : Agr s st X) : X.live (lk s.m) = X.live (lk st.m) := by
  cases X <;> simp only [AV.live]
  · rw [h.own]
  · rw [h.box]
  · rw [h.elt]
  · rw [h.sl]
theorem liveL_agr : ∀ {l : List AV}, (∀ t, AV.holdsL t l = true → lk s.m t = lk st.m t) → l.all (AV.live (lk s.m)) = l.all (AV.live (lk st.m))
  | [], _ => rfl
  | x :: l, h => by
    simp only [List.all_cons]
    rw [live_agr (X := x) (fun t ht => h t (by simp [AV.holdsL, ht])), liveL_agr (fun t ht => h t (by simp [AV.holdsL, ht]))]
theorem cells_agr (h : Agr s st X) : X.cells (lk s.m) = X.cells (lk st.m) := by
  cases X <;> simp only [AV.cells]
  · rw [h.own]
  · rw [h.box]
  · rw [h.elt]
  · rw [liveL_agr (fun t ht => h t (by simpa only [AV.holds] using ht))]
  · rw [h.sl]
theorem ptrCells_agr (h : Agr s st X) : ptrCells s X = ptrCells st X := by
  cases X with
  | box t o => simp only [ptrCells]; rw [h.box]
  | elt t i o => simp only [ptrCells]; rw [h.elt]
  | sv x => cases x <;> rfl
  | _ => rfl
theorem ashift_agr (h : Agr s st X) (n : Nat) : ashift s n X = ashift st n X := by
  cases X with
  | box t o => simp only [ashift]; rw [h.box]
  | elt t i o => simp only [ashift]; rw [h.elt]
  | sv x => cases x <;> rfl
  | _ => rfl
theorem rowOf_agr (h : Agr s st X) : rowOf s X = rowOf st X := by
  cases X with
  | own t => simp only [rowOf]; rw [h.own]
  | sv x => cases x <;> rfl
  | _ => rfl
theorem astoreO_agr (h : Agr s st X) (k : Agr s st Y) (ty : TypeId) : astoreO P s ty X Y = astoreO P st ty X Y := by
  unfold astoreO
  rw [cells_agr k]
  cases X with
  | box t o => simp only; rw [h.box]
  | elt t i o => simp only; rw [h.elt]
  | _ => rfl
theorem caps1_agr : ∀ (l : List Operand), (∀ x ∈ l, aval s x = aval st x) → caps1 s l = caps1 st l
  | [], _ => rfl
  | x :: l, h => by simp only [caps1]; rw [h x List.mem_cons_self, caps1_agr l (fun y hy => h y (List.mem_cons_of_mem _ hy))]
theorem bnd_agr {z : Int} {y : Option Operand} (h : ∀ x ∈ y.toArray, aval s x = aval st x) : bnd s z y = bnd st z y := by
  cases y with
  | none => rfl
  | some y => simp only [bnd]; rw [h y (by simp)]
theorem dltB_agr {b : Builtin} {xs : List Operand} {ts : List TypeId} (hv : ∀ x ∈ xs, aval s x = aval st x) (hm : ∀ x ∈ xs, ∀ X, aval st x = some X → Agr s st X) : dltB P s b xs ts = dltB P st b xs ts := by
  unfold dltB
  split
  · rename_i x ty
    rw [hv x (by simp)]
    cases hX : aval st x with
    | none => rfl
    | some X =>
      have := rowOf_agr (hm x (by simp) X hX)
      cases X with
      | sv z => cases z <;> first | rfl | (rename_i v; cases v <;> first | rfl | (simp only; rw [this]))
      | own t => simp only; rw [this]
      | nil => rfl
      | box _ _ => rfl
      | elt _ _ _ => rfl
      | tup _ => rfl
      | fnv _ _ => rfl
      | agg _ => rfl
      | sl _ _ => rfl
  · rename_i x y t1 t2; rw [hv x (by simp), hv y (by simp)]
  · rename_i x y t1 t2; rw [hv x (by simp), hv y (by simp)]
  · rfl
theorem dlt_agr {o : Oper} (hv : ∀ x ∈ o.op.operands, aval s x = aval st x) (hm : ∀ x ∈ o.op.operands, ∀ X, aval st x = some X → Agr s st X) : dlt P o s = dlt P o st := by
  unfold dlt
  cases ho : o.op with
  | move x => simp only; rw [hv x (by simp [ho, Op.operands])]
  | assign x => simp only; rw [hv x (by simp [ho, Op.operands])]
  | pick c a b =>
    simp only
    have h1 := hv c (by simp [ho, Op.operands])
    have h2 := hv a (by simp [ho, Op.operands])
    have h3 := hv b (by simp [ho, Op.operands])
    unfold av0
    rw [h1, h2, h3]
  | load ty p =>
    simp only
    rw [hv p (by simp [ho, Op.operands])]
    cases hX : aval st p with
    | none => rfl
    | some X =>
      have : aload P s ty X = aload P st ty X := by unfold aload; rw [ptrCells_agr (hm p (by simp [ho, Op.operands]) X hX)]
      simp only [Option.bind_some]
      rw [this]
  | store ty p y =>
    simp only
    rw [hv p (by simp [ho, Op.operands]), hv y (by simp [ho, Op.operands])]
    cases hX : aval st p with
    | none => rfl
    | some X =>
      cases hY : aval st y with
      | none => rfl
      | some Y =>
        cases o.dst with
        | none => simp only; rw [astoreO_agr (hm p (by simp [ho, Op.operands]) X hX) (hm y (by simp [ho, Op.operands]) Y hY)]
        | some d => rfl
  | binOp op t x y ty => simp only; rw [hv x (by simp [ho, Op.operands]), hv y (by simp [ho, Op.operands])]
  | unOp op t x =>
    have := hv x (by simp [ho, Op.operands])
    cases op <;> simp only
    · rw [this]
    · rw [this]
  | convert a b x =>
    simp only
    rw [hv x (by simp [ho, Op.operands])]
    cases hX : aval st x with
    | none => rfl
    | some X =>
      have : convS P s a b X = convS P st a b X := by unfold convS; rw [rowOf_agr (hm x (by simp [ho, Op.operands]) X hX)]
      simp only [Option.bind_some]
      rw [this]
  | extract x i => simp only; rw [hv x (by simp [ho, Op.operands])]
  | fieldAddr ty x f =>
    simp only
    rw [hv x (by simp [ho, Op.operands])]
    cases hX : aval st x with
    | none => rfl
    | some X =>
      cases foff P ty f with
      | none => rfl
      | some n => simp only; rw [ashift_agr (hm x (by simp [ho, Op.operands]) X hX)]
  | nilCheck x =>
    simp only
    rw [hv x (by simp [ho, Op.operands])]
    cases hX : aval st x with
    | none => rfl
    | some X => simp only; rw [ashift_agr (hm x (by simp [ho, Op.operands]) X hX)]
  | indexAddr ty x y =>
    simp only
    rw [hv x (by simp [ho, Op.operands]), hv y (by simp [ho, Op.operands])]
    cases hX : aval st x with
    | none => rfl
    | some X =>
      have hag := hm x (by simp [ho, Op.operands]) X hX
      cases (aval st y).bind AV.int with
      | none => rfl
      | some p =>
        simp only
        unfold idxA
        cases X with
        | own t => simp only; rw [hag.own]
        | sl t n => simp only; rw [hag.sl]
        | sv z => cases z <;> rfl
        | box t o => simp only [ashift_agr hag]
        | elt t i o => simp only [ashift_agr hag]
        | _ => rfl
  | field ty x f => simp only; rw [hv x (by simp [ho, Op.operands])]
  | index ty x y => simp only; rw [hv x (by simp [ho, Op.operands]), hv y (by simp [ho, Op.operands])]
  | slice ty x lo hi mx =>
    cases mx with
    | some m => rfl
    | none =>
      simp only
      have h2 : ∀ z, bnd s z lo = bnd st z lo := fun z => bnd_agr (fun y hy => hv y (by simp only [ho, Op.operands]; simp only [Array.mem_append]; exact .inl (.inl (.inr hy))))
      have h3 : ∀ z, bnd s z hi = bnd st z hi := fun z => bnd_agr (fun y hy => hv y (by simp only [ho, Op.operands]; simp only [Array.mem_append]; exact .inl (.inr hy)))
      rw [hv x (by simp [ho, Op.operands])]
      simp only [h2, h3]
  | makeFunc fn first caps =>
    have := caps1_agr (s := s) (st := st) caps.toList (fun x hx => hv x (by simp only [ho, Op.operands, Array.mem_append]; exact .inr (by simpa using hx)))
    cases fn <;> simp only [this]
  | call c =>
    obtain ⟨callee, args, ts⟩ := c
    cases callee with
    | builtin b =>
      have h2 := dltB_agr (P := P) (b := b) (ts := ts.toList) (s := s) (st := st) (xs := args.toList) (fun x hx => hv x (by simp only [ho, Op.operands, Call.operands, Array.mem_append]; exact .inr (by simpa using hx))) (fun x hx => hm x (by simp only [ho, Op.operands, Call.operands, Array.mem_append]; exact .inr (by simpa using hx)))
      exact h2
    | _ => rfl
  | _ => rfl
end

def usesT (ops : Array Oper) (o : Oper) : List Nat :=
  (o.op.operands.toList.filterMap fun | .tmp d => some d | _ => none) ++ (match o.guard with
    | some (j, _) => ((ops[j]?).bind (·.dst)).toList
    | none => [])
def tagsAll (st : St) (l : List Operand) : List Nat := l.flatMap fun x => match aval st x with | some X => X.tags | none => []
/-- Places are told by kind and size alone. -/
def tagsW (st : St) (x : Operand) : List Nat := match aval st x with
  | some (.own _) | some (.box _ _) => []
  | some X => X.tags
  | none => []
def usesM (st : St) (o : Oper) : List Nat := match o.op with
  | .indexAddr _ x _ => tagsW st x
  | .fieldAddr _ x _ => tagsW st x
  | .move _ => []
  | .assign _ => []
  | op => tagsAll st op.operands.toList
/-- Tags whose kind and size are read. -/
def tagsS (st : St) (x : Operand) : List Nat := match aval st x with
  | some (.own t) | some (.box t _) => [t]
  | _ => []
def usesS (st : St) (o : Oper) : List Nat := match o.op with
  | .indexAddr _ x _ => tagsS st x
  | .fieldAddr _ x _ => tagsS st x
  | _ => []
def ftW (dst : Option Nat) (x : Option AV) : Option (Nat × AV) := match dst, x with | some d, some x => some (d, x) | _, _ => none
def ftM (m : Option (Nat × Obj')) : List (Nat × Option Obj') := match m with | some (k, o) => [(k, some o)] | none => []
def ftH (m : Option (Nat × Obj')) : List Nat := match m with | some (_, .box cs) => AV.tagsL cs | _ => []
theorem holdsL_tags {t : Nat} : ∀ {l : List AV}, AV.holdsL t l = true → t ∈ AV.tagsL l
  | [], h => by simp [AV.holdsL] at h
  | x :: xs, h => by
    simp only [AV.holdsL, Bool.or_eq_true] at h
    simp only [AV.tagsL, List.mem_append]
    exact h.imp holds_tags holdsL_tags
def ftD (ops : Array Oper) (o : Oper) (st : St) (d : Dl) : Ft := ⟨usesT ops o, usesM st o, usesS st o, ftW o.dst d.x, ftM d.m, none, false, ftH d.m⟩
section
variable {P : Program} {ops : Array Oper} {s st : St} {o : Oper}
theorem aval_agr (h : ∀ d ∈ usesT ops o, lk s.t d = lk st.t d) : ∀ x ∈ o.op.operands, aval s x = aval st x := fun x hx => by
  cases x with
  | tmp d =>
    refine h d ?_
    simp only [usesT, List.mem_append, List.mem_filterMap]
    exact .inl ⟨_, by simpa using hx, rfl⟩
  | _ => rfl
theorem agr_of (h : ∀ t ∈ tagsAll st o.op.operands.toList, lk s.m t = lk st.m t) : ∀ x ∈ o.op.operands, ∀ X, aval st x = some X → Agr s st X := fun x hx X hX t ht => by
  refine h t ?_
  simp only [tagsAll, List.mem_flatMap]
  exact ⟨x, by simpa using hx, by rw [hX]; exact holds_tags ht⟩
theorem grd_agr (h : ∀ d ∈ usesT ops o, lk s.t d = lk st.t d) : grd ops s o = grd ops st o := by
  unfold grd
  cases hg : o.guard with
  | none => rfl
  | some p =>
    obtain ⟨j, want⟩ := p
    simp only
    cases hd : (ops[j]?).bind (·.dst) with
    | none => rfl
    | some d =>
      simp only
      rw [h d (by simp [usesT, hg, hd])]
theorem app_upd (st : St) (d : Dl) (ops : Array Oper) (o : Oper) (s : St) : s.app o.dst d = s.upd (ftD ops o st d) := by
  obtain ⟨c, x, m⟩ := d
  unfold St.app St.upd ftD ftW upo ftM
  cases x with
  | none =>
    cases m with
    | none => cases o.dst <;> rfl
    | some p => cases o.dst <;> rfl
  | some x =>
    cases m with
    | none => cases o.dst <;> rfl
    | some p => cases o.dst <;> rfl
theorem astoreO_like {ty : TypeId} {X Y : AV} {t : Nat} {ob : Obj'} (h : astoreO P st ty X Y = some (t, ob)) : OLk (some ob) (lk st.m t) := by
  unfold astoreO at h
  split at h
  case h_2 => cases h
  split at h
  case isFalse => cases h
  split at h
  · split at h
    · rename_i cs hm
      split at h
      · rename_i hle
        simp only [Option.some.injEq, Prod.mk.injEq] at h
        obtain ⟨rfl, rfl⟩ := h
        rw [hm]
        exact setAt_length _ _ _ hle
      · cases h
    · cases h
  · split at h
    · rename_i k xs hm
      split at h
      · split at h
        · simp only [Option.some.injEq, Prod.mk.injEq] at h
          obtain ⟨rfl, rfl⟩ := h
          rw [hm]
          exact ⟨rfl, by simp⟩
        · cases h
      · cases h
    · cases h
  · cases h
theorem dlt_like {d : Dl} {t : Nat} {ob : Obj'} (h : dlt P o st = some d) (hm : d.m = some (t, ob)) : OLk (some ob) (lk st.m t) := by
  have key : ∀ {x : Option Dl}, x = some d → (∀ d', x = some d' → d'.m = none) → False := fun hx h0 => by
    rw [h0 d hx] at hm; cases hm
  unfold dlt at h
  split at h
  all_goals first
    | (rename_i ty p y _
       split at h
       · split at h
         · rename_i q hq
           split at h
           · simp only [Option.some.injEq] at h; subst h
             simp only [Option.some.injEq] at hm; subst hm
             exact astoreO_like hq
           · cases h
         · cases h
       · cases h)
    | (exfalso
       refine key h fun d' h' => ?_
       try simp only [dltB, idxA] at h'
       repeat' split at h'
       all_goals first | (cases h'; done) | (cases h'; rfl) | (obtain ⟨_, _, rfl⟩ := Option.map_eq_some_iff.1 h'; rfl))
theorem ashift_like {n : Nat} {t off : Nat} (h : OLk (lk s.m t) (lk st.m t)) : ashift s n (.box t off) = ashift st n (.box t off) := by
  simp only [ashift]
  cases h1 : lk s.m t with
  | none => rw [h1] at h; cases h2 : lk st.m t with
    | none => rfl
    | some b => rw [h2] at h; exact h.elim
  | some a => rw [h1] at h; cases h2 : lk st.m t with
    | none => rw [h2] at h; cases a <;> exact h.elim
    | some b => rw [h2] at h; cases a <;> cases b <;> first | rfl | exact h.elim
theorem tagsW_agr {x : Operand} {X : AV} (h : ∀ t ∈ tagsW st x, lk s.m t = lk st.m t) (hX : aval st x = some X) (ho : ∀ t, X ≠ .own t) (hb : ∀ t o, X ≠ .box t o) : Agr s st X := fun t ht => by
  refine h t ?_
  unfold tagsW
  rw [hX]
  cases X with
  | own t => exact (ho t rfl).elim
  | box t o => exact (hb t o rfl).elim
  | _ => exact holds_tags ht
theorem dlt_agr' (hT : ∀ x ∈ o.op.operands, aval s x = aval st x) (hM : ∀ t ∈ usesM st o, lk s.m t = lk st.m t) (hL : ∀ t ∈ usesS st o, OLk (lk s.m t) (lk st.m t)) : dlt P o s = dlt P o st := by
  cases ho : o.op with
  | indexAddr ty x y =>
    have hx := hT x (by simp [ho, Op.operands])
    have hy := hT y (by simp [ho, Op.operands])
    simp only [usesM, ho] at hM
    unfold dlt
    rw [ho]
    simp only
    rw [hx, hy]
    cases hX : aval st x with
    | none => rfl
    | some X =>
      cases hY : (aval st y).bind AV.int with
      | none => rfl
      | some p =>
        simp only
        have hother : (∀ t, X ≠ .own t) → (∀ t o, X ≠ .box t o) → idxA P s ty X p.2 = idxA P st ty X p.2 := fun h1 h2 => by
          have hag := tagsW_agr hM hX h1 h2
          unfold idxA
          cases X with
          | own t => exact (h1 t rfl).elim
          | sl t n => simp only; rw [hag.sl]
          | sv z => cases z <;> rfl
          | box t o => exact (h2 t o rfl).elim
          | elt t i o => simp only [ashift_agr hag]
          | _ => rfl
        cases X with
        | own t =>
          simp only [idxA]
          have h := hL t (by simp [usesS, tagsS, ho, hX])
          cases h1 : lk s.m t with
          | none => rw [h1] at h; cases h2 : lk st.m t with
            | none => rfl
            | some b => rw [h2] at h; exact h.elim
          | some a => rw [h1] at h; cases h2 : lk st.m t with
            | none => rw [h2] at h; cases a <;> exact h.elim
            | some b =>
              rw [h2] at h
              cases a with
              | row k xs => cases b with
                | row k' ys => obtain ⟨rfl, hl⟩ := h; cases selem P ty with
                  | none => rfl
                  | some e => simp only [hl]
                | box _ => exact h.elim
              | box _ => cases b with
                | row _ _ => exact h.elim
                | box _ => cases selem P ty <;> rfl
        | box t off => simp only [idxA]; cases aelem P ty with
          | none => rfl
          | some q => simp only [ashift_like (hL t (by simp [usesS, tagsS, ho, hX]))]
        | _ => exact hother (fun _ h => by cases h) (fun _ _ h => by cases h)
  | fieldAddr ty x f =>
    have hx := hT x (by simp [ho, Op.operands])
    simp only [usesM, ho] at hM
    unfold dlt
    rw [ho]
    simp only
    rw [hx]
    cases hX : aval st x with
    | none => rfl
    | some X =>
      cases foff P ty f with
      | none => rfl
      | some n =>
        simp only
        cases X with
        | own t => simp only [ashift]
        | box t off => rw [ashift_like (hL t (by simp [usesS, tagsS, ho, hX]))]
        | _ => rw [ashift_agr (tagsW_agr hM hX (fun _ h => by cases h) (fun _ _ h => by cases h))]
  | move x => unfold dlt; rw [ho]; simp only; rw [hT x (by simp [ho, Op.operands])]
  | assign x => unfold dlt; rw [ho]; simp only; rw [hT x (by simp [ho, Op.operands])]
  | _ => exact dlt_agr hT (agr_of (s := s) (st := st) (o := o) (by rw [ho]; simpa only [usesM, ho] using hM))
theorem loc_dlt {d : Dl} (hg : grd ops st o = some true) (hd : dlt P o st = some d) (hc : d.c) (hf : st.fitsDst o.dst = true) : LocT P ops o st (ftD ops o st d) := ⟨⟨fun _ t x hw => (by
    simp only [ftD, ftM] at hw
    split at hw
    · rename_i k ob hm
      simp only [lk] at hw
      split at hw
      · rename_i e; subst e
        simp only [Option.some.injEq] at hw; subst hw
        exact dlt_like hd hm
      · cases hw
    · cases hw), fun t cs hw d' hh => (by
    simp only [ftD, ftM] at hw
    split at hw
    · rename_i k ob hm
      simp only [lk] at hw
      split at hw
      · simp only [Option.some.injEq] at hw; subst hw
        simp only [ftD, ftH, hm]
        exact holdsL_tags hh
      · cases hw
    · cases hw)⟩, fun s hn hT hM hL _ keep w E a hI N Q hN => by
  have hg' : grd ops s o = some true := by rw [grd_agr hT]; exact hg
  rw [if_pos (grd_run hI hg')]
  have hd' : dlt P o s = some d := by rw [dlt_agr' (aval_agr hT) hM hL]; exact hd
  have := dlt_does hd' hc (by
    cases hdst : o.dst with
    | none => rfl
    | some k => rw [hdst] at hf; simpa [St.fitsDst, hn] using hf)
  rw [app_upd st d ops o] at this
  exact this.wp hI hN⟩
theorem loc_skip (hg : grd ops st o = some false) (hf : st.fitsDst o.dst = true) : LocT P ops o st ⟨usesT ops o, [], [], ftW o.dst (some (.sv (.val undef))), [], none, false, []⟩ := ⟨⟨fun _ t x hw => (by cases hw), fun t cs hw => (by cases hw)⟩, fun s hn hT hM hL _ keep w E a hI N Q hN => by
  have hg' : grd ops s o = some false := by rw [grd_agr hT]; exact hg
  rw [if_neg (by rw [grd_run hI hg']; simp)]
  refine hN _ w E ?_ (Evo.refl _ _ _)
  have := hI.put (dst := o.dst) (x := .sv (.val undef)) (v := undef) (by
    cases hdst : o.dst with
    | none => rfl
    | some k => rw [hdst] at hf; simpa [St.fitsDst, hn] using hf) (RepV.val_mk _)
  have e : s.put o.dst (.sv (.val undef)) = s.upd ⟨usesT ops o, [], [], ftW o.dst (some (.sv (.val undef))), [], none, false, []⟩ := by
    unfold St.put St.upd ftW upo upm
    cases o.dst <;> rfl
  rwa [e] at this⟩

theorem argv_agr : ∀ (l : List Operand), (∀ x ∈ l, aval s x = aval st x) → (∀ x ∈ l, ∀ X, aval st x = some X → Agr s st X) → argv s l = argv st l
  | [], _, _ => rfl
  | x :: l, h, k => by
    simp only [argv]
    rw [h x List.mem_cons_self, argv_agr l (fun y hy => h y (List.mem_cons_of_mem _ hy)) (fun y hy => k y (List.mem_cons_of_mem _ hy))]
    cases hX : aval st x with
    | none => rfl
    | some X =>
      have : X.arg (lk s.m) = X.arg (lk st.m) := arg_agr (k x List.mem_cons_self X hX)
      simp only [Option.bind_some, this]
where
  arg_agr : ∀ {X : AV}, Agr s st X → X.arg (lk s.m) = X.arg (lk st.m) := by
    intro X
    refine AV.rec (motive_1 := fun X => Agr s st X → X.arg (lk s.m) = X.arg (lk st.m)) (motive_2 := fun l => (∀ t, AV.holdsL t l = true → lk s.m t = lk st.m t) → AV.argL (lk s.m) l = AV.argL (lk st.m) l) ?_ ?_ ?_ ?_ ?_ ?_ ?_ ?_ ?_ ?_ ?_ X
    · intro x _; rfl
    · intro _; rfl
    · intro t h; simp only [AV.arg]; rw [h.own]
    · intro t o h; simp only [AV.arg]; rw [h.box]
    · intro t i o h; rfl
    · intro xs _ h; rfl
    · intro f xs ih h; simp only [AV.arg]; rw [ih (fun t ht => h t (by simpa only [AV.holds] using ht))]
    · intro xs _ h; rfl
    · intro t n h; rfl
    · intro _; rfl
    · intro x xs ihx ihs h
      simp only [AV.argL]
      rw [ihx (fun t ht => h t (by simp [AV.holdsL, ht])), ihs (fun t ht => h t (by simp [AV.holdsL, ht]))]
theorem argS_agr : ∀ (l : List Operand), (∀ x ∈ l, aval s x = aval st x) → argS s l = argS st l
  | [], _ => rfl
  | x :: l, h => by simp only [argS]; rw [h x List.mem_cons_self, argS_agr l (fun y hy => h y (List.mem_cons_of_mem _ hy))]
end

/-- Results that are shared alone: they make no tag. -/
def R1.shared : R1 → Bool
  | .own _ _ => false
  | _ => true
theorem impM_shared {f : Nat → Nat} : ∀ (rs : List R1) (i : Nat) (m : List (Nat × Obj')), rs.all R1.shared = true → impM f i rs m = m
  | [], _, _, _ => rfl
  | .sv _ :: rs, i, m, h => by simp only [impM]; exact impM_shared rs (i + 1) m (by simpa [R1.shared] using h)
  | .nil :: rs, i, m, h => by simp only [impM]; exact impM_shared rs (i + 1) m (by simpa [R1.shared] using h)
  | .own _ _ :: rs, i, m, h => by simp [R1.shared] at h
theorem impF_shared {f : Nat → Nat} {st : St} : ∀ (rs : List R1) (i : Nat), rs.all R1.shared = true → impF st f i rs = true
  | [], _, _ => rfl
  | .sv _ :: rs, i, h => by simp only [impF]; exact impF_shared rs (i + 1) (by simpa [R1.shared] using h)
  | .nil :: rs, i, h => by simp only [impF]; exact impF_shared rs (i + 1) (by simpa [R1.shared] using h)
  | .own _ _ :: rs, i, h => by simp [R1.shared] at h

section
variable {P : Program} {ops : Array Oper} {st : St} {o : Oper}
theorem loc_call {f : FuncId} {xs : Array Operand} {ts : Array TypeId} {ys : List SV} {r : RV} (lent : Bool) (hg : grd ops st o = some true) (ho : o.op = .call { callee := .value (.func f), args := xs, argTypes := ts })
    (ha : (if lent = true then argv st xs.toList else argS st xs.toList) = some ys) (hc : ACalls P f ys (· = r)) (hl : lent = true → r.flat) (hs : r.comps.all R1.shared = true) (hf : st.fitsDst o.dst = true) :
    LocT P ops o st ⟨usesT ops o, usesM st o, [], ftW o.dst (some (r.av (tagf (o.dst.getD 0)))), [], none, false, []⟩ := ⟨⟨fun _ t x hw => (by cases hw), fun t cs hw => (by cases hw)⟩, fun s hn hT hM hL _ keep w E a hI N Q hN => by
  have hg' : grd ops s o = some true := by rw [grd_agr hT]; exact hg
  have hv := aval_agr hT
  have hm := agr_of (s := s) (st := st) (o := o) (by rw [ho]; simpa only [usesM, ho] using hM)
  have hops : ∀ x ∈ xs.toList, x ∈ o.op.operands := fun x hx => by
    simp only [ho, Op.operands, Call.operands, Array.mem_append]; exact .inr (by simpa using hx)
  have ha' : (if lent = true then argv s xs.toList else argS s xs.toList) = some ys := by
    rw [argv_agr xs.toList (fun x hx => hv x (hops x hx)) (fun x hx => hm x (hops x hx)), argS_agr xs.toList (fun x hx => hv x (hops x hx))]
    exact ha
  -- through the call by hand: what is behind it is N
  rw [if_pos (grd_run hI hg')]
  have key : ∀ N' : Act → World → Prop, (∀ a' w' E', Inv keep w' E' (s.imp o.dst r) a' → Evo keep w E w' E' → N' a' w') → o.wp P a w N' Q := fun N' hN' => by
    obtain ⟨g', hc1, hc2⟩ := hc
    cases lent with
    | true =>
      have hcall := hc2 w (· < w.heap.size) (xs.map a.eval) ⟨fun b h => h, hI.okl.gw.keep fun b hb => ⟨hI.okl b hb, rfl⟩⟩ (by simpa using argv_rep hI (by simpa using ha'))
      have hrun : (execOp a.eval o).run P w = .ok (.enter g' (xs.map a.eval)) w := by
        unfold execOp
        rw [ho]
        simp [resolve, Deferred.ofValue, Act.eval, invoke, hc1]
      unfold Oper.wp
      rw [hrun, Oper.upon_enter]
      refine hcall.mono ?_
      rintro e w' ⟨r', vs, E1, rfl, rfl, h1, h2⟩
      obtain ⟨E2, q1, q2⟩ := hI.import h1 h2 (dst := o.dst) (by
        cases hdst : o.dst with
        | none => rfl
        | some d =>
          rw [hdst] at hf
          simp only [St.fitsDst, decide_eq_true_eq] at hf
          simp [St.impFresh, impF_shared _ _ hs, hn, hf]) (.inr (hl rfl))
      exact hN' _ _ E2 q1 q2
    | false =>
      have hcall := hc2 w E.ok (xs.map a.eval) hI.okl (by simpa using argS_rep hI (by simpa using ha'))
      have hrun : (execOp a.eval o).run P w = .ok (.enter g' (xs.map a.eval)) w := by
        unfold execOp
        rw [ho]
        simp [resolve, Deferred.ofValue, Act.eval, invoke, hc1]
      unfold Oper.wp
      rw [hrun, Oper.upon_enter]
      refine hcall.mono ?_
      rintro e w' ⟨r', vs, E1, rfl, rfl, h1, h2⟩
      obtain ⟨E2, q1, q2⟩ := hI.import h1 h2 (dst := o.dst) (by
        cases hdst : o.dst with
        | none => rfl
        | some d =>
          rw [hdst] at hf
          simp only [St.fitsDst, decide_eq_true_eq] at hf
          simp [St.impFresh, impF_shared _ _ hs, hn, hf]) (.inl fun b h => h)
      exact hN' _ _ E2 q1 q2
  refine key N fun a' w' E' h1 h2 => hN a' w' E' ?_ h2
  have e : s.imp o.dst r = s.upd ⟨usesT ops o, usesM st o, [], ftW o.dst (some (r.av (tagf (o.dst.getD 0)))), [], none, false, []⟩ := by
    unfold St.imp St.upd ftW upo upm
    cases o.dst with
    | none => rfl
    | some d => simp [impM_shared _ _ _ hs]
  rwa [e] at h1⟩
end

def RdK (P : Program) (Q : Exit → St → Prop) (D : List Nat) (ops : Array Oper) (l : List Oper) (fs : List Ft) (k : List Fr) (st : St) : Prop :=
  ∃ fs' st', Rd P ops l st fs' st' ∧ chk D ops (fs.reverse ++ fs') = true ∧ kq P Q k .normal st'
def OpD (P : Program) (Q : Exit → St → Prop) (D : List Nat) (ops : Array Oper) (o : Oper) (l : List Oper) (fs : List Ft) (k : List Fr) (st : St) : Prop := RdK P Q D ops (o :: l) fs k st
mutual
def rd (P : Program) (Q : Exit → St → Prop) (D : List Nat) (ops : Array Oper) (l : List Oper) (fs : List Ft) (k : List Fr) (st : St) : Prop :=
  match l with
  | [] => chk D ops fs.reverse = true ∧ nr P Q k st
  | o :: l => match grd ops st o with
    | some b => gdd P Q D b ops o l fs k st
    | none => False
  termination_by (2 * l.length)
  decreasing_by
  all_goals simp only [List.length_cons]
  all_goals omega
def gdd (P : Program) (Q : Exit → St → Prop) (D : List Nat) (b : Bool) (ops : Array Oper) (o : Oper) (l : List Oper) (fs : List Ft) (k : List Fr) (st : St) : Prop :=
  match b with
  | true => match dlt P o st with
      | some d => (d.c ∧ st.fitsDst o.dst = true) ∧ rd P Q D ops l (ftD ops o st d :: fs) k (st.app o.dst d)
      | none => OpD P Q D ops o l fs k st
  | false => st.fitsDst o.dst = true ∧ rd P Q D ops l (⟨usesT ops o, [], [], ftW o.dst (some (.sv (.val undef))), [], none, false, []⟩ :: fs) k (st.put o.dst (.sv (.val undef)))
  termination_by (2 * l.length + 1)
end
theorem rd_sound {P : Program} {Q : Exit → St → Prop} {D : List Nat} {ops : Array Oper} {k : List Fr} : ∀ (l : List Oper) (fs : List Ft) (st : St), rd P Q D ops l fs k st → RdK P Q D ops l fs k st
  | [], fs, st, h => by
    simp only [rd] at h
    exact ⟨[], st, .nil st, by simpa using h.1, (run_sound (ksz k + 1)).2.1 k st (by omega) h.2⟩
  | o :: l, fs, st, h => by
    simp only [rd] at h
    split at h
    case h_2 => exact h.elim
    rename_i b hg
    cases b with
    | true =>
      simp only [gdd] at h
      split at h
      · rename_i d hd
        obtain ⟨fs', st', h1, h2, h3⟩ := rd_sound l _ _ h.2
        rw [app_upd st d ops o] at h1
        exact ⟨_ :: fs', st', .cons (loc_dlt hg hd h.1.1 h.1.2) h1, by simpa using h2, h3⟩
      · exact h
    | false =>
      simp only [gdd] at h
      obtain ⟨fs', st', h1, h2, h3⟩ := rd_sound l _ _ h.2
      have e : st.put o.dst (.sv (.val undef)) = st.upd ⟨usesT ops o, [], [], ftW o.dst (some (.sv (.val undef))), [], none, false, []⟩ := by
        unfold St.put St.upd ftW upo upm
        cases o.dst <;> rfl
      rw [e] at h1
      exact ⟨_ :: fs', st', .cons (loc_skip hg h.1) h1, by simpa using h2, h3⟩
theorem DrawW.rd {P : Program} {Q : Exit → St → Prop} {id : Nat} {ops : Array Oper} {k : List Fr} {st : St} (hm : P.follows .mixedOrders = true) (h : Ab.rd P Q [] ops ops.toList [] k st) : DrawW P Q id ops k st := by
  obtain ⟨fs', st', h1, h2, h3⟩ := rd_sound _ _ _ h
  exact Tr.draw (Ds := []) (fun d hd => by cases hd) hm h1 (by simpa using h2) h3
/-- A call within. -/
theorem OpD.call {P : Program} {Q : Exit → St → Prop} {D : List Nat} {ops : Array Oper} {o : Oper} {l : List Oper} {fs : List Ft} {k : List Fr} {st : St} {f : FuncId} {xs : Array Operand} {ts : Array TypeId} {ys : List SV} {r : RV} (lent : Bool)
    (hc : ACalls P f ys (· = r)) (ho : o.op = .call { callee := .value (.func f), args := xs, argTypes := ts }) (hg : grd ops st o = some true)
    (ha : (if lent = true then argv st xs.toList else argS st xs.toList) = some ys) (hl : lent = true → r.flat) (hs : r.comps.all R1.shared = true) (hf : st.fitsDst o.dst = true)
    (h : Ab.rd P Q D ops l (⟨usesT ops o, usesM st o, [], ftW o.dst (some (r.av (tagf (o.dst.getD 0)))), [], none, false, []⟩ :: fs) k (st.put o.dst (r.av (tagf (o.dst.getD 0))))) : OpD P Q D ops o l fs k st := by
  obtain ⟨fs', st', h1, h2, h3⟩ := rd_sound _ _ _ h
  have e : st.put o.dst (r.av (tagf (o.dst.getD 0))) = st.upd ⟨usesT ops o, usesM st o, [], ftW o.dst (some (r.av (tagf (o.dst.getD 0)))), [], none, false, []⟩ := by
    unfold St.put St.upd ftW upo upm
    cases o.dst <;> rfl
  rw [e] at h1
  exact ⟨_ :: fs', st', .cons (loc_call lent hg ho ha hc hl hs hf) h1, by simpa using h2, h3⟩
/-- A call, in a region that draws nothing. -/
theorem OpW.call {P : Program} {Q : Exit → St → Prop} {ops : Array Oper} {o : Oper} {l : List Oper} {k : List Fr} {st : St} {f : Operand} {xs : Array Operand} {ts : Array TypeId} {g : FuncId} {caps ys : List SV} {R : RV → Prop} (lent : Bool)
    (hc : ACalls P g (ys ++ caps) R) (ho : o.op = .call { callee := .value f, args := xs, argTypes := ts }) (hg : grd ops st o = some true) (hf : calle st lent f = some (g, caps))
    (ha : (if lent = true then argv st xs.toList else argS st xs.toList) = some ys) (hl : lent = true → ∀ r, R r → r.flat) (h : ∀ r, R r → st.impFresh o.dst r = true ∧ Ab.rn P Q ops l k (st.imp o.dst r)) : OpW P Q ops o l k st :=
  Rn.call lent hg ho hf ha hc hl fun r hr => ⟨(h r hr).1, RnK.rn (h r hr).2⟩
/-- A call of a function by its name. -/
theorem OpW.fn {P : Program} {Q : Exit → St → Prop} {ops : Array Oper} {o : Oper} {l : List Oper} {k : List Fr} {st : St} {f : FuncId} {xs : Array Operand} {ts : Array TypeId} {ys : List SV} {R : RV → Prop} (lent : Bool)
    (hc : ACalls P f ys R) (ho : o.op = .call { callee := .value (.func f), args := xs, argTypes := ts }) (hg : grd ops st o = some true)
    (ha : (if lent = true then argv st xs.toList else argS st xs.toList) = some ys) (hl : lent = true → ∀ r, R r → r.flat) (h : ∀ r, R r → st.impFresh o.dst r = true ∧ Ab.rn P Q ops l k (st.imp o.dst r)) : OpW P Q ops o l k st :=
  OpW.call (caps := []) lent (by simpa using hc) ho hg rfl ha hl h
end Go.Proofs.Ytimllhflecippaa.Ab
end

section
namespace Go.Proofs.Ytimllhflecippaa.Ab
open Go.RowKit
attribute [go_sem] fbin ex nr rn gd cnd rd gdd lk up rm mapv popTo St.put St.app St.imp St.fitsDst St.fresh St.held St.impFresh aval avC svC av0 dlt dltB binv ibin ishift beq2 aeq ceqk convk convS byteS idxA bnd aload ptrCells ashift rowOf astoreO AV.int AV.bool AV.cells AV.svs AV.one AV.elem AV.holds AV.holdsL SV.cells SV.solid SV.one SV.fits SV.withCells setAt apart crt crtA aparts afill acells zeroSV caps1 argv argS AV.arg AV.argL calle tagf R1.av RV.av RV.comps RV.flat R1.flat SV.flat SV.flatL impM impT impF R1.shared ftD ftW ftM ftH usesT usesM usesS tagsS tagsW tagsAll AV.tags AV.tagsL AV.live params resAV toR1 ownIn toR mkRV retv bodyQ_ret kx loopQ Op.operands Call.operands St.freeze St.rename AV.frz AV.frzL Obj'.frz AV.ren AV.renL Obj'.ren
def gval (x : Option AV) (want : Bool) : Option Bool :=
  match x with
  | some (.sv (.val (.bool b))) => some (b == want)
  | some (.sv (.val _)) => some false
  | _ => none
theorem grd_eq (ops : Array Oper) (st : St) (o : Oper) : grd ops st o = match o.guard with
    | none => some true
    | some (j, want) => match (ops[j]?).bind (·.dst) with
      | some d => gval (lk st.t d) want
      | none => none := rfl
theorem gval_bool (b want : Bool) : gval (some (.sv (.val (.bool b)))) want = some (b == want) := rfl
theorem gval_undef (want : Bool) : gval (some (.sv (.val undef))) want = some false := rfl
attribute [go_sem] grd_eq gval_bool gval_undef
theorem go_t2 {α : Type} (a : α) (l : List α) : (a :: l)[0]? = some a := rfl
theorem go_t3 {α : Type} (a : α) (l : List α) (i : Nat) : (a :: l)[i + 1]? = l[i]? := rfl
attribute [go_sem] go_t2 go_t3
attribute [go_sem] Bool.false_eq_true if_true if_false Option.map_some Option.map_none Option.bind_some Option.bind_none Option.getD_some Option.getD_none true_and and_true decide_eq_true_eq List.any_cons List.any_nil List.all_cons List.all_nil Bool.or_false Bool.false_or Bool.or_true Bool.true_or Bool.and_true Bool.true_and Bool.and_false Bool.false_and Bool.not_false Bool.not_true Option.isNone_none Option.isNone_some Nat.zero_add List.map_cons List.map_nil List.length_cons List.length_nil beq_self_eq_true List.cons_append List.nil_append List.append_nil List.take_zero List.drop_zero List.take_succ_cons List.drop_succ_cons List.take_nil List.drop_nil List.length_map List.head?_cons List.headD_cons List.filterMap_cons List.filterMap_nil List.flatMap_cons List.flatMap_nil List.reverse_cons List.reverse_nil List.contains_cons List.contains_nil Option.toList_some Option.toList_none eq_self List.length_append List.set_cons_zero List.set_cons_succ List.replicate_succ List.replicate_zero
theorem i64w (x : Int) (h0 : -9223372036854775808 ≤ x) (h1 : x ≤ 9223372036854775807) : IntKind.i64.wrap x = x := by rw [IntKind.wrap_i64]; omega
attribute [go_sem] i64w
/-- What a state tells, told again. -/
def leT (st : St) : List (Nat × AV) → Prop
  | [] => True
  | (d, x) :: l => lk st.t d = some x ∧ leT st l
def leM (st : St) : List (Nat × Obj') → Prop
  | [] => True
  | (d, x) :: l => lk st.m d = some x ∧ leM st l
theorem leT_get {st : St} : ∀ {l : List (Nat × AV)} {d : Nat} {x : AV}, leT st l → lk l d = some x → lk st.t d = some x
  | [], d, x, _, h => by simp [lk] at h
  | (k, y) :: l, d, x, hl, h => by
    simp only [lk] at h
    split at h
    · rename_i e; subst e; simp only [Option.some.injEq] at h; subst h; exact hl.1
    · exact leT_get hl.2 h
theorem leM_get {st : St} : ∀ {l : List (Nat × Obj')} {d : Nat} {x : Obj'}, leM st l → lk l d = some x → lk st.m d = some x
  | [], d, x, _, h => by simp [lk] at h
  | (k, y) :: l, d, x, hl, h => by
    simp only [lk] at h
    split at h
    · rename_i e; subst e; simp only [Option.some.injEq] at h; subst h; exact hl.1
    · exact leM_get hl.2 h
theorem Ent.chk {a b : St} (h : a.n = b.n ∧ leT a b.t ∧ leM a b.m) : Ent a b := Ent.le ⟨h.1, fun _ _ => leT_get h.2.1, fun _ _ => leM_get h.2.2⟩
attribute [go_sem] leT leM Value.oneCell'
/-- Numbers as values; lists of them. -/
def iv (n : Int) : SV := .val (.int .i64 n)
def bv (b : Bool) : SV := .val (.bool b)
attribute [go_sem] iv bv
attribute [go_sem] b8
end Go.Proofs.Ytimllhflecippaa.Ab
end

section
namespace Go.Proofs.Ytimllhflecippaa.Ab
open Go.RowKit
set_option linter.unusedVariables false
set_option linter.unusedSimpArgs false

def R1.shr : R1 → R1
  | .sv x => .sv x
  | .nil => .sv (.lst [])
  | .own _ xs => .sv (.lst xs)
def RV.shr : RV → RV
  | .one r => .one r.shr
  | .many rs => .many (rs.map R1.shr)
theorem Ent.nilS {st : St} {d : Nat} (hd : lk st.t d = some .nil) : Ent st { st with t := up st.t d (.sv (.lst [])) } := fun keep w E a hI => by
  refine ⟨E, ⟨hI.df, hI.sz, fun e x hx => ?_, hI.mm, hI.inj, hI.own, hI.okl, hI.kpl⟩, Evo.refl _ _ _⟩
  simp only [lk_up] at hx
  split at hx
  · rename_i e'; subst e'
    simp only [Option.some.injEq] at hx; subst hx
    obtain ⟨v, h1, h2⟩ := hI.tm d _ hd
    refine ⟨v, h1, ?_⟩
    simp only [RepV] at h2; subst h2
    simp only [RepV, RepS]
    exact ⟨none, 0, rfl, by simp, by simp⟩
  · exact hI.tm e x hx
theorem cst_lkt (rs : List R1) (j : Nat) : lk (cst rs).t j = (rs[j]?).map (R1.av j) := by
  have := ent1_get (f := id) rs 0 j
  simpa [cst] using this
theorem cst_lkm (rs : List R1) (t : Nat) : lk (cst rs).m t = match rs[t]? with | some (.own sz xs) => some (.row sz xs) | _ => none := by
  rcases impM_lk (f := id) (fun i j h => h) rs 0 [] t with ⟨j, sz, xs, h1, h2, h3⟩ | ⟨h1, h2⟩
  · have : t = j := by simpa using h2
    subst this
    rw [h1]; exact h3
  · show lk (impM id 0 rs []) t = _
    rw [h2]
    cases hr : rs[t]? with
    | none => rfl
    | some r => cases r with
      | own sz xs => exact (h1 t sz xs hr (by simp)).elim
      | _ => rfl
theorem Ent.shr1 (rs1 rs2 : List R1) (r : R1) : Ent (cst (rs1 ++ r :: rs2)) (cst (rs1 ++ r.shr :: rs2)) := by
  have hget : ∀ (q : R1) (j : Nat), (rs1 ++ q :: rs2)[j]? = if j = rs1.length then some q else (rs1 ++ r :: rs2)[j]? := fun q j => by
    by_cases h : j < rs1.length
    · rw [List.getElem?_append_left h, if_neg (by omega), List.getElem?_append_left h]
    · rw [List.getElem?_append_right (by omega)]
      by_cases h2 : j = rs1.length
      · subst h2; simp
      · rw [if_neg h2, List.getElem?_append_right (by omega)]
        obtain ⟨k, hk⟩ : ∃ k, j - rs1.length = k + 1 := ⟨j - rs1.length - 1, by omega⟩
        rw [hk]; rfl
  have hlen : ∀ q : R1, (rs1 ++ q :: rs2).length = (rs1 ++ r :: rs2).length := fun q => by simp
  cases r with
  | sv x => exact Ent.refl _
  | nil =>
    refine (Ent.nilS (d := rs1.length) (by rw [cst_lkt]; simp [R1.av])).trans (Ent.le ⟨(hlen _).symm, fun d x hx => ?_, fun t o ho => ?_⟩)
    · rw [cst_lkt, hget] at hx
      rw [lk_up]
      split at hx
      · rename_i e; subst e; simpa [R1.shr, R1.av] using hx
      · rename_i e; rw [if_neg (Ne.symm e), cst_lkt]; exact hx
    · rw [cst_lkm, hget] at ho
      rw [cst_lkm]
      split at ho
      · rename_i h1
        split at h1
        · simp [R1.shr] at h1
        · rw [h1]; exact ho
      · cases ho
  | own sz xs =>
    have hm : lk (cst (rs1 ++ .own sz xs :: rs2)).m rs1.length = some (.row sz xs) := by rw [cst_lkm]; simp
    refine Ent.freeze rs1.length (Ent.le ⟨?_, fun d x hx => ?_, fun t o ho => ?_⟩)
    · unfold St.freeze; rw [hm]; exact (hlen _).symm
    · unfold St.freeze; rw [hm]
      simp only [lk_mapv]
      rw [cst_lkt, hget] at hx
      rw [cst_lkt]
      split at hx
      · rename_i e; subst e
        simp only [Option.map_some, R1.shr, R1.av, Option.some.injEq] at hx; subst hx
        simp [R1.av, AV.frz]
      · rename_i e
        cases hj : (rs1 ++ R1.own sz xs :: rs2)[d]? with
        | none => rw [hj] at hx; cases hx
        | some q =>
          rw [hj] at hx
          simp only [Option.map_some, Option.some.injEq] at hx ⊢; subst hx
          cases q with
          | own sz' xs' => simp [R1.av, AV.frz, e]
          | _ => simp [R1.av, AV.frz]
    · unfold St.freeze; rw [hm]
      simp only [lk_mapv, lk_rm]
      rw [cst_lkm, hget] at ho
      split at ho
      · rename_i h1
        split at h1
        · simp [R1.shr] at h1
        · rename_i e
          rw [if_neg (Ne.symm e), cst_lkm, h1]
          simpa [Obj'.frz] using ho
      · cases ho
theorem Ent.shr (rs1 : List R1) : ∀ rs2 : List R1, Ent (cst (rs1 ++ rs2)) (cst (rs1 ++ rs2.map R1.shr))
  | [] => Ent.refl _
  | r :: rs2 => by
    refine (Ent.shr1 rs1 rs2 r).trans ?_
    have := Ent.shr (rs1 ++ [r.shr]) rs2
    simpa using this
theorem RV.shr_comps (r : RV) : r.shr.comps = r.comps.map R1.shr := by cases r <;> rfl
theorem RV.shr_val (r : RV) (vs : List Value) : r.shr.val vs = r.val vs := by cases r <;> rfl
/-- What is returned may be taken as shared. -/
theorem ACalls.shr {P : Program} {g : FuncId} {args : List SV} {R : RV → Prop} (h : ACalls P g args R) : ACalls P g args (fun r' => ∃ r, R r ∧ r' = r.shr) := by
  obtain ⟨g', h1, h2⟩ := h
  refine ⟨g', h1, fun w ok cargs k1 k2 => (h2 w ok cargs k1 k2).mono ?_⟩
  rintro e w' ⟨r, vs, E1, q1, q2, q3, q4⟩
  obtain ⟨E2, p1, p2⟩ := Ent.shr [] r.comps _ _ _ _ q3
  refine ⟨r.shr, vs, E2, ⟨r, q1, rfl⟩, by rw [RV.shr_val]; exact q2, ?_, ⟨(q4.trans p2).os, (q4.trans p2).tape, (q4.trans p2).output, (q4.trans p2).size, (q4.trans p2).kp, (q4.trans p2).oks, (q4.trans p2).new, fun _ _ => rfl, (q4.trans p2).drawn⟩⟩
  rw [RV.shr_comps]; exact p1
/-- A contract, by the function's body; the results shared. -/
theorem ACalls.of_bodyS {P : Program} {g : FuncId} {fn : Func} {c : Code} {args : List SV} {R : RV → Prop} (hcall : ∀ (cargs : Array Value) (w : World), (callFunc g cargs).run P w = .ok (.enter g cargs) w) (hf : P.funcs[g]? = some fn) (hb : fn.body = some c) {n : Nat} (hn : fn.ntmps = n) (hle : args.length ≤ n)
    (h : Tr P c (bodyQ P fn fun r => R r.shr) { n := n, t := params 0 args, m := [] }) : ACalls P g args R :=
  (ACalls.of_body hcall hf hb hn hle h).shr.mono fun r' ⟨r, h1, h2⟩ => h2 ▸ h1
theorem shr_one (r : R1) : (RV.one r).shr = .one r.shr := rfl
theorem shr_many (rs : List R1) : (RV.many rs).shr = .many (rs.map R1.shr) := rfl
theorem shr_sv (x : SV) : (R1.sv x).shr = .sv x := rfl
theorem shr_nil : R1.nil.shr = .sv (.lst []) := rfl
theorem shr_own (k : Nat) (xs : List SV) : (R1.own k xs).shr = .sv (.lst xs) := rfl
attribute [go_sem] shr_one shr_many shr_sv shr_nil shr_own
/-- What held a tag is forgotten. -/
def St.dropT (st : St) (t : Nat) : St := { st with t := mapv (fun x => if AV.holds t x = true then .sv .any else x) st.t }
theorem Ent.dropT (st : St) (t : Nat) : Ent st (st.dropT t) := fun keep w E a hI => by
  refine ⟨E, ⟨hI.df, hI.sz, fun e x hx => ?_, hI.mm, hI.inj, hI.own, hI.okl, hI.kpl⟩, Evo.refl _ _ _⟩
  simp only [St.dropT, lk_mapv] at hx
  cases hl : lk st.t e with
  | none => rw [hl] at hx; cases hx
  | some y =>
    rw [hl] at hx
    simp only [Option.map_some, Option.some.injEq] at hx; subst hx
    obtain ⟨v, h1, h2⟩ := hI.tm e _ hl
    refine ⟨v, h1, ?_⟩
    split
    · simp only [RepV, RepS]
    · exact h2
theorem Ent.rename2 {a b : St} (t t' : Nat) (hf : (a.dropT t').fresh t' = true) (h : Ent ((a.dropT t').rename t t') b) : Ent a b := (Ent.dropT a t').trans (Ent.rename t t' hf h)
attribute [go_sem] St.dropT AV.holds AV.holdsL
theorem gE {α : Type} {l : List α} {k : Nat} {x : α} (h : l[k]? = some x) : ∀ hk, l[k]'hk = x := fun hk => by
  rw [List.getElem?_eq_getElem hk] at h
  exact Option.some.inj h
end Go.Proofs.Ytimllhflecippaa.Ab
end

section
namespace Go.Proofs.Ytimllhflecippaa.Ab
open Go.RowKit
set_option linter.unusedVariables false
set_option linter.unusedSimpArgs false

section
variable {kp kq : Nat → Prop} {w w' : World} {E E1 : Env} {st : St} {a : Act}
end

section
variable {kp : Nat → Prop} {w : World} {E : Env} {st : St} {a : Act}
variable {P : Program} {ops : Array Oper} {l : List Oper} {K : St → Prop} {o : Oper}
end

section
variable {kp : Nat → Prop} {w w' : World} {E E' : Env} {st st' : St} {a a' : Act} {P : Program} {fn : Func}
end
attribute [go_sem] AV.svs
end Go.Proofs.Ytimllhflecippaa.Ab
end

section
namespace Go.Proofs.Ytimllhflecippaa.Ab
open Go.RowKit Go.ChangeShapes Go.WideShapes
set_option linter.unusedVariables false
set_option linter.unusedSimpArgs false

/-- Cells that are a value of so many cells. -/
def RepC (W : World) (x : SV) (cs : List Value) : Prop := ∃ u : Value, u.cells.toList = cs ∧ RepS W (· < W.heap.size) x u
/-- Reading a value of type t (cells cs) gives f y, for a y of which G holds. -/
def Opens (P : Program) (t : TypeId) {α : Type} (f : α → SV) (G : α → Prop) : Prop :=
  0 < P.cellsOf t ∧ ∀ {H : Type} (enc : TypeId × Value → H) (W : World) (held : Bool) (fuel : Nat) (cs : List Value) (x : DataW H × List MemPlace),
    DataW.trod enc P W 0 (fun _ => true) held fuel t cs = some x → (∀ n ∈ x.1.weights P t, n ≤ reachBytes) → ∃ y, cs.length = P.cellsOf t ∧ RepC W (f y) cs ∧ G y

theorem opens_int {P : Program} {t : TypeId} {k : IntKind} (ht : P.underlying t = some (.int k)) (hc : P.cellsOf t = 1) : Opens P t (fun n => .val (.int k n)) (fun x => (Lit.int k x).wf = true) :=
  ⟨by omega, fun enc W held fuel cs x h _ => by
    obtain ⟨n, rfl, _, hw⟩ := DataW.trod_int ht h
    exact ⟨n, by simp [hc], ⟨.int k n, by simp [Value.cells], by simp only [RepS]⟩, hw⟩⟩
theorem weightsAll_mem {H : Type} {P : Program} {e : TypeId} : ∀ {l : List (DataW H)} {d : DataW H}, d ∈ l → ∀ n ∈ d.weights P e, n ∈ DataW.weightsAll P e l
  | [], _, h, _, _ => by cases h
  | a :: l, d, h, n, hn => by
    simp only [DataW.weightsAll, List.mem_append]
    rcases List.mem_cons.1 h with rfl | h
    · exact .inl hn
    · exact .inr (weightsAll_mem h n hn)
theorem pick {α : Type} {R : Nat → α → Prop} : ∀ (n : Nat), (∀ i, i < n → ∃ y, R i y) → ∃ l : List α, l.length = n ∧ ∀ i y, l[i]? = some y → R i y
  | 0, _ => ⟨[], rfl, fun i y h => by simp at h⟩
  | n + 1, h => by
    obtain ⟨l, hl, hr⟩ := pick n (fun i hi => h i (by omega))
    obtain ⟨y, hy⟩ := h n (by omega)
    refine ⟨l ++ [y], by simp [hl], fun i z hz => ?_⟩
    rcases Nat.lt_or_ge i l.length with hi | hi
    · rw [List.getElem?_append_left hi] at hz
      exact hr i z hz
    · rw [List.getElem?_append_right hi] at hz
      have : i - l.length = 0 := by
        rcases Nat.eq_zero_or_pos (i - l.length) with h0 | h0
        · exact h0
        · rw [List.getElem?_eq_none (by simp; omega)] at hz; cases hz
      rw [this] at hz
      simp only [List.getElem?_cons_zero, Option.some.injEq] at hz
      subst hz
      rw [show i = n by omega]
      exact hy
/-- Two lists beside each other. -/
theorem pick2 {α β : Type} {R : Nat → α → β → Prop} (n : Nat) (h : ∀ i, i < n → ∃ y z, R i y z) : ∃ (l : List α) (m : List β), l.length = n ∧ m.length = n ∧ ∀ i y z, l[i]? = some y → m[i]? = some z → R i y z := by
  obtain ⟨p, hp, hr⟩ := pick (R := fun i (q : α × β) => R i q.1 q.2) n (fun i hi => let ⟨y, z, h⟩ := h i hi; ⟨(y, z), h⟩)
  refine ⟨p.map (·.1), p.map (·.2), by simp [hp], by simp [hp], fun i y z hy hz => ?_⟩
  rw [List.getElem?_map] at hy hz
  obtain ⟨q, hq, rfl⟩ := Option.map_eq_some_iff.1 hy
  rw [hq] at hz
  simp at hz; subst hz
  exact hr i q hq

theorem opens_slice {P : Program} {t e : TypeId} {α : Type} {f : α → SV} {G : α → Prop} (B : Nat) (ht : P.underlying t = some (.slice e)) (hc : P.cellsOf t = 1) (hB : P.bytesOf e = B) (he : Opens P e f G) :
    Opens P t (fun l : List α => .lst (l.map f)) (fun xs => xs.length * B ≤ 140737488351232 ∧ xs.length ≤ maxLen ∧ ∀ x ∈ xs, G x) :=
  ⟨by omega, fun enc W held fuel cs x h hz => by
    rcases DataW.trod_slice ht h with ⟨rfl, rfl⟩ | ⟨a, len, cap, elems, rest, n, _, rfl, rfl, hb, hl, hm, hlen, hel, hsp, hns⟩
    · exact ⟨[], by simp [hc], ⟨.slice none 0 0, by simp [Value.cells], by simp [RepS]⟩, by simp, by simp, by simp⟩
    have wz : (elems.length + rest.length) * P.bytesOf e ≤ reachBytes := by
      have := hz ((elems.length + rest.length) * P.bytesOf e) (by simp [DataW.weights, ht])
      exact this
    have key : ∀ i, i < len → ∃ (y : α) (u : Value), (RepS W (· < W.heap.size) (f y) u ∧ u.cells.size = P.cellsOf e ∧ ∀ j z, u.cells[j]? = some z → W.cell? (a.add (i * P.cellsOf e + j)) = some z) ∧ G y := by
      intro i hi
      have h1 := hel i hi
      have hi2 : i < elems.length := by omega
      rw [List.getElem?_eq_getElem hi2] at h1
      obtain ⟨c, hc1, hc2⟩ := Option.bind_eq_some_iff.1 h1
      obtain ⟨_, hcl, hcell⟩ := World.cells?_some hc1
      obtain ⟨y, hy0, ⟨u, hu, hr⟩, hg⟩ := he.2 enc W held n c _ hc2 (fun m hm2 => hz m (by
        simp only [DataW.weights, ht]
        refine List.mem_cons_of_mem _ (List.mem_append_left _ (weightsAll_mem (d := elems[i].1) ?_ m hm2))
        exact List.mem_map.2 ⟨_, List.getElem_mem hi2, rfl⟩))
      refine ⟨y, u, ⟨hr, by rw [← Array.length_toList, hu, hy0], fun j z hz' => ?_⟩, hg⟩
      have hj : j < c.length := by rw [← hu, Array.length_toList]; exact (Array.getElem?_eq_some_iff.1 hz').1
      rw [← Go.Deep.add_add a, hcell j (by omega)]
      have : c[j]? = some z := by rw [← hu]; simpa using hz'
      exact this
    obtain ⟨l, us, hll, hul, hlr⟩ := pick2 len key
    have hsz : (a.block < W.heap.size) ∨ len = 0 := by
      rcases Nat.eq_zero_or_pos len with h0 | h0
      · exact .inr h0
      · left
        obtain ⟨⟨_, h2, h3⟩, _⟩ := hlr 0 l[0] us[0] (List.getElem?_eq_getElem (by omega)) (List.getElem?_eq_getElem (by omega))
        have hpos := he.1
        have := h3 0 _ (Array.getElem?_eq_getElem (by omega))
        have h4 := World.block_lt_of_cell? W _ this
        rwa [add_block] at h4
    refine ⟨l, by simp [hc], ⟨.slice (some a) len cap, by simp [Value.cells], ?_⟩, ?_, by rw [hll]; omega, fun y hy => ?_⟩
    · simp only [RepS]
      refine ⟨some a, cap, by simp [hll], by simp [hll]; omega, ?_⟩
      rcases hsz with hsz | h0
      · refine .inr ⟨a, P.cellsOf e, us, rfl, hsz, RepL.of (by simp [hll, hul]) (fun i x v hx hv => ?_), fun i u hu => ?_⟩
        · rw [List.getElem?_map] at hx
          obtain ⟨y, hy, rfl⟩ := Option.map_eq_some_iff.1 hx
          exact (hlr i y v hy hv).1.1
        · have hi : i < l.length := by rw [hll, ← hul]; exact (List.getElem?_eq_some_iff.1 hu).1
          obtain ⟨⟨_, h2, h3⟩, _⟩ := hlr i _ u (List.getElem?_eq_getElem hi) hu
          refine ⟨h2, fun j y hy => ?_⟩
          rw [Go.Deep.add_add]
          exact h3 j y hy
      · left; simp; exact List.eq_nil_of_length_eq_zero (by omega)
    · rw [hll, ← hlen]
      rw [hB] at wz
      exact Nat.le_trans (Nat.mul_le_mul_right _ (Nat.le_add_right _ _)) wz
    · obtain ⟨i, hi⟩ := List.getElem?_of_mem hy
      have hi2 : i < us.length := by rw [hul, ← hll]; exact (List.getElem?_eq_some_iff.1 hi).1
      exact (hlr i y _ hi (List.getElem?_eq_getElem hi2)).2⟩

/-- Fields one behind the other, from a place on: their leaves. -/
def OpensF (P : Program) (fs : List Field) (off : Nat) {α : Type} (f : α → List SV) (G : α → Prop) : Prop :=
  ∀ (H : Type) (enc : TypeId × Value → H) (W : World) (held : Bool) (fuel : Nat) (cs : List Value) (xs : List (DataW H × List MemPlace)),
    xs.length = fs.length → (∀ (i : Nat) (f : Field), fs[i]? = some f → DataW.trod enc P W 0 (fun _ => true) held fuel f.type ((cs.drop f.offset).take (P.cellsOf f.type)) = xs[i]?) →
    (∀ n ∈ DataW.weightsEach P (fs.map (·.type)) (xs.map (·.1)), n ≤ reachBytes) → ∃ y us, us = (cs.drop off).take us.length ∧ us.length = (fs.map (fun f => P.cellsOf f.type)).sum ∧ RepL W (· < W.heap.size) (f y) us ∧ G y
theorem opensF_nil {P : Program} {off : Nat} : OpensF P [] off (fun _ : Unit => []) (fun _ => True) := fun H enc W held fuel cs xs hx hr hz => ⟨(), [], by simp, rfl, RepL.nil, trivial⟩
theorem opensF_cons {P : Program} {f : Field} {fs : List Field} {off off' : Nat} {α β : Type} {g : α → SV} {h : β → List SV} {G : α → Prop} {G' : β → Prop} (ho : f.offset = off) (hs : ∀ y, (g y).solid = true) (h1 : Opens P f.type g G) (ho' : off' = off + P.cellsOf f.type) (h2 : OpensF P fs off' h G') :
    OpensF P (f :: fs) off (fun p : α × β => (g p.1).cells ++ h p.2) (fun p => G p.1 ∧ G' p.2) := by
  intro H enc W held fuel cs xs hx hr hz
  match xs, hx with
  | x :: xs, hx =>
    have h0 := hr 0 f rfl
    rw [ho] at h0
    obtain ⟨y, hl, ⟨u, hu, hrep⟩, hg⟩ := h1.2 enc W held fuel _ x h0 (fun n hn => hz n (by simp [DataW.weightsEach, hn]))
    obtain ⟨z, us, hus, hul, hru, hg'⟩ := h2 H enc W held fuel cs xs (by simpa using hx) (fun i f' hf => hr (i + 1) f' (by simpa using hf)) (fun n hn => hz n (by simp only [List.map_cons, DataW.weightsEach, List.mem_append]; exact .inr hn))
    subst ho'
    refine ⟨(y, z), u.cells.toList ++ us, ?_, ?_, (RepS.cells (hs y) hrep).append hru, hg, hg'⟩
    · have hlu : u.cells.toList.length = P.cellsOf f.type := by rw [hu]; exact hl
      rw [List.length_append, hlu, List.take_add, List.drop_drop, ← hus, ← hu]
    · have hlu : u.cells.toList.length = P.cellsOf f.type := by rw [hu]; exact hl
      rw [List.length_append, hlu, hul]
      simp
theorem opens_struct {P : Program} {t : TypeId} {fs : List Field} {α β : Type} {h : α → List SV} {G : α → Prop} {f : β → SV} (g : α → β) (hfg : ∀ x, f (g x) = .agg (h x)) (G' : β → Prop) (hG : ∀ x, G x → G' (g x)) (ht : P.underlying t = some (.struct fs.toArray)) (hsum : (fs.map (fun f => P.cellsOf f.type)).sum = P.cellsOf t) (hpos : 0 < P.cellsOf t) (hF : OpensF P fs 0 h G) :
    Opens P t f G' :=
  ⟨hpos, fun enc W held fuel cs x hx hz => by
    obtain ⟨xs, n, _, rfl, hl, hxl, hr⟩ := DataW.trod_struct ht hx
    obtain ⟨y, us, hus, hul, hrep, hg⟩ := hF _ enc W held n cs xs (by simpa using hxl) (fun i f hf => hr i f (by simpa using hf)) (fun m hm => hz m (by simp only [DataW.weights, ht, List.toList_toArray]; exact hm))
    rw [List.drop_zero, hul, hsum, List.take_of_length_le (by omega)] at hus
    subst hus
    exact ⟨g y, hl, ⟨.agg us.toArray, by simp [Value.cells], by rw [hfg]; simp only [RepS]; exact ⟨_, rfl, hrep⟩⟩, hG y hg⟩⟩

/-- A law's parameter. -/
theorem open_param {P : Program} {t : TypeId} {α : Type} {f : α → SV} {G : α → Prop} (ho : Opens P t f G) {H : Type} {enc : TypeId × Value → H} {W : World} {held : Bool} {v : Value} {x : DataW H} {ps : List MemPlace} {ts : List TypeId} {ds : List (DataW H)} {j : Nat}
    (hv : v.oneCell' = true ∨ ∃ cs, v = .agg cs) (hagg : ∀ y, (∃ xs, f y = .agg xs) ↔ ∃ cs, v = .agg cs) (hsol : ∀ y, (f y).solid = true)
    (hsz : (DataW.weightsEach P ts ds).all (· ≤ reachBytes) = true) (ht : ts[j]? = some t) (hd : ds[j]? = some x) (h : DataW.Trod enc P W 0 (fun _ => true) held t v x ps) : ∃ y, RepS W (· < W.heap.size) (f y) v ∧ G y := by
  obtain ⟨fuel, hf⟩ := h
  obtain ⟨y, hl, ⟨u, hu, hr⟩, hg⟩ := ho.2 enc W held fuel _ _ hf (fun n hn => by
    have := List.all_eq_true.1 hsz _ (DataW.weights_mem_each ht hd n hn)
    simpa using this)
  refine ⟨y, ?_, hg⟩
  have hu' : u.cells = v.cells := by
    apply Array.toList_inj.1
    rw [hu]
  have : u = v := by
    rcases hv with hv | ⟨cs, rfl⟩
    · rw [cells_one hv] at hu'
      have hna : ¬ ∃ cs, v = .agg cs := by rintro ⟨cs, rfl⟩; cases hv
      have h1 : u.oneCell' = true := by
        have hnx := mt (hagg y).1 hna
        cases hfy : f y with
        | any => have := hsol y; rw [hfy] at this; cases this
        | val w => rw [hfy] at hr; simp only [RepS] at hr; subst hr; have := hsol y; rw [hfy] at this; exact this
        | agg xs => exact (hnx ⟨xs, hfy⟩).elim
        | lst xs => rw [hfy] at hr; simp only [RepS] at hr; obtain ⟨_, _, rfl, _⟩ := hr; rfl
        | ref x o => rw [hfy] at hr; simp only [RepS] at hr; obtain ⟨_, _, rfl, _⟩ := hr; rfl
        | fn g xs => rw [hfy] at hr; simp only [RepS] at hr; obtain ⟨_, rfl, _⟩ := hr; rfl
      rw [cells_one h1] at hu'
      simpa using hu'
    · obtain ⟨xs, hxs⟩ := (hagg y).2 ⟨cs, rfl⟩
      rw [hxs] at hr
      simp only [RepS] at hr
      obtain ⟨ds, rfl, _⟩ := hr
      simp only [Value.cells] at hu'
      rw [hu']
  exact this ▸ hr

/-- From the contract of a law to the machine's words. -/
theorem law_calls {P : Program} {g : FuncId} {args : List SV} {R : RV → Prop} (h : ACalls P g args R) (hg : ∀ (cargs : Array Value) (w : World), (callFunc g cargs).run P w = .ok (.enter g cargs) w) (hR : ∀ r, R r → r = .one (.sv (bv true))) {W : World} {cargs : Array Value} (hW : GW W (· < W.heap.size)) (hargs : RepL W (· < W.heap.size) args cargs.toList) :
    Calls P g cargs W fun e W' => e = .returned (.bool true) ∧ Below W.heap.size W W' := by
  obtain ⟨g', h1, h2⟩ := h
  have e : g' = g := by
    have := (h1 #[] W).symm.trans (hg #[] W)
    simp only [Result.ok.injEq, Next.enter.injEq] at this
    exact this.1.1
  subst e
  refine (h2 W (· < W.heap.size) cargs ⟨fun b h => h, hW⟩ hargs).mono ?_
  rintro e W' ⟨r, vs, E1, hr, rfl, hI, hE⟩
  have := hR r hr
  subst this
  refine ⟨?_, ⟨hE.os, hE.tape, hE.output, hE.size, hE.kp⟩⟩
  obtain ⟨v, k1, k2⟩ := hI.tm 0 (.sv (bv true)) rfl
  have hv : v = .bool true := by simpa only [RepV, bv, RepS] using k2
  subst hv
  cases vs with
  | nil => simp at k1
  | cons u us => simp at k1; subst k1; rfl
end Go.Proofs.Ytimllhflecippaa.Ab
end

section
namespace Go.Proofs.Ytimllhflecippaa.Ab
open Go.RowKit
set_option linter.unusedVariables false
set_option linter.unusedSimpArgs false

/-- What is owned is shared from here on. -/
theorem OpW.frz {P : Program} {Q : Exit → St → Prop} {ops : Array Oper} {l : List Oper} {k : List Fr} {o : Oper} {st : St} (t : Nat) (h : OpW P Q ops o l k (st.freeze t)) : OpW P Q ops o l k st := Rn.freeze t h
section
variable {w w' : World} {ok : Nat → Prop}
end
end Go.Proofs.Ytimllhflecippaa.Ab
end

section
namespace Go.Proofs.Ytimllhflecippaa.Ab
open Go.RowKit Go.Proofs.YtimllhflecippaaW.PrintWords Go.Proofs.YtimllhflecippaaW.PrintMore
set_option linter.unusedVariables false
set_option linter.unusedSimpArgs false

theorem addr_add (a : Addr) (m n : Nat) : (a.add m).add n = a.add (m + n) := by
  cases a with
  | mk b o s => by_cases hm : m = 0 <;> by_cases hn : n = 0 <;> simp [Addr.add, hm, hn, Nat.add_assoc]

/-- What the results are, and that nothing that was has turned. -/
theorem ACalls.ofBelow {P : Program} {g g' : FuncId} {args : List SV} {R : RV → Prop} (hcall : ∀ (cargs : Array Value) (w : World), (callFunc g cargs).run P w = .ok (.enter g' cargs) w)
    (h : ∀ (w : World) (ok : Nat → Prop) (cargs : Array Value), RepL w ok args cargs.toList → Calls P g' cargs w fun e w' => Below w.heap.size w w' ∧ ∃ (r : RV) (vs : List Value), R r ∧ e = .returned (r.val vs) ∧ (∀ c ∈ r.comps, ∃ x, c = .sv x) ∧ vs.length = r.comps.length ∧
      ∀ (j : Nat) (x : SV) (v : Value), r.comps[j]? = some (.sv x) → vs[j]? = some v → RepS w' (fun b => ok b ∨ w.heap.size ≤ b ∧ b < w'.heap.size) x v) : ACalls P g args R := by
  refine ⟨g', hcall, fun w ok cargs hok hargs => (h w ok cargs hargs).mono ?_⟩
  rintro e w' ⟨hb, r, vs, hR, rfl, hsv, hl, hr⟩
  have hm : impM id 0 r.comps [] = [] := by
    have : ∀ (rs : List R1) (i : Nat) (m : List (Nat × Obj')), (∀ c ∈ rs, ∃ x, c = R1.sv x) → impM id i rs m = m := by
      intro rs
      induction rs with
      | nil => intros; rfl
      | cons c rs ih =>
        intro i m hc
        obtain ⟨x, rfl⟩ := hc c List.mem_cons_self
        simp only [impM]
        exact ih _ _ (fun c hc' => hc c (List.mem_cons_of_mem _ hc'))
    exact this _ _ _ hsv
  have hk : ∀ b, ok b → (ok b ∨ w.heap.size ≤ b ∧ b < w'.heap.size) ∧ w'.heap[b]? = w.heap[b]? := fun b hb' => ⟨.inl hb', hb.block b (hok b hb')⟩
  refine ⟨r, vs, ⟨fun b => ok b ∨ w.heap.size ≤ b ∧ b < w'.heap.size, fun _ => none⟩, hR, rfl, ⟨rfl, by simp [cst, hl], fun d x hx => ?_, fun t o ho => by simp [cst, hm, lk] at ho, fun t t' o o' g c s c' s' k1 => by simp [cst, hm, lk] at k1, fun t o g c s k1 => by simp [cst, hm, lk] at k1, ⟨fun b hb' => ?_, hok.gw.keep hk⟩, fun b hb' => Nat.lt_of_lt_of_le hb' hb.size⟩,
    ⟨hb.os, hb.tape, hb.output, hb.size, fun b hb' => hb.block b hb', fun b hb' => hk b hb', fun b hb' => ?_, fun _ _ => rfl, fun hd => False.elim hd⟩⟩
  · have hx' : lk (ent1 id 0 r.comps) d = some x := hx
    have := ent1_get (f := id) r.comps 0 d
    rw [Nat.zero_add] at this
    rw [this] at hx'
    cases hc : r.comps[d]? with
    | none => rw [hc] at hx'; cases hx'
    | some c =>
      obtain ⟨y, rfl⟩ := hsv c (List.mem_of_getElem? hc)
      rw [hc] at hx'
      simp only [Option.map_some, R1.av, Option.some.injEq] at hx'
      subst hx'
      have hd : d < vs.length := by rw [hl]; exact (List.getElem?_eq_some_iff.1 hc).1
      refine ⟨vs[d], by simp [hd], ?_⟩
      simp only [RepV]
      exact hr d y _ hc (List.getElem?_eq_getElem hd)
  · rcases hb' with hb' | hb'
    · exact Nat.lt_of_lt_of_le (hok b hb') hb.size
    · exact hb'.2
  · rcases hb' with hb' | hb'
    · exact .inl hb'
    · exact .inr (Nat.not_lt.2 hb'.1)
theorem ACalls.ofBelow1 {P : Program} {g g' : FuncId} {args : List SV} {x : SV} (hcall : ∀ (cargs : Array Value) (w : World), (callFunc g cargs).run P w = .ok (.enter g' cargs) w)
    (h : ∀ (w : World) (ok : Nat → Prop) (cargs : Array Value), RepL w ok args cargs.toList → Calls P g' cargs w fun e w' => Below w.heap.size w w' ∧ ∃ v, e = .returned v ∧ RepS w' (fun b => ok b ∨ w.heap.size ≤ b ∧ b < w'.heap.size) x v) : ACalls P g args (· = .one (.sv x)) :=
  ACalls.ofBelow hcall fun w ok cargs hr => (h w ok cargs hr).mono fun e w' ⟨hb, v, he, hx⟩ => ⟨hb, .one (.sv x), [v], rfl, he, by simp [RV.comps], rfl, fun j y u hy hu => by
    cases j with
    | zero => simp [RV.comps] at hy hu; subst hy; subst hu; exact hx
    | succ j => simp [RV.comps] at hy⟩
theorem ACalls.ofBelow2 {P : Program} {g g' : FuncId} {args : List SV} {x y : SV} (hcall : ∀ (cargs : Array Value) (w : World), (callFunc g cargs).run P w = .ok (.enter g' cargs) w)
    (h : ∀ (w : World) (ok : Nat → Prop) (cargs : Array Value), RepL w ok args cargs.toList → Calls P g' cargs w fun e w' => Below w.heap.size w w' ∧ ∃ v u, e = .returned (.tuple #[v, u]) ∧ RepS w' (fun b => ok b ∨ w.heap.size ≤ b ∧ b < w'.heap.size) x v ∧ RepS w' (fun b => ok b ∨ w.heap.size ≤ b ∧ b < w'.heap.size) y u) : ACalls P g args (· = .many [.sv x, .sv y]) :=
  ACalls.ofBelow hcall fun w ok cargs hr => (h w ok cargs hr).mono fun e w' ⟨hb, v, u, he, hx, hy⟩ => ⟨hb, .many [.sv x, .sv y], [v, u], rfl, he, by simp [RV.comps], rfl, fun j z t hz ht => by
    match j, hz, ht with
    | 0, hz, ht => simp [RV.comps] at hz ht; subst hz; subst ht; exact hx
    | 1, hz, ht => simp [RV.comps] at hz ht; subst hz; subst ht; exact hy
    | j + 2, hz, _ => simp [RV.comps] at hz⟩

theorem rd_lst {α : Type} {d : Kd α} {f : α → SV} {w : World} {ok : Nat → Prop} {xs : List α} {v : Value} (hn : xs.length ≤ 9223372036854775807)
    (hd : ∀ x ∈ xs, ∀ u, RepS w ok (f x) u → d.K w x u.cells.toList) (h : RepS w ok (.lst (xs.map f)) v) : ∃ A c, v = .slice A xs.length c ∧ xs.length ≤ c ∧ d.C w A xs.length xs := by
  simp only [RepS, List.length_map] at h
  obtain ⟨a, c, rfl, hc, h⟩ := h
  refine ⟨a, c, rfl, hc, rfl, hn, fun h0 => ?_⟩
  rcases h with h | ⟨ad, sz, vs, rfl, ho, hr, hat⟩
  · simp at h; subst h; simp at h0
  · refine ⟨ad, rfl, fun j p hj => ?_⟩
    obtain ⟨u, hu, hx⟩ := hr.at (i := j) (x := f p) (by simp [hj])
    have hk := hd p (List.mem_of_getElem? hj) u hx
    have hl := d.K_len hk
    obtain ⟨h1, h2⟩ := hat j u hu
    have hs : sz = d.sz := by rw [← h1, ← hl]; simp
    subst hs
    refine ⟨u.cells.toList, hl, hk, fun i y hy => ?_⟩
    have := h2 i y (by simpa using hy)
    rwa [addr_add] at this
def stV (s : F.S45) : SV := .agg [.val (.int .i64 s.f0), .val (.int .i64 s.f1)]
abbrev prV (p : List F.S45) : SV := .lst (p.map stV)
abbrev poolV (l : List (List F.S45)) : SV := .lst (l.map prV)
abbrev intsV (l : List Int) : SV := .lst (l.map fun n => .val (.int .i64 n))
theorem rd_st {w : World} {ok : Nat → Prop} (s : F.S45) (u : Value) (h : RepS w ok (stV s) u) : F.k45.K w s u.cells.toList := by
  simp only [stV, RepS, RepL] at h
  obtain ⟨cs, rfl, v, vs, hcs, rfl, v2, vs2, rfl, rfl, rfl⟩ := h
  have : (Value.agg cs).cells.toList = [.int .i64 s.f0, .int .i64 s.f1] := by simpa [Value.cells] using hcs
  rw [this]
  exact ⟨_, _, rfl, rfl, rfl⟩
theorem rd_pr {w : World} {ok : Nat → Prop} {p : List F.S45} {v : Value} (hn : p.length ≤ 9223372036854775807) (h : RepS w ok (prV p) v) : ∃ A c, v = .slice A p.length c ∧ p.length ≤ c ∧ F.k45.C w A p.length p :=
  rd_lst hn (fun x _ u hu => rd_st x u hu) h
theorem rd_pool {w : World} {ok : Nat → Prop} {l : List (List F.S45)} {v : Value} (hn : l.length ≤ 9223372036854775807) (hm : ∀ p ∈ l, p.length ≤ 9223372036854775807) (h : RepS w ok (poolV l) v) :
    ∃ A c, v = .slice A l.length c ∧ l.length ≤ c ∧ (Kd.slice 45 F.k45).C w A l.length l :=
  rd_lst hn (fun x hx u hu => by
    obtain ⟨A, c, rfl, hc, hC⟩ := rd_pr (hm x hx) hu
    exact ⟨A, c, by simp [Value.cells], hc, hC⟩) h
theorem rd_ints {w : World} {ok : Nat → Prop} {l : List Int} {v : Value} (hn : l.length ≤ 9223372036854775807) (h : RepS w ok (intsV l) v) : ∃ A c, v = .slice A l.length c ∧ l.length ≤ c ∧ (Kd.int .i64).C w A l.length l :=
  rd_lst hn (fun x _ u hu => by
    simp only [RepS] at hu
    subst hu
    rfl) h

theorem list_pick {α β : Type} {Q : Nat → α → β → Prop} : ∀ (xs : List α) (n : Nat), (∀ j x, xs[j]? = some x → ∃ u, Q (n + j) x u) → ∃ us : List β, us.length = xs.length ∧ ∀ j x u, xs[j]? = some x → us[j]? = some u → Q (n + j) x u
  | [], n, _ => ⟨[], rfl, fun j x u h => by simp at h⟩
  | x :: xs, n, h => by
    obtain ⟨u, hu⟩ := h 0 x rfl
    obtain ⟨us, hl, hus⟩ := list_pick xs (n + 1) fun j y hy => by
      have := h (j + 1) y (by simpa using hy)
      rwa [show n + (j + 1) = n + 1 + j by omega] at this
    refine ⟨u :: us, by simp [hl], fun j y z hy hz => ?_⟩
    cases j with
    | zero => simp at hy hz; subst hy; subst hz; exact hu
    | succ j =>
      have := hus j y z (by simpa using hy) (by simpa using hz)
      rwa [show n + (j + 1) = n + 1 + j by omega]
theorem mk_lst {α : Type} {d : Kd α} {f : α → SV} {w : World} {base e : Nat} {ok okk : Nat → Prop} {v : Value} {xs : List α} (hok : ∀ b, base ≤ b → b < w.heap.size → okk b)
    (hd : ∀ x ∈ xs, ∀ ok' cs, d.M w base ok' x cs → ∃ u : Value, u.cells.toList = cs ∧ RepS w okk (f x) u) (h : d.R e w base ok v xs) : RepS w okk (.lst (xs.map f)) v := by
  obtain ⟨inner, ho⟩ := Kd.R_own h
  obtain ⟨A, c, rfl, hc, hr⟩ := OwnRow.reads h.2
  simp only [RepS, List.length_map]
  refine ⟨A, c, rfl, hc, ?_⟩
  cases xs with
  | nil => exact .inl rfl
  | cons x0 xs0 =>
    obtain ⟨ad, rfl, hcell⟩ := hr.2.2 (by simp)
    have hb := own_base ho ad.block rfl
    have hlt := own_lt ho ad.block rfl
    obtain ⟨us, hl, hus⟩ := list_pick (Q := fun j x (u : Value) => u.cells.size = d.sz ∧ RepS w okk (f x) u ∧ At w u (ad.add (j * d.sz))) (x0 :: xs0) 0 fun j x hx => by
      obtain ⟨cs, hs, hM, hat⟩ := hcell j x hx
      obtain ⟨u, hu, hR⟩ := hd x (List.mem_of_getElem? hx) _ cs hM
      refine ⟨u, by rw [← hs, ← hu]; simp, hR, fun i y hy => ?_⟩
      rw [Nat.zero_add, addr_add]
      exact hat i y (by rw [← hu]; simpa using hy)
    refine .inr ⟨ad, d.sz, us, rfl, hok _ hb hlt, RepL.of (by simp [hl]) fun j x u hx hu => ?_, fun j u hu => ?_⟩
    · rw [List.getElem?_map] at hx
      cases hj : (x0 :: xs0)[j]? with
      | none => rw [hj] at hx; cases hx
      | some y =>
        rw [hj] at hx
        simp only [Option.map_some, Option.some.injEq] at hx
        subst hx
        exact (hus j y u hj hu).2.1
    · have hj : j < (x0 :: xs0).length := by rw [← hl]; exact (List.getElem?_eq_some_iff.1 hu).1
      have := hus j _ u (List.getElem?_eq_getElem hj) hu
      rw [Nat.zero_add] at this
      exact ⟨this.1, this.2.2⟩
theorem mk_pr {w : World} {base e : Nat} {ok okk : Nat → Prop} {v : Value} {p : List F.S45} (hok : ∀ b, base ≤ b → b < w.heap.size → okk b) (h : F.k45.R e w base ok v p) : RepS w okk (prV p) v :=
  mk_lst hok (fun x _ ok' cs hM => by
    have : F.k45.K w x cs := F.k45.K_of_M hM
    have hc := F.k45_open this
    subst hc
    refine ⟨.agg #[.int .i64 x.f0, .int .i64 x.f1], rfl, ?_⟩
    simp only [stV, RepS]
    exact ⟨_, rfl, by simp [RepL, RepS]⟩) h
theorem mk_pool {w : World} {base e : Nat} {ok okk : Nat → Prop} {v : Value} {l : List (List F.S45)} (hok : ∀ b, base ≤ b → b < w.heap.size → okk b) (h : Kd.S (Kd.slice 45 F.k45) e w base ok v l) : RepS w okk (poolV l) v :=
  mk_lst hok (fun x _ ok' cs hM => by
    obtain ⟨u, rfl, hR⟩ := hM
    have := mk_pr hok hR
    obtain ⟨A, c, rfl⟩ := Kd.R_slice hR
    exact ⟨_, rfl, this⟩) (Kd.S_R h)
theorem mk_ints {w : World} {base e : Nat} {ok okk : Nat → Prop} {v : Value} {l : List Int} (hok : ∀ b, base ≤ b → b < w.heap.size → okk b) (h : (Kd.int .i64).R e w base ok v l) : RepS w okk (intsV l) v :=
  mk_lst hok (fun x _ ok' cs hM => ⟨.int .i64 x, by rw [show cs = [.int .i64 x] from hM]; rfl, by simp [RepS]⟩) h
theorem fresh_ok {w w' : World} {ok : Nat → Prop} : ∀ b, w.heap.size ≤ b → b < w'.heap.size → (ok b ∨ w.heap.size ≤ b ∧ b < w'.heap.size) := fun _ h1 h2 => .inr ⟨h1, h2⟩
end Go.Proofs.Ytimllhflecippaa.Ab
end

section
namespace Go.Proofs.Ytimllhflecippaa.Ab
open Go.RowKit Go.Proofs.YtimllhflecippaaW.PrintWords Go.Proofs.YtimllhflecippaaW.PrintMore
set_option linter.unusedVariables false
set_option linter.unusedSimpArgs false
theorem pTake_c (x0 : List (List F.S45)) (x1 : Int) (x2 : Int) (x3 : List Int) {r0 : List (List F.S45)} {r1 : Int} (nx0 : x0.length ≤ 9223372036854775807) (mx0 : ∀ p ∈ x0, p.length ≤ 9223372036854775807) (nx3 : x3.length ≤ 9223372036854775807) (h : Ev (fun k => F.pools_Take.f k x0 x1 x2 x3) (r0, r1)) :
    ACalls Try.prog 42 [poolV x0, iv x1, iv x2, intsV x3] (· = .many [.sv (poolV r0), .sv (iv r1)]) :=
  ACalls.ofBelow2 (fun _ _ => Try.call42 _ _) fun w ok cargs hr => by
    obtain ⟨k, hk⟩ := h.rounds
    simp only [RepL, iv, RepS] at hr
    obtain ⟨vx0, _, hc, hx0, _, _, rfl, rfl, _, _, rfl, rfl, vx3, _, rfl, hx3, rfl⟩ := hr
    obtain ⟨Ax0, cx0, rfl, lx0, Cx0⟩ := rd_pool nx0 mx0 hx0
    obtain ⟨Ax3, cx3, rfl, lx3, Cx3⟩ := rd_ints nx3 hx3
    obtain rfl : cargs = #[.slice Ax0 x0.length cx0, .int .i64 x1, .int .i64 x2, .slice Ax3 x3.length cx3] := Array.toList_inj.1 (by simpa using hc)
    refine (F.pools_Take.calls k Ax0 cx0 x0 x1 x2 Ax3 cx3 x3 r0 r1 w Cx0 lx0 Cx3 lx3 hk).mono ?_
    rintro e' w' ⟨v, rfl, hR, hb⟩
    exact ⟨hb, v, _, rfl, mk_pool fresh_ok hR, by simp [iv, bv, RepS]⟩
theorem pFirst_c (x0 : List (List F.S45)) (x1 : Int) (x2 : Int) (x3 : List Int) {r0 : Int} {r1 : Bool} (nx0 : x0.length ≤ 9223372036854775807) (mx0 : ∀ p ∈ x0, p.length ≤ 9223372036854775807) (nx3 : x3.length ≤ 9223372036854775807) (h : Ev (fun k => F.pools_First.f k x0 x1 x2 x3) (r0, r1)) :
    ACalls Try.prog 40 [poolV x0, iv x1, iv x2, intsV x3] (· = .many [.sv (iv r0), .sv (bv r1)]) :=
  ACalls.ofBelow2 (fun _ _ => Try.call40 _ _) fun w ok cargs hr => by
    obtain ⟨k, hk⟩ := h.rounds
    simp only [RepL, iv, RepS] at hr
    obtain ⟨vx0, _, hc, hx0, _, _, rfl, rfl, _, _, rfl, rfl, vx3, _, rfl, hx3, rfl⟩ := hr
    obtain ⟨Ax0, cx0, rfl, lx0, Cx0⟩ := rd_pool nx0 mx0 hx0
    obtain ⟨Ax3, cx3, rfl, lx3, Cx3⟩ := rd_ints nx3 hx3
    obtain rfl : cargs = #[.slice Ax0 x0.length cx0, .int .i64 x1, .int .i64 x2, .slice Ax3 x3.length cx3] := Array.toList_inj.1 (by simpa using hc)
    refine (F.pools_First.calls k Ax0 cx0 x0 x1 x2 Ax3 cx3 x3 r0 r1 w Cx0 lx0 Cx3 lx3 hk).mono ?_
    rintro e' w' ⟨rfl, hb⟩
    exact ⟨hb, _, _, rfl, by simp [iv, bv, RepS], by simp [iv, bv, RepS]⟩
theorem pRight_c (x0 : List (List F.S45)) {r0 : Bool} (nx0 : x0.length ≤ 9223372036854775807) (mx0 : ∀ p ∈ x0, p.length ≤ 9223372036854775807) (h : Ev (fun k => F.pools_Right.f k x0) r0) :
    ACalls Try.prog 36 [poolV x0] (· = .one (.sv (bv r0))) :=
  ACalls.ofBelow1 (fun _ _ => Try.call36 _ _) fun w ok cargs hr => by
    obtain ⟨k, hk⟩ := h.rounds
    simp only [RepL, iv, RepS] at hr
    obtain ⟨vx0, _, hc, hx0, rfl⟩ := hr
    obtain ⟨Ax0, cx0, rfl, lx0, Cx0⟩ := rd_pool nx0 mx0 hx0
    obtain rfl : cargs = #[.slice Ax0 x0.length cx0] := Array.toList_inj.1 (by simpa using hc)
    refine (F.pools_Right.calls k Ax0 cx0 x0 r0 w Cx0 lx0 hk).mono ?_
    rintro e' w' ⟨rfl, hb⟩
    exact ⟨hb, _, rfl, by simp [iv, bv, RepS]⟩
theorem pAt_c (x0 : List (List F.S45)) (x1 : Int) {r0 : List Int} (nx0 : x0.length ≤ 9223372036854775807) (mx0 : ∀ p ∈ x0, p.length ≤ 9223372036854775807) (h : Ev (fun k => F.pools_At.f k x0 x1) r0) :
    ACalls Try.prog 38 [poolV x0, iv x1] (· = .one (.sv (intsV r0))) :=
  ACalls.ofBelow1 (fun _ _ => Try.call38 _ _) fun w ok cargs hr => by
    obtain ⟨k, hk⟩ := h.rounds
    simp only [RepL, iv, RepS] at hr
    obtain ⟨vx0, _, hc, hx0, _, _, rfl, rfl, rfl⟩ := hr
    obtain ⟨Ax0, cx0, rfl, lx0, Cx0⟩ := rd_pool nx0 mx0 hx0
    obtain rfl : cargs = #[.slice Ax0 x0.length cx0, .int .i64 x1] := Array.toList_inj.1 (by simpa using hc)
    refine (F.pools_At.calls k Ax0 cx0 x0 x1 r0 w Cx0 lx0 hk).mono ?_
    rintro e' w' ⟨v, rfl, hR, hb⟩
    exact ⟨hb, v, rfl, mk_ints fresh_ok hR⟩
end Go.Proofs.Ytimllhflecippaa.Ab
end

section
namespace Go.Proofs.Ytimllhflecippaa.Ab
open Go.RowKit Go.Proofs.YtimllhflecippaaW.PrintWords Go.Proofs.YtimllhflecippaaW.PrintMore
set_option linter.unusedVariables false
set_option linter.unusedSimpArgs false
theorem pGive_c (x0 : List (List F.S45)) (x1 : Int) (x2 : Int) (x3 : List Int) {r0 : List (List F.S45)} {r1 : Int} (nx0 : x0.length ≤ 9223372036854775807) (mx0 : ∀ p ∈ x0, p.length ≤ 9223372036854775807) (nx3 : x3.length ≤ 9223372036854775807) (h : Ev (fun k => F.pools_Give.f k x0 x1 x2 x3) (r0, r1)) :
    ACalls Try.prog 44 [poolV x0, iv x1, iv x2, intsV x3] (· = .many [.sv (poolV r0), .sv (iv r1)]) :=
  ACalls.ofBelow2 (fun _ _ => Try.call44 _ _) fun w ok cargs hr => by
    obtain ⟨k, hk⟩ := h.rounds
    simp only [RepL, iv, RepS] at hr
    obtain ⟨vx0, _, hc, hx0, _, _, rfl, rfl, _, _, rfl, rfl, vx3, _, rfl, hx3, rfl⟩ := hr
    obtain ⟨Ax0, cx0, rfl, lx0, Cx0⟩ := rd_pool nx0 mx0 hx0
    obtain ⟨Ax3, cx3, rfl, lx3, Cx3⟩ := rd_ints nx3 hx3
    obtain rfl : cargs = #[.slice Ax0 x0.length cx0, .int .i64 x1, .int .i64 x2, .slice Ax3 x3.length cx3] := Array.toList_inj.1 (by simpa using hc)
    refine (F.pools_Give.calls k Ax0 cx0 x0 x1 x2 Ax3 cx3 x3 r0 r1 w Cx0 lx0 Cx3 lx3 hk).mono ?_
    rintro e' w' ⟨v, rfl, hR, hb⟩
    exact ⟨hb, v, _, rfl, mk_pool fresh_ok hR, by simp [iv, bv, RepS]⟩
theorem pNew_c (x0 : List Int) {r0 : List (List F.S45)} {r1 : Int} (nx0 : x0.length ≤ 9223372036854775807) (h : Ev (fun k => F.pools_New.f k x0) (r0, r1)) :
    ACalls Try.prog 35 [intsV x0] (· = .many [.sv (poolV r0), .sv (iv r1)]) :=
  ACalls.ofBelow2 (fun _ _ => Try.call35 _ _) fun w ok cargs hr => by
    obtain ⟨k, hk⟩ := h.rounds
    simp only [RepL, iv, RepS] at hr
    obtain ⟨vx0, _, hc, hx0, rfl⟩ := hr
    obtain ⟨Ax0, cx0, rfl, lx0, Cx0⟩ := rd_ints nx0 hx0
    obtain rfl : cargs = #[.slice Ax0 x0.length cx0] := Array.toList_inj.1 (by simpa using hc)
    refine (F.pools_New.calls k Ax0 cx0 x0 r0 r1 w Cx0 lx0 hk).mono ?_
    rintro e' w' ⟨v, rfl, hR, hb⟩
    exact ⟨hb, v, _, rfl, mk_pool fresh_ok hR, by simp [iv, bv, RepS]⟩
theorem isame_c (x0 : List Int) (x1 : List Int) {r0 : Bool} (nx0 : x0.length ≤ 9223372036854775807) (nx1 : x1.length ≤ 9223372036854775807) (h : Ev (fun k => F.bailiwickref01_Same.f k x0 x1) r0) :
    ACalls Try.prog 37 [intsV x0, intsV x1] (· = .one (.sv (bv r0))) :=
  ACalls.ofBelow1 (fun _ _ => Try.call37 _ _) fun w ok cargs hr => by
    obtain ⟨k, hk⟩ := h.rounds
    simp only [RepL, iv, RepS] at hr
    obtain ⟨vx0, _, hc, hx0, vx1, _, rfl, hx1, rfl⟩ := hr
    obtain ⟨Ax0, cx0, rfl, lx0, Cx0⟩ := rd_ints nx0 hx0
    obtain ⟨Ax1, cx1, rfl, lx1, Cx1⟩ := rd_ints nx1 hx1
    obtain rfl : cargs = #[.slice Ax0 x0.length cx0, .slice Ax1 x1.length cx1] := Array.toList_inj.1 (by simpa using hc)
    refine (F.bailiwickref01_Same.calls k Ax0 cx0 x0 Ax1 cx1 x1 r0 w Cx0 lx0 Cx1 lx1 hk).mono ?_
    rintro e' w' ⟨rfl, ⟨nd, rfl⟩⟩
    exact ⟨⟨rfl, rfl, rfl, Nat.le_refl _, fun _ _ => rfl⟩, _, rfl, by simp [iv, bv, RepS]⟩
theorem qRight_c (x0 : List (List F.S45)) {r0 : Bool} (nx0 : x0.length ≤ 9223372036854775807) (mx0 : ∀ p ∈ x0, p.length ≤ 9223372036854775807) (h : Ev (fun k => F.bailiwickref04_Right.f k x0) r0) :
    ACalls Try.prog 45 [poolV x0] (· = .one (.sv (bv r0))) :=
  ACalls.ofBelow1 (fun _ _ => Try.call45 _ _) fun w ok cargs hr => by
    obtain ⟨k, hk⟩ := h.rounds
    simp only [RepL, iv, RepS] at hr
    obtain ⟨vx0, _, hc, hx0, rfl⟩ := hr
    obtain ⟨Ax0, cx0, rfl, lx0, Cx0⟩ := rd_pool nx0 mx0 hx0
    obtain rfl : cargs = #[.slice Ax0 x0.length cx0] := Array.toList_inj.1 (by simpa using hc)
    refine (F.bailiwickref04_Right.calls k Ax0 cx0 x0 r0 w Cx0 lx0 hk).mono ?_
    rintro e' w' ⟨rfl, ⟨nd, rfl⟩⟩
    exact ⟨⟨rfl, rfl, rfl, Nat.le_refl _, fun _ _ => rfl⟩, _, rfl, by simp [iv, bv, RepS]⟩
theorem psame_c (x0 : List (List F.S45)) (x1 : List (List F.S45)) {r0 : Bool} (nx0 : x0.length ≤ 9223372036854775807) (mx0 : ∀ p ∈ x0, p.length ≤ 9223372036854775807) (nx1 : x1.length ≤ 9223372036854775807) (mx1 : ∀ p ∈ x1, p.length ≤ 9223372036854775807) (h : Ev (fun k => F.bailiwickref04_Same.f k x0 x1) r0) :
    ACalls Try.prog 46 [poolV x0, poolV x1] (· = .one (.sv (bv r0))) :=
  ACalls.ofBelow1 (fun _ _ => Try.call46 _ _) fun w ok cargs hr => by
    obtain ⟨k, hk⟩ := h.rounds
    simp only [RepL, iv, RepS] at hr
    obtain ⟨vx0, _, hc, hx0, vx1, _, rfl, hx1, rfl⟩ := hr
    obtain ⟨Ax0, cx0, rfl, lx0, Cx0⟩ := rd_pool nx0 mx0 hx0
    obtain ⟨Ax1, cx1, rfl, lx1, Cx1⟩ := rd_pool nx1 mx1 hx1
    obtain rfl : cargs = #[.slice Ax0 x0.length cx0, .slice Ax1 x1.length cx1] := Array.toList_inj.1 (by simpa using hc)
    refine (F.bailiwickref04_Same.calls k Ax0 cx0 x0 Ax1 cx1 x1 r0 w Cx0 lx0 Cx1 lx1 hk).mono ?_
    rintro e' w' ⟨rfl, ⟨nd, rfl⟩⟩
    exact ⟨⟨rfl, rfl, rfl, Nat.le_refl _, fun _ _ => rfl⟩, _, rfl, by simp [iv, bv, RepS]⟩
theorem short_c (x0 : List (List F.S45)) {r0 : Bool} (nx0 : x0.length ≤ 9223372036854775807) (mx0 : ∀ p ∈ x0, p.length ≤ 9223372036854775807) (h : Ev (fun k => F.bailiwicklaw04_short.f k x0) r0) :
    ACalls Try.prog 39 [poolV x0] (· = .one (.sv (bv r0))) :=
  ACalls.ofBelow1 (fun _ _ => Try.call39 _ _) fun w ok cargs hr => by
    obtain ⟨k, hk⟩ := h.rounds
    simp only [RepL, iv, RepS] at hr
    obtain ⟨vx0, _, hc, hx0, rfl⟩ := hr
    obtain ⟨Ax0, cx0, rfl, lx0, Cx0⟩ := rd_pool nx0 mx0 hx0
    obtain rfl : cargs = #[.slice Ax0 x0.length cx0] := Array.toList_inj.1 (by simpa using hc)
    refine (F.bailiwicklaw04_short.calls k Ax0 cx0 x0 r0 w Cx0 lx0 hk).mono ?_
    rintro e' w' ⟨rfl, ⟨nd, rfl⟩⟩
    exact ⟨⟨rfl, rfl, rfl, Nat.le_refl _, fun _ _ => rfl⟩, _, rfl, by simp [iv, bv, RepS]⟩
end Go.Proofs.Ytimllhflecippaa.Ab
end

section
namespace Go.Proofs.Ytimllhflecippaa.Ab
theorem tsz2 : tsz Try.prog 2 = 1 := by kernel_rfl
theorem tag2 : tagg Try.prog 2 = false := by kernel_rfl
theorem tby2 : tby Try.prog 2 = 8 := by kernel_rfl
theorem tze2 : tzero Try.prog 2 = some (.int .i64 0) := by kernel_rfl
theorem tsz3 : tsz Try.prog 3 = 1 := by kernel_rfl
theorem tag3 : tagg Try.prog 3 = false := by kernel_rfl
theorem tby3 : tby Try.prog 3 = 8 := by kernel_rfl
theorem tze3 : tzero Try.prog 3 = some (.int .i64 0) := by kernel_rfl
theorem tsz22 : tsz Try.prog 22 = 1 := by kernel_rfl
theorem tag22 : tagg Try.prog 22 = false := by kernel_rfl
theorem tsl22 : selem Try.prog 22 = some 45 := by kernel_rfl
theorem tby22 : tby Try.prog 22 = 24 := by kernel_rfl
theorem tze22 : tzero Try.prog 22 = some (.slice none 0 0) := by kernel_rfl
theorem tsz45 : tsz Try.prog 45 = 2 := by kernel_rfl
theorem tby45 : tby Try.prog 45 = 16 := by kernel_rfl
theorem tfo45_0 : foff Try.prog 45 0 = some 0 := by kernel_rfl
theorem tfo45_1 : foff Try.prog 45 1 = some 1 := by kernel_rfl
theorem tpl45 : splaces Try.prog 45 = some [(0, 1), (1, 1)] := by kernel_rfl
theorem tze45 : tzero Try.prog 45 = some (.agg #[.int .i64 0, .int .i64 0]) := by kernel_rfl
theorem tsl48 : selem Try.prog 48 = some 3 := by kernel_rfl
theorem tsl49 : selem Try.prog 49 = some 22 := by kernel_rfl
theorem tsl73 : selem Try.prog 73 = some 2 := by kernel_rfl
attribute [go_sem] tsz2 tag2 tby2 tze2 tsz3 tag3 tby3 tze3 tsz22 tag22 tsl22 tby22 tze22 tsz45 tby45 tfo45_0 tfo45_1 tpl45 tze45 tsl48 tsl49 tsl73
end Go.Proofs.Ytimllhflecippaa.Ab
end

section
namespace Go.Proofs.Ytimllhflecippaa.Ab
open Go.RowKit Go.Proofs.YtimllhflecippaaW.PrintWords Go.Proofs.YtimllhflecippaaW.PrintMore
set_option linter.unusedVariables false
set_option linter.unusedSimpArgs false

attribute [go_sem] stV prV poolV intsV
theorem aw4_1 : Ev (fun k => F.pools_New.f k [4, 2]) ([[⟨0, 4⟩], [⟨0, 2⟩]], 0) := Ev.of (F.pools_New.mono _) (k := 30) (by kernel_rfl)
theorem aw4_2 : Ev (fun k => F.pools_Take.f k [[⟨0, 4⟩], [⟨0, 2⟩]] 0 5 [3, 0]) ([[⟨0, 1⟩, ⟨5, 4⟩], [⟨0, 2⟩]], 0) := Ev.of (F.pools_Take.mono _ _ _ _) (k := 60) (by kernel_rfl)
theorem aw4_3 : Ev (fun k => F.pools_Take.f k [[⟨0, 1⟩, ⟨5, 4⟩], [⟨0, 2⟩]] 0 9 [0, 2]) ([[⟨0, 1⟩, ⟨5, 4⟩], [⟨0, 0⟩, ⟨9, 2⟩]], 0) := Ev.of (F.pools_Take.mono _ _ _ _) (k := 60) (by kernel_rfl)
theorem aw4_4 : Ev (fun k => F.pools_First.f k [[⟨0, 1⟩, ⟨5, 4⟩], [⟨0, 0⟩, ⟨9, 2⟩]] 1 2 [2, 1]) (9, true) := Ev.of (F.pools_First.mono _ _ _ _) (k := 60) (by kernel_rfl)
theorem aw4_5 : Ev (fun k => F.pools_At.f k [[⟨0, 1⟩, ⟨5, 4⟩], [⟨0, 0⟩, ⟨9, 2⟩]] 5) [4, 0] := Ev.of (F.pools_At.mono _ _) (k := 60) (by kernel_rfl)
set_option maxHeartbeats 4000000 in
theorem awake04_c : ACalls Try.prog 34 [] (· = .one (.sv (bv true))) := by
  refine ACalls.of_bodyS (fun _ _ => Try.call34 _ _) Try.func34 rfl Try.ntmps34 (by simp) ?_
  refine Tr.ex ?_
  simp [go_sem]
  refine OpW.frz 8 (RnK.rn ?_)
  simp [go_sem]
  refine OpW.fn false (pNew_c [4, 2] (by simp) aw4_1) rfl rfl (by simp [go_sem]) (fun h => by cases h) ?_
  rintro r rfl
  simp [go_sem]
  refine OpW.frz 14 (RnK.rn ?_)
  simp [go_sem]
  refine OpW.fn false (pTake_c [[⟨0, 4⟩], [⟨0, 2⟩]] 0 5 [3, 0] (by simp) (by simp) (by simp) aw4_2) rfl rfl (by simp [go_sem]) (fun h => by cases h) ?_
  rintro r rfl
  simp [go_sem]
  refine OpW.frz 20 (RnK.rn ?_)
  simp [go_sem]
  refine OpW.fn false (pTake_c [[⟨0, 1⟩, ⟨5, 4⟩], [⟨0, 2⟩]] 0 9 [0, 2] (by simp) (by simp) (by simp) aw4_3) rfl rfl (by simp [go_sem]) (fun h => by cases h) ?_
  rintro r rfl
  simp [go_sem]
  refine OpW.fn true (pFirst_c [[⟨0, 1⟩, ⟨5, 4⟩], [⟨0, 0⟩, ⟨9, 2⟩]] 1 2 [2, 1] (by simp) (by simp) (by simp) aw4_4) rfl rfl (by simp [go_sem]) (by rintro _ r rfl; simp [go_sem]) ?_
  rintro r rfl
  simp [go_sem]
  refine OpW.fn false (pAt_c [[⟨0, 1⟩, ⟨5, 4⟩], [⟨0, 0⟩, ⟨9, 2⟩]] 5 (by simp) (by simp) aw4_5) rfl rfl (by simp [go_sem]) (fun h => by cases h) ?_
  rintro r rfl
  simp [go_sem]
  refine OpW.fn true (isame_c [4, 0] [4, 0] (by simp) (by simp) (PoolP.isame_ev [4, 0] (by simp))) rfl rfl (by simp [go_sem]) (by rintro _ r rfl; simp [go_sem]) ?_
  rintro r rfl
  simp [go_sem]
end Go.Proofs.Ytimllhflecippaa.Ab
end

section
namespace Go.Proofs.Ytimllhflecippaa.Ab
open Go.RowKit Go.Proofs.YtimllhflecippaaW.PrintWords Go.Proofs.YtimllhflecippaaW.PrintMore
set_option linter.unusedVariables false
set_option linter.unusedSimpArgs false
theorem rAt_c (x0 : List F.S45) (x1 : Int) {r0 : Int} (nx0 : x0.length ≤ 9223372036854775807) (h : Ev (fun k => F.bailiwickref03_At.f k x0 x1) r0) :
    ACalls Try.prog 32 [prV x0, iv x1] (· = .one (.sv (iv r0))) :=
  ACalls.ofBelow1 (fun _ _ => Try.call32 _ _) fun w ok cargs hr => by
    obtain ⟨k, hk⟩ := h.rounds
    simp only [RepL, iv, RepS] at hr
    obtain ⟨vx0, _, hc, hx0, _, _, rfl, rfl, rfl⟩ := hr
    obtain ⟨Ax0, cx0, rfl, lx0, Cx0⟩ := rd_pr nx0 hx0
    obtain rfl : cargs = #[.slice Ax0 x0.length cx0, .int .i64 x1] := Array.toList_inj.1 (by simpa using hc)
    refine (F.bailiwickref03_At.calls k Ax0 cx0 x0 x1 r0 w Cx0 lx0 hk).mono ?_
    rintro e' w' ⟨rfl, ⟨nd, rfl⟩⟩
    exact ⟨⟨rfl, rfl, rfl, Nat.le_refl _, fun _ _ => rfl⟩, _, rfl, by simp [iv, bv, RepS]⟩
theorem rat_c (x0 : List F.S45) (x1 : Int) {r0 : Int} (nx0 : x0.length ≤ 9223372036854775807) (h : Ev (fun k => F.bailiwickref03_at.f k x0 x1) r0) :
    ACalls Try.prog 57 [prV x0, iv x1] (· = .one (.sv (iv r0))) :=
  ACalls.ofBelow1 (fun _ _ => Try.call57 _ _) fun w ok cargs hr => by
    obtain ⟨k, hk⟩ := h.rounds
    simp only [RepL, iv, RepS] at hr
    obtain ⟨vx0, _, hc, hx0, _, _, rfl, rfl, rfl⟩ := hr
    obtain ⟨Ax0, cx0, rfl, lx0, Cx0⟩ := rd_pr nx0 hx0
    obtain rfl : cargs = #[.slice Ax0 x0.length cx0, .int .i64 x1] := Array.toList_inj.1 (by simpa using hc)
    refine (F.bailiwickref03_at.calls k Ax0 cx0 x0 x1 r0 w Cx0 lx0 hk).mono ?_
    rintro e' w' ⟨rfl, ⟨nd, rfl⟩⟩
    exact ⟨⟨rfl, rfl, rfl, Nat.le_refl _, fun _ _ => rfl⟩, _, rfl, by simp [iv, bv, RepS]⟩
theorem rMay_c (x0 : List F.S45) (x1 : Int) (x2 : Int) {r0 : Bool} (nx0 : x0.length ≤ 9223372036854775807) (h : Ev (fun k => F.bailiwickref03_May.f k x0 x1 x2) r0) :
    ACalls Try.prog 27 [prV x0, iv x1, iv x2] (· = .one (.sv (bv r0))) :=
  ACalls.ofBelow1 (fun _ _ => Try.call27 _ _) fun w ok cargs hr => by
    obtain ⟨k, hk⟩ := h.rounds
    simp only [RepL, iv, RepS] at hr
    obtain ⟨vx0, _, hc, hx0, _, _, rfl, rfl, _, _, rfl, rfl, rfl⟩ := hr
    obtain ⟨Ax0, cx0, rfl, lx0, Cx0⟩ := rd_pr nx0 hx0
    obtain rfl : cargs = #[.slice Ax0 x0.length cx0, .int .i64 x1, .int .i64 x2] := Array.toList_inj.1 (by simpa using hc)
    refine (F.bailiwickref03_May.calls k Ax0 cx0 x0 x1 x2 r0 w Cx0 lx0 hk).mono ?_
    rintro e' w' ⟨rfl, ⟨nd, rfl⟩⟩
    exact ⟨⟨rfl, rfl, rfl, Nat.le_refl _, fun _ _ => rfl⟩, _, rfl, by simp [iv, bv, RepS]⟩
theorem rLeast_c (x0 : List F.S45) (x1 : Int) (x2 : Int) {r0 : Int} (nx0 : x0.length ≤ 9223372036854775807) (h : Ev (fun k => F.bailiwickref03_Least.f k x0 x1 x2) r0) :
    ACalls Try.prog 28 [prV x0, iv x1, iv x2] (· = .one (.sv (iv r0))) :=
  ACalls.ofBelow1 (fun _ _ => Try.call28 _ _) fun w ok cargs hr => by
    obtain ⟨k, hk⟩ := h.rounds
    simp only [RepL, iv, RepS] at hr
    obtain ⟨vx0, _, hc, hx0, _, _, rfl, rfl, _, _, rfl, rfl, rfl⟩ := hr
    obtain ⟨Ax0, cx0, rfl, lx0, Cx0⟩ := rd_pr nx0 hx0
    obtain rfl : cargs = #[.slice Ax0 x0.length cx0, .int .i64 x1, .int .i64 x2] := Array.toList_inj.1 (by simpa using hc)
    refine (F.bailiwickref03_Least.calls k Ax0 cx0 x0 x1 x2 r0 w Cx0 lx0 hk).mono ?_
    rintro e' w' ⟨rfl, ⟨nd, rfl⟩⟩
    exact ⟨⟨rfl, rfl, rfl, Nat.le_refl _, fun _ _ => rfl⟩, _, rfl, by simp [iv, bv, RepS]⟩
theorem rMost_c (x0 : List F.S45) (x1 : Int) (x2 : Int) {r0 : Int} (nx0 : x0.length ≤ 9223372036854775807) (h : Ev (fun k => F.bailiwickref03_Most.f k x0 x1 x2) r0) :
    ACalls Try.prog 56 [prV x0, iv x1, iv x2] (· = .one (.sv (iv r0))) :=
  ACalls.ofBelow1 (fun _ _ => Try.call56 _ _) fun w ok cargs hr => by
    obtain ⟨k, hk⟩ := h.rounds
    simp only [RepL, iv, RepS] at hr
    obtain ⟨vx0, _, hc, hx0, _, _, rfl, rfl, _, _, rfl, rfl, rfl⟩ := hr
    obtain ⟨Ax0, cx0, rfl, lx0, Cx0⟩ := rd_pr nx0 hx0
    obtain rfl : cargs = #[.slice Ax0 x0.length cx0, .int .i64 x1, .int .i64 x2] := Array.toList_inj.1 (by simpa using hc)
    refine (F.bailiwickref03_Most.calls k Ax0 cx0 x0 x1 x2 r0 w Cx0 lx0 hk).mono ?_
    rintro e' w' ⟨rfl, ⟨nd, rfl⟩⟩
    exact ⟨⟨rfl, rfl, rfl, Nat.le_refl _, fun _ _ => rfl⟩, _, rfl, by simp [iv, bv, RepS]⟩
end Go.Proofs.Ytimllhflecippaa.Ab
end

section
namespace Go.Proofs.Ytimllhflecippaa.Ab
open Go.RowKit
set_option linter.unusedVariables false
set_option linter.unusedSimpArgs false

theorem LoopW.ofT {P : Program} {Q : Exit → St → Prop} {c : Code} {k : List Fr} {st : St} {σ : Type} (S : σ → St) (I : σ → Prop) (μ : σ → Nat) (s0 : σ) (h0 : I s0) (hst : Ent st (S s0))
    (round : ∀ s, I s → TrK P (loopQ P Q k (fun st' => ∃ s', I s' ∧ μ s' < μ s ∧ Ent st' (S s'))) c [] (S s)) : LoopW P Q c k st :=
  Tr.loop S I μ s0 h0 hst fun s hs => Tr.mono (round s hs) fun e st' h => by
    cases e with
    | normal => exact h
    | _ => exact kx_kq h
theorem TrK.seq {P : Program} {Q : Exit → St → Prop} {a b : Code} {k : List Fr} {st : St} (h : TrK P Q a (.seq b :: k) st) : TrK P Q (.seq a b) k st := Tr.seq h
theorem TrK.block {P : Program} {Q : Exit → St → Prop} {id : Nat} {a : Code} {k : List Fr} {st : St} (h : TrK P Q a (.blk id :: k) st) : TrK P Q (.block id a) k st := Tr.block h
/-- A first piece that ends by itself; what it leaves. -/
theorem TrK.cut {P : Program} {Q : Exit → St → Prop} {a c : Code} {k : List Fr} {st : St} (s1 : St) (h : Ab.ex P (fun e s => e = .normal ∧ Ent s s1) a [] st) (hk : TrK P Q c k s1) : TrK P Q (.seq a c) k st :=
  Tr.seq (ex.cut.Tr.mono' (Tr.ex h) fun keep w E a e st' hI ⟨he, hent⟩ => by
    subst he
    obtain ⟨E', h1, h2⟩ := hent keep w E a hI
    exact ⟨s1, E', h1, h2, hk⟩)
end Go.Proofs.Ytimllhflecippaa.Ab
end

section
namespace Go.Proofs.Ytimllhflecippaa.Ab
open Go.RowKit
set_option linter.unusedVariables false
set_option linter.unusedSimpArgs false

attribute [go_sem] stV prV intsV
theorem put_nil (x : Int) : StepQ.put [] x = [x] := rfl
theorem put_last {o : List Int} {s : Int} (h : o[o.length - 1]? = some s) (x : Int) : StepQ.put o x = if s < x then o ++ [x] else o := by
  have hlt := (List.getElem?_eq_some_iff.1 h).1
  have hr : Go.Proofs.YtimllhflecippaaW.PrintWords.rd o ((o.length - 1 : Nat) : Int) = s := by rw [StepQ.rd_nat o _ hlt]; exact gE h hlt
  unfold StepQ.put
  rw [hr]
  by_cases c : s < x
  · rw [if_pos (.inr c), if_pos c]
  · rw [if_neg (fun h => h.elim (by omega) c), if_neg c]
theorem put_last' {o : List Int} (h : 0 < o.length) : ∃ s, o[o.length - 1]? = some s ∧ ∀ x, StepQ.put o x = if s < x then o ++ [x] else o :=
  ⟨_, List.getElem?_eq_getElem (by omega), fun x => put_last (List.getElem?_eq_getElem (by omega)) x⟩
abbrev tmS (p : List F.S45) (f t : Int) (i : Nat) (o : List Int) : St := ⟨117, [(0, .sv (prV p)), (1, .sv (iv f)), (2, .sv (iv t)), (6, .nil), (7, .own 7), (8, .sv (iv i))], [(7, .row 1 (o.map fun n => .val (.int .i64 n)))]⟩
attribute [go_sem] tmS
set_option maxHeartbeats 8000000 in
theorem times_c (p : List F.S45) (f t : Int) (hp : 0 < p.length) (hl : p.length ≤ 300) :
    ACalls Try.prog 66 [prV p, iv f, iv t] (· = .one (.sv (intsV (StepQ.timesR p f t)))) := by
  refine ACalls.of_bodyS (fun _ _ => Try.call66 _ _) Try.func66 rfl Try.ntmps66 (by simp) ?_
  refine Tr.ex ?_
  simp [go_sem]
  refine LoopW.ofT (fun i : Nat => tmS p f t i (StepQ.outN p f t i))
    (fun i => i ≤ p.length ∧ (0 < i → 0 < (StepQ.outN p f t i).length)) (fun i => p.length - i) 0 ⟨by omega, by omega⟩ (Ent.thaw 7 7 1 (by simp [go_sem]) (by simp [go_sem]) (by decide) (Ent.chk (by simp [go_sem, StepQ.outN]))) ?_
  rintro i ⟨hi, hpos⟩
  by_cases hlt : i < p.length
  · have hlt' : (i : Int) < p.length := by omega
    have hw : IntKind.i64.wrap ((i : Int) + 1) = (i : Int) + 1 := by rw [i64w] <;> omega
    obtain ⟨x, hx⟩ : ∃ x, p[i]? = some x := ⟨_, List.getElem?_eq_getElem hlt⟩
    have hA : StepP.At p i = x.f0 := by unfold StepP.At; rw [StepP.rdS_nat p i hlt, gE hx]
    have hol := StepQ.outN_len p f t i
    have hsp := StepQ.stp_pos p f t i (StepQ.outN p f t i)
    have hs : StepQ.outN p f t (i + 1) = StepQ.stp p f t i (StepQ.outN p f t i) := rfl
    have hst : ∀ o, StepQ.stp p f t i o = StepQ.put (if t < x.f0 then StepQ.put (if f < x.f0 then StepQ.put o f else o) t else (if f < x.f0 then StepQ.put o f else o)) x.f0 := fun o => by unfold StepQ.stp; rw [hA]
    rw [← hs] at hsp
    rw [hst] at hs
    generalize StepQ.outN p f t i = o at *
    refine TrK.cut (tmS p f t i o) (by simp [go_sem, hlt, hlt']; exact Ent.chk (by simp [go_sem])) ?_
    refine TrK.seq (TrK.block ?_)
    refine TrK.cut (tmS p f t i (if f < x.f0 then StepQ.put o f else o)) ?_ ?_
    · by_cases c : f < x.f0
      · rw [if_pos c]
        by_cases hz : 0 < o.length
        · obtain ⟨s, hsx, hsp⟩ := put_last' hz
          have hz' : ((o.length : Int) == 0) = false := beq_eq_false_iff_ne.2 (by omega)
          have hw1 : IntKind.i64.wrap ((o.length : Int) - 1) = ((o.length - 1 : Nat) : Int) := by rw [i64w] <;> omega
          have hq : o.length - 1 < o.length := by omega
          have hq' : ((o.length - 1 : Nat) : Int) < o.length := by omega
          rw [hsp]
          by_cases c2 : s < f
          · simp [go_sem, hlt, hlt', hx, gE hx, c, hz', hw1, hq, hq', hsx, gE hsx, hz, c2]
            exact ⟨by omega, Ent.rename2 40 7 (by simp [go_sem]) (Ent.chk (by simp [go_sem, c2]))⟩
          · simp [go_sem, hlt, hlt', hx, gE hx, c, hz', hw1, hq, hq', hsx, gE hsx, hz, c2]
            exact Ent.chk (by simp [go_sem, c2])
        · obtain rfl : o = [] := List.eq_nil_of_length_eq_zero (by omega)
          rw [put_nil]
          simp [go_sem, hlt, hlt', hx, gE hx, c]
          exact Ent.rename2 40 7 (by simp [go_sem]) (Ent.chk (by simp [go_sem]))
      · rw [if_neg c]
        simp [go_sem, hlt, hlt', hx, gE hx, c]
        exact Ent.chk (by simp [go_sem])
    have hl1 : (if f < x.f0 then StepQ.put o f else o).length ≤ 1000 := by have := StepQ.put_len o f; split <;> omega
    generalize (if f < x.f0 then StepQ.put o f else o) = o1 at *
    refine TrK.cut (tmS p f t i (if t < x.f0 then StepQ.put o1 t else o1)) ?_ ?_
    · by_cases c : t < x.f0
      · rw [if_pos c]
        by_cases hz : 0 < o1.length
        · obtain ⟨s, hsx, hsp⟩ := put_last' hz
          have hz' : ((o1.length : Int) == 0) = false := beq_eq_false_iff_ne.2 (by omega)
          have hw1 : IntKind.i64.wrap ((o1.length : Int) - 1) = ((o1.length - 1 : Nat) : Int) := by rw [i64w] <;> omega
          have hq : o1.length - 1 < o1.length := by omega
          have hq' : ((o1.length - 1 : Nat) : Int) < o1.length := by omega
          rw [hsp]
          by_cases c2 : s < t
          · simp [go_sem, hlt, hlt', hx, gE hx, c, hz', hw1, hq, hq', hsx, gE hsx, hz, c2]
            exact ⟨by omega, Ent.rename2 66 7 (by simp [go_sem]) (Ent.chk (by simp [go_sem, c2]))⟩
          · simp [go_sem, hlt, hlt', hx, gE hx, c, hz', hw1, hq, hq', hsx, gE hsx, hz, c2]
            exact Ent.chk (by simp [go_sem, c2])
        · obtain rfl : o1 = [] := List.eq_nil_of_length_eq_zero (by omega)
          rw [put_nil]
          simp [go_sem, hlt, hlt', hx, gE hx, c]
          exact Ent.rename2 66 7 (by simp [go_sem]) (Ent.chk (by simp [go_sem]))
      · rw [if_neg c]
        simp [go_sem, hlt, hlt', hx, gE hx, c]
        exact Ent.chk (by simp [go_sem])
    have hl2 : (if t < x.f0 then StepQ.put o1 t else o1).length ≤ 1001 := by have := StepQ.put_len o1 t; split <;> omega
    generalize (if t < x.f0 then StepQ.put o1 t else o1) = o2 at *
    refine TrK.ex ?_
    simp [go_sem]
    refine DrawW.rd rfl ?_
    by_cases hz : 0 < o2.length
    · obtain ⟨s, hsx, hq2⟩ := put_last' hz
      have hz' : ((o2.length : Int) == 0) = false := beq_eq_false_iff_ne.2 (by omega)
      have hw1 : IntKind.i64.wrap ((o2.length : Int) - 1) = ((o2.length - 1 : Nat) : Int) := by rw [i64w] <;> omega
      have hq : o2.length - 1 < o2.length := by omega
      have hq' : ((o2.length - 1 : Nat) : Int) < o2.length := by omega
      rw [hq2] at hs
      by_cases c2 : s < x.f0
      · simp [go_sem, hlt, hlt', hx, gE hx, hz', hw1, hq, hq', hsx, gE hsx, hz, c2]
        rw [if_pos c2] at hs
        refine ⟨by kernel_rfl, ?_⟩
        exact ⟨by omega, i + 1, ⟨by omega, fun _ => hsp⟩, by omega, Ent.rename2 91 7 (by simp [go_sem]) (Ent.chk (by simp [go_sem, hs, hw]))⟩
      · simp [go_sem, hlt, hlt', hx, gE hx, hz', hw1, hq, hq', hsx, gE hsx, hz, c2]
        rw [if_neg c2] at hs
        refine ⟨by kernel_rfl, ?_⟩
        exact ⟨i + 1, ⟨by omega, fun _ => hsp⟩, by omega, Ent.chk (by simp [go_sem, hs, hw])⟩
    · obtain rfl : o2 = [] := List.eq_nil_of_length_eq_zero (by omega)
      rw [put_nil] at hs
      simp [go_sem, hlt, hlt', hx, gE hx]
      refine ⟨by kernel_rfl, ?_⟩
      exact ⟨i + 1, ⟨by omega, fun _ => hsp⟩, by omega, Ent.rename2 91 7 (by simp [go_sem]) (Ent.chk (by simp [go_sem, hs, hw]))⟩
  · have hil : i = p.length := by omega
    subst hil
    have hol := StepQ.outN_len p f t p.length
    have hR : StepQ.timesR p f t = StepQ.put (StepQ.put (StepQ.outN p f t p.length) f) t := rfl
    have hps := hpos hp
    generalize StepQ.outN p f t p.length = o at *
    refine TrK.ex ?_
    have hw1 : IntKind.i64.wrap ((o.length : Int) - 1) = ((o.length - 1 : Nat) : Int) := by rw [i64w] <;> omega
    have hq : o.length - 1 < o.length := by omega
    have hq' : ((o.length - 1 : Nat) : Int) < o.length := by omega
    obtain ⟨s, hsx, hsp⟩ := put_last' hps
    rw [hsp] at hR
    have hw2 : IntKind.i64.wrap (o.length : Int) = o.length := by rw [i64w] <;> omega
    by_cases c : s < f
    · rw [if_pos c] at hR
      have hlast : (o ++ [f])[(o ++ [f]).length - 1]? = some f := by simp
      rw [put_last hlast] at hR
      by_cases c2 : f < t
      · rw [if_pos c2] at hR
        simp [go_sem, hw1, hq, hq', hsx, gE hsx, hps, c, c2, hw2, hR]
        omega
      · rw [if_neg c2] at hR
        simp [go_sem, hw1, hq, hq', hsx, gE hsx, hps, c, c2, hw2, hR]
        omega
    · rw [if_neg c, hsp] at hR
      by_cases c2 : s < t
      · rw [if_pos c2] at hR
        simp [go_sem, hw1, hq, hq', hsx, gE hsx, hps, c, c2, hR]
        omega
      · rw [if_neg c2] at hR
        simp [go_sem, hw1, hq, hq', hsx, gE hsx, hps, c, c2, hR]
end Go.Proofs.Ytimllhflecippaa.Ab
end

section
namespace Go.Proofs.Ytimllhflecippaa.Ab
open Go.RowKit
set_option linter.unusedVariables false
set_option linter.unusedSimpArgs false

attribute [go_sem] stV prV intsV
theorem addS_nil (x v : Int) : F.addS [] x v = [⟨x, v⟩] := rfl
theorem addS_last {o : List F.S45} {s : F.S45} (h : o[o.length - 1]? = some s) (x v : Int) : F.addS o x v = if s.f1 = v then o else o ++ [⟨x, v⟩] := by
  unfold F.addS
  rw [List.getLast?_eq_getElem?, h]
  simp
set_option maxHeartbeats 4000000 in
theorem change_c (p : List F.S45) (f t n : Int) (h : StepQ.May p f t) (hn : -1048576 ≤ n ∧ n ≤ 1048576) (hl : p.length ≤ 300) :
    ACalls Try.prog 55 [prV p, iv f, iv t, iv n] (· = .many [.sv (prV (StepT.chg p f t n)), .sv (iv 0)]) := by
  obtain ⟨hr, h0, h1, h2⟩ := h
  have hT := StepQ.timesR_of hr h0 h1 h2
  have hE := StepQ.chgN_eq hr h0 h1 h2 hT hn
  have hev := times_c p f t hr.pos hl
  have hcl := StepT.chg_len hr.toNorm h0 h1 (n := n)
  generalize StepQ.timesR p f t = l at hT hE hev
  have hll := hT.len
  refine ACalls.of_bodyS (fun _ _ => Try.call55 _ _) Try.func55 rfl Try.ntmps55 (by simp) ?_
  refine Tr.ex ?_
  simp [go_sem]
  refine OpW.fn false hev rfl rfl (by simp [go_sem]) (fun h => by cases h) ?_
  rintro r rfl
  simp [go_sem]
  refine LoopW.of (fun i : Nat => ⟨75, [(0, .sv (prV p)), (1, .sv (iv f)), (2, .sv (iv t)), (3, .sv (iv n)), (8, .nil), (9, .sv (iv 0)), (10, .sv (intsV l)), (11, .own 11), (12, .sv (iv i))], [(11, .row 2 ((StepQ.chgN p f t n l i).map stV))]⟩)
    (fun i => i ≤ l.length) (fun i => l.length - i) 0 (by omega) (Ent.thaw 11 11 2 (by simp [go_sem]) (by simp [go_sem]) (by decide) (Ent.chk (by simp [go_sem, StepQ.chgN]))) ?_
  intro i hi
  by_cases hlt : i < l.length
  · have hlt' : (i : Int) < l.length := by omega
    have hw : IntKind.i64.wrap ((i : Int) + 1) = (i : Int) + 1 := by rw [i64w] <;> omega
    obtain ⟨x, hx⟩ : ∃ x, l[i]? = some x := ⟨_, List.getElem?_eq_getElem hlt⟩
    have hxr := hT.rng x (List.mem_of_getElem? hx)
    have hrd : Go.Proofs.YtimllhflecippaaW.PrintWords.rd l (i : Int) = x := by rw [StepQ.rd_nat l i hlt]; exact gE hx hlt
    have hs : StepQ.chgN p f t n l (i + 1) = F.addS (StepQ.chgN p f t n l i) x (StepP.more f t n x (StepP.val p x)) := by
      rw [StepQ.chgN, hrd]
    have hv := hr.val_amt hxr.1
    have hol := StepQ.chgN_len p f t n l i
    have hat := StepR.rat_ev hr hxr.1
    generalize StepQ.chgN p f t n l i = o at *
    generalize StepP.val p x = v at *
    unfold StepP.amt at hv
    have hwv : IntKind.i64.wrap (v + n) = v + n := by rw [i64w] <;> omega
    have hm : StepP.more f t n x v = if f ≤ x ∧ x < t then v + n else v := rfl
    simp [go_sem, hlt, hlt', hx, gE hx]
    refine OpW.fn false (rat_c p x (by omega) hat) rfl rfl (by simp [go_sem]) (fun h => by cases h) ?_
    rintro r rfl
    have hc : (¬ f ≤ x) ∨ (f ≤ x ∧ ¬ x < t) ∨ (f ≤ x ∧ x < t) := by omega
    rcases hc with c1 | ⟨c1, c2⟩ | ⟨c1, c2⟩
    case' inl =>
      rw [if_neg (fun h => c1 h.1)] at hm
      simp [go_sem, hlt, hlt', hx, gE hx, c1]
    case' inr.inl =>
      rw [if_neg (fun h => c2 h.2)] at hm
      simp [go_sem, hlt, hlt', hx, gE hx, c1, c2]
    case' inr.inr =>
      rw [if_pos ⟨c1, c2⟩] at hm
      simp [go_sem, hlt, hlt', hx, gE hx, c1, c2, hwv]
    all_goals
      rw [hm] at hs
      by_cases hz : o.length = 0
      · obtain rfl : o = [] := List.eq_nil_of_length_eq_zero hz
        rw [addS_nil] at hs
        simp [go_sem, hlt, hlt', hx, gE hx]
        exact ⟨i + 1, by omega, by omega, Ent.rename2 69 11 (by simp [go_sem]) (Ent.chk (by simp [go_sem, hw, hs]))⟩
      · have hz' : ((o.length : Int) == 0) = false := by simpa using hz
        have hw1 : IntKind.i64.wrap ((o.length : Int) - 1) = ((o.length - 1 : Nat) : Int) := by rw [i64w] <;> omega
        have hq : o.length - 1 < o.length := by omega
        have hq' : ((o.length - 1 : Nat) : Int) < o.length := by omega
        obtain ⟨s, hsx⟩ : ∃ s, o[o.length - 1]? = some s := ⟨_, List.getElem?_eq_getElem hq⟩
        rw [addS_last hsx] at hs
        have hpos : 0 < o.length := by omega
        simp [go_sem, hz, hz', hw1, hq, hq', hsx, gE hsx, hpos]
        split at hs
        · rename_i he
          simp [go_sem, bne, he]
          exact ⟨i + 1, by omega, by omega, Ent.chk (by simp [go_sem, hw, hs])⟩
        · rename_i he
          have he' := beq_eq_false_iff_ne.2 he
          simp [go_sem, bne, he, he', hlt, hlt', hx, gE hx]
          exact ⟨by omega, i + 1, by omega, by omega, Ent.rename2 69 11 (by simp [go_sem]) (Ent.chk (by simp [go_sem, hw, hs]))⟩
  · have hil : i = l.length := by omega
    subst hil
    have n1 : ¬ (1024 : Int) < (StepT.chg p f t n).length := by omega
    simp [go_sem, hE, n1]
end Go.Proofs.Ytimllhflecippaa.Ab
end

section
namespace Go.Proofs.Ytimllhflecippaa.Ab
open Go.RowKit
set_option linter.unusedVariables false
set_option linter.unusedSimpArgs false

theorem rTake_c (p : List F.S45) (f t n : Int) (hl : p.length ≤ 300) :
    ACalls Try.prog 24 [prV p, iv f, iv t, iv n] (· = .many [.sv (prV (takeL p f t n).1), .sv (iv (takeL p f t n).2)]) := by
  refine ACalls.of_bodyS (fun _ _ => Try.call24 _ _) Try.func24 rfl Try.ntmps24 (by simp) ?_
  refine Tr.ex ?_
  simp [go_sem]
  unfold takeL
  by_cases c : StepQ.May p f t
  · refine OpW.fn true (rMay_c p f t (by omega) (StepR.rmay_yes c)) rfl rfl (by simp [go_sem]) (by rintro _ r rfl; simp [go_sem]) ?_
    rintro r rfl
    by_cases c1 : n < 0
    · have : ¬ StepT.TakeOk p f t n := fun h => by have := h.2.1; omega
      simp [go_sem, c1, this]
    by_cases c2 : 1048576 < n
    · have : ¬ StepT.TakeOk p f t n := fun h => by have := h.2.2; omega
      simp [go_sem, c1, c2, this]
    have ha : StepP.amt n := ⟨by omega, by omega⟩
    have hok : StepT.TakeOk p f t n := ⟨c, ha⟩
    obtain ⟨m, hm, hml⟩ := StepR.rleast_ev c.1 c.2.1 c.2.2.1
    have hmn := hml n
    simp [go_sem, c1, c2]
    refine OpW.fn true (rLeast_c p f t (by omega) hm) rfl rfl (by simp [go_sem]) (by rintro _ r rfl; simp [go_sem]) ?_
    rintro r rfl
    by_cases c3 : m < n
    · have hno : ¬ ∀ x, f ≤ x → x < t → n ≤ StepP.val p x := fun h => by have := hmn.2 ⟨ha.2, h⟩; omega
      simp [go_sem, c3, hok, hno]
    · have hyes := (hmn.1 (by omega)).2
      have hw : IntKind.i64.wrap (0 - n) = -n := by rw [i64w] <;> omega
      have hw2 : IntKind.i64.wrap (-n) = -n := by rw [i64w] <;> omega
      simp only [if_pos hok, if_pos hyes]
      simp [go_sem, c3, hw, hw2]
      refine OpW.fn false (change_c p f t (-n) c (by omega) hl) rfl rfl (by simp [go_sem]) (fun h => by cases h) ?_
      rintro r rfl
      simp [go_sem]
  · have : ¬ StepT.TakeOk p f t n := fun h => c h.1
    refine OpW.fn true (rMay_c p f t (by omega) (StepR.rmay_no c)) rfl rfl (by simp [go_sem]) (by rintro _ r rfl; simp [go_sem]) ?_
    rintro r rfl
    simp [go_sem, this]
theorem rGive_c (p : List F.S45) (f t n : Int) (hl : p.length ≤ 300) :
    ACalls Try.prog 26 [prV p, iv f, iv t, iv n] (· = .many [.sv (prV (giveL p f t n).1), .sv (iv (giveL p f t n).2)]) := by
  refine ACalls.of_bodyS (fun _ _ => Try.call26 _ _) Try.func26 rfl Try.ntmps26 (by simp) ?_
  refine Tr.ex ?_
  simp [go_sem]
  unfold giveL
  by_cases c : StepQ.May p f t
  · refine OpW.fn true (rMay_c p f t (by omega) (StepR.rmay_yes c)) rfl rfl (by simp [go_sem]) (by rintro _ r rfl; simp [go_sem]) ?_
    rintro r rfl
    by_cases c1 : n < 0
    · have : ¬ StepT.TakeOk p f t n := fun h => by have := h.2.1; omega
      simp [go_sem, c1, this]
    by_cases c2 : 1048576 < n
    · have : ¬ StepT.TakeOk p f t n := fun h => by have := h.2.2; omega
      simp [go_sem, c1, c2, this]
    have ha : StepP.amt n := ⟨by omega, by omega⟩
    have hok : StepT.TakeOk p f t n := ⟨c, ha⟩
    obtain ⟨m, hm, hml⟩ := StepR.rmost_ev c.1 c.2.1 c.2.2.1
    have hmn := hml (1048576 - n)
    have hr : 0 ≤ m ∧ m ≤ 1048576 := by
      refine ⟨?_, (hml 1048576).2 fun x h1 h2 => (c.1.val_amt (t := x) (by have := c.2.1; omega)).2⟩
      have h1 := (hml m).1 (Int.le_refl _) f (Int.le_refl _) c.2.2.1
      have h2 := (c.1.val_amt c.2.1).1
      omega
    have hw : IntKind.i64.wrap (m + n) = m + n := by rw [i64w] <;> omega
    simp [go_sem, c1, c2]
    refine OpW.fn true (rMost_c p f t (by omega) hm) rfl rfl (by simp [go_sem]) (by rintro _ r rfl; simp [go_sem]) ?_
    rintro r rfl
    by_cases c3 : 1048576 < m + n
    · have hno : ¬ ∀ x, f ≤ x → x < t → StepP.val p x + n ≤ 1048576 := fun h => by
        have := hmn.2 fun x h1 h2 => by have := h x h1 h2; omega
        omega
      simp [go_sem, hw, c3, hok, hno]
    · have hyes : ∀ x, f ≤ x → x < t → StepP.val p x + n ≤ 1048576 := fun x h1 h2 => by
        have := hmn.1 (by omega) x h1 h2
        omega
      simp only [if_pos hok, if_pos hyes]
      simp [go_sem, hw, c3]
      refine OpW.fn false (change_c p f t n c (by omega) hl) rfl rfl (by simp [go_sem]) (fun h => by cases h) ?_
      rintro r rfl
      simp [go_sem]
  · have : ¬ StepT.TakeOk p f t n := fun h => c h.1
    refine OpW.fn true (rMay_c p f t (by omega) (StepR.rmay_no c)) rfl rfl (by simp [go_sem]) (by rintro _ r rfl; simp [go_sem]) ?_
    rintro r rfl
    simp [go_sem, this]
end Go.Proofs.Ytimllhflecippaa.Ab
end

section
namespace Go.Proofs.Ytimllhflecippaa.Ab
open Go.RowKit
set_option linter.unusedVariables false
set_option linter.unusedSimpArgs false

/-- What is to be done behind a region, not looked into. -/
def HaltW (P : Program) (Q : Exit → St → Prop) (y : Code) (k : List Fr) (st : St) : Prop := TrK P Q y k st
def haltQ (P : Program) (Q : Exit → St → Prop) (y : Code) (k : List Fr) : Exit → St → Prop
  | .normal, st => HaltW P Q y k st
  | _, _ => False
theorem haltQ_normal (P : Program) (Q : Exit → St → Prop) (y : Code) (k : List Fr) (st : St) : haltQ P Q y k .normal st = HaltW P Q y k st := rfl
attribute [go_sem] haltQ_normal
end Go.Proofs.Ytimllhflecippaa.Ab
end

section
namespace Go.Proofs.Ytimllhflecippaa.Ab
open Go.RowKit
set_option linter.unusedVariables false
set_option linter.unusedSimpArgs false

section
variable {P : Program} {Q : Exit → St → Prop} {D : List Nat} {ops : Array Oper} {o : Oper} {l : List Oper} {fs : List Ft} {k : List Fr} {st : St}
end

attribute [go_sem] upm
end Go.Proofs.Ytimllhflecippaa.Ab
end

section
namespace Go.Proofs.Ytimllhflecippaa.Ab
open Go.RowKit
set_option linter.unusedVariables false
set_option linter.unusedSimpArgs false

attribute [go_sem] poolV
theorem lg_get {L : List (List F.S45)} {i : Nat} {p : List F.S45} (h : L[i]? = some p) : PoolP.lg L i = p := by
  obtain ⟨hlt, e⟩ := List.getElem?_eq_some_iff.1 h
  rw [PoolP.lg_eq L i hlt, e]
theorem ng_get {n : List Int} {i : Nat} {x : Int} (h : n[i]? = some x) : PoolQ.ng n i = x := by
  obtain ⟨hlt, e⟩ := List.getElem?_eq_some_iff.1 h
  have := PoolP.rd_eq n i hlt
  rw [e] at this
  exact this
set_option maxHeartbeats 8000000 in
theorem chg4_c (L : List (List F.S45)) (f t : Int) (n : List Int) (give : Bool) (hs : PoolQ.Short L) (hn : n.length ≤ 1000) :
    ACalls Try.prog 43 [poolV L, iv f, iv t, intsV n, bv give] (· = .many [.sv (poolV (PoolQ.changeL L f t n give).1), .sv (iv (PoolQ.changeL L f t n give).2)]) := by
  have h6 := hs.1
  have hm : ∀ p ∈ L, p.length ≤ 9223372036854775807 := fun p hp => by have := (PoolQ.short_fine hs).2 p hp; omega
  refine ACalls.of_bodyS (fun _ _ => Try.call43 _ _) Try.func43 rfl Try.ntmps43 (by simp) ?_
  refine Tr.ex ?_
  simp [go_sem]
  unfold PoolQ.changeL
  by_cases c : PoolP.PRight L
  case neg =>
    refine OpW.fn true (qRight_c L (by omega) hm (PoolR.r4_ev L h6 false ⟨fun h => Bool.noConfusion h, fun h => absurd h c⟩)) rfl rfl (by simp [go_sem]) (by rintro _ r rfl; simp [go_sem]) ?_
    rintro r rfl
    rw [if_neg (fun h => c h.1)]
    simp [go_sem]
  refine OpW.fn true (qRight_c L (by omega) hm (PoolR.r4_ev L h6 true ⟨fun _ => c, fun _ => rfl⟩)) rfl rfl (by simp [go_sem]) (by rintro _ r rfl; simp [go_sem]) ?_
  rintro r rfl
  by_cases c1 : n.length = L.length
  case neg =>
    have e : ((n.length : Int) == L.length) = false := beq_eq_false_iff_ne.2 (by omega)
    rw [if_neg (fun h => c1 h.2)]
    simp [go_sem, bne, e]
  have e : ((n.length : Int) == L.length) = true := by rw [c1]; simp
  rw [if_pos ⟨c, c1⟩]
  simp [go_sem, bne, e]
  generalize hg : (fun i => if give = true then giveL (PoolP.lg L i) f t (PoolQ.ng n i) else takeL (PoolP.lg L i) f t (PoolQ.ng n i)) = g
  refine LoopW.of (fun z : Nat × List (List F.S45) => ⟨71, [(0, .sv (poolV L)), (1, .sv (iv f)), (2, .sv (iv t)), (3, .sv (intsV n)), (4, .sv (bv give)), (10, .nil), (11, .sv (iv 0)), (12, .own 12), (13, .sv (iv z.1))], [(12, .row 1 (z.2.map prV))]⟩)
    (fun z => z.1 ≤ L.length ∧ z.2.length ≤ z.1 ∧ PoolQ.eachN L g (L.length - z.1) z.1 z.2 = PoolQ.eachN L g L.length 0 []) (fun z => L.length - z.1) (0, []) ⟨by simp, by simp, by simp⟩
    (Ent.thaw 12 12 1 (by simp [go_sem]) (by simp [go_sem]) (by decide) (Ent.chk (by simp [go_sem]))) ?_
  rintro ⟨i, out⟩ ⟨hi, hol, hE⟩
  simp only at hi hol hE ⊢
  by_cases hlt : i < L.length
  · have hlt' : (i : Int) < L.length := by omega
    have hltn : i < n.length := by omega
    have hltn' : (i : Int) < n.length := by omega
    have hw : IntKind.i64.wrap ((i : Int) + 1) = (i : Int) + 1 := by rw [i64w] <;> omega
    obtain ⟨p, hx⟩ : ∃ x, L[i]? = some x := ⟨_, List.getElem?_eq_getElem hlt⟩
    obtain ⟨x, hy⟩ : ∃ x, n[i]? = some x := ⟨_, List.getElem?_eq_getElem hltn⟩
    have hpl : p.length ≤ 100 := by have := hs.2 i hlt; rwa [lg_get hx] at this
    have hgi : g i = if give = true then giveL p f t x else takeL p f t x := by rw [← hg]; simp only [lg_get hx, ng_get hy]
    obtain ⟨d, hd⟩ : ∃ d, L.length - i = d + 1 := ⟨L.length - i - 1, by omega⟩
    have hd2 : L.length - (i + 1) = d := by omega
    rw [hd, PoolQ.eachN, hgi] at hE
    have tk := rTake_c p f t x (by omega)
    have gv := rGive_c p f t x (by omega)
    simp [go_sem, hlt, hlt']
    refine DrawW.rd rfl ?_
    simp [go_sem, hlt, hlt', hltn, hltn', hx, gE hx, hy, gE hy]
    refine OpD.call false tk rfl rfl (by simp [go_sem]) (fun h => by cases h) (by simp [go_sem]) (by simp [go_sem]) ?_
    simp [go_sem]
    refine ⟨by kernel_rfl, ?_⟩
    cases give with
    | false =>
      simp only [Bool.false_eq_true, if_false] at hE
      by_cases hz : (takeL p f t x).2 = 0
      · have hz' : ((takeL p f t x).2 == 0) = true := by simpa using hz
        rw [if_pos hz] at hE
        simp [go_sem, bne, hz, hz']
        exact ⟨by omega, i + 1, out ++ [(takeL p f t x).1], ⟨by omega, by simp; omega, by rw [hd2]; exact hE⟩, by omega, Ent.rename2 69 12 (by simp [go_sem]) (Ent.chk (by simp [go_sem, hw]))⟩
      · have hz' : ((takeL p f t x).2 == 0) = false := by simpa using hz
        rw [if_neg hz] at hE
        rw [← hE]
        simp [go_sem, bne, hz, hz']
    | true =>
      simp only [if_true] at hE
      simp [go_sem]
      refine DrawW.rd rfl ?_
      simp [go_sem, hlt, hlt', hltn, hltn', hx, gE hx, hy, gE hy]
      refine OpD.call false gv rfl rfl (by simp [go_sem]) (fun h => by cases h) (by simp [go_sem]) (by simp [go_sem]) ?_
      simp [go_sem]
      refine ⟨by kernel_rfl, ?_⟩
      by_cases hz : (giveL p f t x).2 = 0
      · have hz' : ((giveL p f t x).2 == 0) = true := by simpa using hz
        rw [if_pos hz] at hE
        simp [go_sem, bne, hz, hz']
        exact ⟨by omega, i + 1, out ++ [(giveL p f t x).1], ⟨by omega, by simp; omega, by rw [hd2]; exact hE⟩, by omega, Ent.rename2 69 12 (by simp [go_sem]) (Ent.chk (by simp [go_sem, hw]))⟩
      · have hz' : ((giveL p f t x).2 == 0) = false := by simpa using hz
        rw [if_neg hz] at hE
        rw [← hE]
        simp [go_sem, bne, hz, hz']
  · have hil : i = L.length := by omega
    subst hil
    rw [Nat.sub_self, PoolQ.eachN] at hE
    rw [← hE]
    simp [go_sem]
end Go.Proofs.Ytimllhflecippaa.Ab
end

section
namespace Go.Proofs.Ytimllhflecippaa.Ab
open Go.RowKit
set_option linter.unusedVariables false
set_option linter.unusedSimpArgs false

def StOk (s : F.S45) : Prop := (Lit.int .i64 s.f0).wf = true ∧ (Lit.int .i64 s.f1).wf = true
theorem StOk_mk {p : Int × Int × Unit} (h : (Lit.int .i64 p.1).wf = true ∧ (Lit.int .i64 p.2.1).wf = true ∧ True) : StOk ⟨p.1, p.2.1⟩ := ⟨h.1, h.2.1⟩
theorem rtell_ev {p : List F.S45} (h : StepP.Right p) (t : Int) : Go.Proofs.YtimllhflecippaaW.PrintWords.Ev (fun k => F.bailiwickref03_At.f k p t) (PoolP.tell p t) := by
  unfold PoolP.tell
  by_cases c : 0 ≤ t ∧ t ≤ StepP.Never
  · rw [if_pos c]; exact StepR.rAt_ev h c.1 c.2
  · rw [if_neg c]; exact StepR.rAt_no (fun h => c h.2)
theorem short_iff {L : List (List F.S45)} : ∃ b, Go.Proofs.YtimllhflecippaaW.PrintWords.Ev (fun k => F.bailiwicklaw04_short.f k L) b ∧ (b = true → PoolQ.Short L) := by
  by_cases c : PoolQ.Short L
  · exact ⟨true, PoolQ.short_ev L true ⟨fun _ => c, fun _ => rfl⟩, fun _ => c⟩
  · exact ⟨false, PoolQ.short_ev L false ⟨fun h => Bool.noConfusion h, fun h => absurd h c⟩, fun h => by cases h⟩
set_option maxHeartbeats 8000000 in
set_option maxRecDepth 100000 in
theorem law_PoolsRight (y0 : List (List F.S45)) (y1 y2 : Int) (y3 : List Int) (G0 : y0.length * 24 ≤ 140737488351232 ∧ y0.length ≤ maxLen ∧ ∀ x ∈ y0, x.length * 16 ≤ 140737488351232 ∧ x.length ≤ maxLen ∧ ∀ y ∈ x, StOk y) (G1 : (Lit.int .i64 y1).wf = true) (G2 : (Lit.int .i64 y2).wf = true)
    (G3 : y3.length * 8 ≤ 140737488351232 ∧ y3.length ≤ maxLen ∧ ∀ x ∈ y3, (Lit.int .i64 x).wf = true) :
    ACalls Try.prog 11 [poolV y0, iv y1, iv y2, intsV y3] (· = .one (.sv (bv true))) := by
  have hm : ∀ p ∈ y0, p.length ≤ 9223372036854775807 := fun p hp => by have := (G0.2.2 p hp).1; omega
  have hn0 : y0.length ≤ 9223372036854775807 := by have := G0.1; omega
  have hn3 : y3.length ≤ 9223372036854775807 := by have := G3.1; omega
  refine ACalls.of_bodyS (fun _ _ => Try.call11 _ _) Try.func11 rfl Try.ntmps11 (by simp) ?_
  refine Tr.ex ?_
  simp [go_sem]
  refine OpW.fn true awake04_c rfl rfl (by simp [go_sem]) (by rintro _ r rfl; simp [go_sem]) ?_
  rintro r rfl
  simp [go_sem]
  obtain ⟨b, hb, hsh⟩ := short_iff (L := y0)
  refine OpW.fn true (short_c y0 hn0 hm hb) rfl rfl (by simp [go_sem]) (by rintro _ r rfl; simp [go_sem]) ?_
  rintro r rfl
  cases b with
  | false => simp [go_sem]
  | true =>
    have hs := hsh rfl
    have h6 := hs.1
    by_cases c10 : 10 < y3.length
    · have c10' : (10 : Int) < y3.length := by omega
      simp [go_sem, c10, c10']
    have c10' : ¬ (10 : Int) < y3.length := by omega
    have tk := pTake_c y0 y1 y2 y3 (r0 := (PoolQ.changeL y0 y1 y2 y3 false).1) (r1 := (PoolQ.changeL y0 y1 y2 y3 false).2) hn0 hm hn3 (PoolQ.ptake_chg hs y1 y2 y3 (by omega))
    have gv := pGive_c y0 y1 y2 y3 (r0 := (PoolQ.changeL y0 y1 y2 y3 true).1) (r1 := (PoolQ.changeL y0 y1 y2 y3 true).2) hn0 hm hn3 (PoolQ.pgive_chg hs y1 y2 y3 (by omega))
    have rtk := chg4_c y0 y1 y2 y3 false hs (by omega)
    have rgv := chg4_c y0 y1 y2 y3 true hs (by omega)
    have hS := fun (l : List (List F.S45)) (h : PoolQ.Fine l) => psame_c l l (by have := h.1; omega) (fun p hp => by have := h.2 p hp; omega) (by have := h.1; omega) (fun p hp => by have := h.2 p hp; omega) (PoolQ.fsame_ev h)
    have s0 := hS y0 (PoolQ.short_fine hs)
    have s1 := hS _ (PoolQ.change_fine hs y1 y2 y3 false)
    have s2 := hS _ (PoolQ.change_fine hs y1 y2 y3 true)
    generalize PoolQ.changeL y0 y1 y2 y3 false = A at *
    generalize PoolQ.changeL y0 y1 y2 y3 true = B at *
    simp [go_sem, c10, c10']
    refine LoopW.of (fun i : Nat => ⟨135, [(0, .sv (poolV y0)), (1, .sv (iv y1)), (2, .sv (iv y2)), (3, .sv (intsV y3)), (8, .sv (bv false)), (9, .own 9), (10, .sv (iv i))], [(9, .row 1 ((y0.take i).map prV))]⟩)
      (fun i => i ≤ y0.length) (fun i => y0.length - i) 0 (by omega) (Ent.thaw 9 9 1 (by simp [go_sem]) (by simp [go_sem]) (by decide) (Ent.chk (by simp [go_sem]))) ?_
    intro i hi
    by_cases hlt : i < y0.length
    · have hlt' : (i : Int) < y0.length := by omega
      have hw : IntKind.i64.wrap ((i : Int) + 1) = (i : Int) + 1 := by rw [i64w] <;> omega
      obtain ⟨p, hx⟩ : ∃ x, y0[i]? = some x := ⟨_, List.getElem?_eq_getElem hlt⟩
      have hpl := (PoolQ.short_fine hs).2 p (List.mem_of_getElem? hx)
      have htk : y0.take (i + 1) = y0.take i ++ [p] := by rw [List.take_succ_eq_append_getElem hlt, gE hx]
      have htk2 : List.take (i + 1) (y0.map prV) = List.take i (y0.map prV) ++ [.lst (p.map stV)] := by rw [← List.map_take, htk, List.map_append, List.map_take]; rfl
      simp [go_sem, hlt, hlt', hx, gE hx]
      refine ⟨by omega, OpW.frz 43 (RnK.rn ?_)⟩
      simp [go_sem]
      exact ⟨by omega, i + 1, by omega, by omega, Ent.rename2 45 9 (by simp [go_sem]) (Ent.chk (by simp [go_sem, hw, htk2]))⟩
    · have hil : i = y0.length := by omega
      subst hil
      rw [List.take_length]
      simp [go_sem]
      refine OpW.frz 9 (RnK.rn ?_)
      simp [go_sem]
      refine OpW.fn false tk rfl rfl (by simp [go_sem]) (fun h => by cases h) ?_
      rintro r rfl
      simp [go_sem]
      refine OpW.fn false rtk rfl rfl (by simp [go_sem]) (fun h => by cases h) ?_
      rintro r rfl
      simp [go_sem]
      refine OpW.fn false gv rfl rfl (by simp [go_sem]) (fun h => by cases h) ?_
      rintro r rfl
      simp [go_sem]
      refine OpW.fn false rgv rfl rfl (by simp [go_sem]) (fun h => by cases h) ?_
      rintro r rfl
      simp [go_sem]
      by_cases c : PoolP.PRight y0
      · have pr := pRight_c y0 hn0 hm (PoolP.pright_yes c)
        have qr := qRight_c y0 hn0 hm (PoolR.r4_ev y0 h6 true ⟨fun _ => c, fun _ => rfl⟩)
        refine OpW.fn true pr rfl rfl (by simp [go_sem]) (by rintro _ r rfl; simp [go_sem]) ?_
        rintro r rfl
        simp [go_sem]
        refine OpW.fn true qr rfl rfl (by simp [go_sem]) (by rintro _ r rfl; simp [go_sem]) ?_
        rintro r rfl
        simp [go_sem, bne]
        refine OpW.fn true s1 rfl rfl (by simp [go_sem]) (by rintro _ r rfl; simp [go_sem]) ?_
        rintro r rfl
        simp [go_sem, bne]
        refine OpW.fn true s2 rfl rfl (by simp [go_sem]) (by rintro _ r rfl; simp [go_sem]) ?_
        rintro r rfl
        simp [go_sem, bne]
        refine OpW.fn true s0 rfl rfl (by simp [go_sem]) (by rintro _ r rfl; simp [go_sem]) ?_
        rintro r rfl
        simp [go_sem, bne]
        have hpa := pAt_c y0 y1 hn0 hm (PoolP.pat_ev c y1)
        have hml := PoolP.mk_len y0.length fun j => PoolP.tell (PoolP.lg y0 j) y1
        have hsm := isame_c _ _ (by omega) (by omega) (PoolP.isame_ev (PoolP.mk y0.length fun j => PoolP.tell (PoolP.lg y0 j) y1) (by omega))
        refine LoopW.of (fun i : Nat => ⟨135, [(0, .sv (poolV y0)), (1, .sv (iv y1)), (8, .sv (bv false)), (9, .sv (poolV y0)), (19, .own 19), (20, .sv (iv i))], [(19, .row 1 ((PoolP.mk i fun j => PoolP.tell (PoolP.lg y0 j) y1).map fun n => .val (.int .i64 n)))]⟩)
          (fun i => i ≤ y0.length) (fun i => y0.length - i) 0 (by omega) (Ent.thaw 19 19 1 (by simp [go_sem]) (by simp [go_sem]) (by decide) (Ent.chk (by simp [go_sem, PoolP.mk]))) ?_
        intro i hi
        by_cases hlt : i < y0.length
        · have hlt' : (i : Int) < y0.length := by omega
          have hw : IntKind.i64.wrap ((i : Int) + 1) = (i : Int) + 1 := by rw [i64w] <;> omega
          obtain ⟨p, hx⟩ : ∃ x, y0[i]? = some x := ⟨_, List.getElem?_eq_getElem hlt⟩
          have hpl := (PoolQ.short_fine hs).2 p (List.mem_of_getElem? hx)
          have hpr : StepP.Right p := by have := c.2.2 i hlt; rwa [lg_get hx] at this
          have hmk : (PoolP.mk (i + 1) fun j => PoolP.tell (PoolP.lg y0 j) y1) = (PoolP.mk i fun j => PoolP.tell (PoolP.lg y0 j) y1) ++ [PoolP.tell p y1] := by rw [PoolP.mk_succ, lg_get hx]
          have hil := PoolP.mk_len i fun j => PoolP.tell (PoolP.lg y0 j) y1
          simp [go_sem, hlt, hlt']
          refine OpW.fn true qr rfl rfl (by simp [go_sem]) (by rintro _ r rfl; simp [go_sem]) ?_
          rintro r rfl
          simp [go_sem, hlt, hlt', hx, gE hx]
          refine OpW.fn true (rAt_c p y1 (by omega) (rtell_ev hpr y1)) rfl rfl (by simp [go_sem]) (by rintro _ r rfl; simp [go_sem]) ?_
          rintro r rfl
          simp [go_sem]
          exact ⟨by omega, i + 1, by omega, by omega, Ent.rename2 129 19 (by simp [go_sem]) (Ent.chk (by simp [go_sem, hw, hmk]))⟩
        · have hil : i = y0.length := by omega
          subst hil
          simp [go_sem]
          refine OpW.fn false hpa rfl rfl (by simp [go_sem]) (fun h => by cases h) ?_
          rintro r rfl
          simp [go_sem]
          refine OpW.fn true hsm rfl rfl (by simp [go_sem]) (by rintro _ r rfl; simp [go_sem]) ?_
          rintro r rfl
          simp [go_sem]
      · have pr := pRight_c y0 hn0 hm (PoolP.pright_no c)
        have qr := qRight_c y0 hn0 hm (PoolR.r4_ev y0 h6 false ⟨fun h => Bool.noConfusion h, fun h => absurd h c⟩)
        refine OpW.fn true pr rfl rfl (by simp [go_sem]) (by rintro _ r rfl; simp [go_sem]) ?_
        rintro r rfl
        simp [go_sem]
        refine OpW.fn true qr rfl rfl (by simp [go_sem]) (by rintro _ r rfl; simp [go_sem]) ?_
        rintro r rfl
        simp [go_sem, bne]
        refine OpW.fn true s1 rfl rfl (by simp [go_sem]) (by rintro _ r rfl; simp [go_sem]) ?_
        rintro r rfl
        simp [go_sem, bne]
        refine OpW.fn true s2 rfl rfl (by simp [go_sem]) (by rintro _ r rfl; simp [go_sem]) ?_
        rintro r rfl
        simp [go_sem, bne]
        refine OpW.fn true s0 rfl rfl (by simp [go_sem]) (by rintro _ r rfl; simp [go_sem]) ?_
        rintro r rfl
        simp [go_sem, bne]
        have hpa := pAt_c y0 y1 hn0 hm (PoolQ.pat_none c y1)
        have hsm := isame_c [] [] (by simp) (by simp) (PoolP.isame_ev [] (by simp))
        refine LoopW.of (fun i : Nat => ⟨135, [(0, .sv (poolV y0)), (1, .sv (iv y1)), (8, .sv (bv false)), (9, .sv (poolV y0)), (19, .nil), (20, .sv (iv 0))], []⟩)
          (fun i => i = 0) (fun i => i) 0 rfl (Ent.chk (by simp [go_sem])) ?_
        rintro i rfl
        by_cases hlt : 0 < y0.length
        · have hlt' : (0 : Int) < y0.length := by omega
          simp [go_sem, hlt, hlt']
          refine OpW.fn true qr rfl rfl (by simp [go_sem]) (by rintro _ r rfl; simp [go_sem]) ?_
          rintro r rfl
          simp [go_sem]
          refine OpW.fn false hpa rfl rfl (by simp [go_sem]) (fun h => by cases h) ?_
          rintro r rfl
          simp [go_sem]
          refine OpW.fn true hsm rfl rfl (by simp [go_sem]) (by rintro _ r rfl; simp [go_sem]) ?_
          rintro r rfl
          simp [go_sem]
        · have hlt' : ¬ (0 : Int) < y0.length := by omega
          simp [go_sem, hlt, hlt']
          refine OpW.fn false hpa rfl rfl (by simp [go_sem]) (fun h => by cases h) ?_
          rintro r rfl
          simp [go_sem]
          refine OpW.fn true hsm rfl rfl (by simp [go_sem]) (by rintro _ r rfl; simp [go_sem]) ?_
          rintro r rfl
          simp [go_sem]
end Go.Proofs.Ytimllhflecippaa.Ab
end
