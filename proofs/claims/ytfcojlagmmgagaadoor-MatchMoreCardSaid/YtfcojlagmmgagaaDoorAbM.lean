/- The abstract layer, part M: what is made; code that is run by itself. -/
import Derived.Test.YtfcojlagmmgagaaDoorAbL
namespace Go.Proofs.YtfcojlagmmgagaaDoor.Ab
open Go.RowKit
set_option linter.unusedVariables false
set_option linter.unusedSimpArgs false

theorem does_build0 {P : Program} {o : Oper} {st : St} {d : Nat} {e ty : TypeId} (ho : o.op = .buildSlice ty 0 #[]) (hd : o.dst = some d) (hf : st.fresh d = true) (hn : d < st.n) (he : selem P ty = some e) (hp : 0 < tsz P e) :
    Does P o st { st with t := up st.t d (.own d), m := up st.m d (.row (tsz P e) []) } := by
  intro keep w E a hI
  obtain ⟨hu, hi⟩ := selem_eq he
  have hrun : (execOp a.eval o).run P w = .ok (.value (.slice (some ⟨w.heap.size, 0, none⟩) 0 0)) (w.alloc (.cells #[] e)) := by
    unfold execOp
    rw [ho]
    simp [Instr.buildSlice, run_underlying hu, run_sizeOf hi, Instr.fill, newRow, Array.range_zero']
  refine ⟨_, _, E.set d (some (w.heap.size, 0, tsz P e)), .inl hrun, ?_, Evo.grow hI ⟨rfl, rfl, rfl⟩ (by simp) (fun j hj => Go.heap_alloc_old w (.cells #[] e) hj) rfl (Env.set_pin (St.fresh_pin hf))⟩
  rw [hd]
  exact row_new (e := e) (w' := w.alloc (.cells #[] e)) hI hf hn [] [] 0 (tsz P e) #[] (by simp) (fun i hi => Go.heap_alloc_old w _ hi) (Go.heap_alloc_new w _) RepL.nil hp (fun _ => rfl) (Nat.le_refl _) (by simp [maxLen]) (by simp) (fun i u hu => by simp at hu)

/-- What is made: a condition, and the state behind. -/
structure Mk where
  c : Prop
  st : St
def crtA (P : Program) (st : St) (d : Nat) (xs : List Operand) (ts : List TypeId) : Option Mk :=
  match xs, ts with
  | [x, y], [ty, ty'] => match selem P ty, (aval st y).bind (rowOf st) with
    | some e, some ys => match tzero P e with
      | some z => if ty = ty' ∧ z.cells.size = tsz P e ∧ 0 < tsz P e then
          (match aval st x with
          | some .nil => some ⟨(st.fresh d = true ∧ d < st.n) ∧ (∀ u ∈ ys, u.fits (tsz P e) = true) ∧ ys.length * (tby P e + 1) ≤ 140737488355328, { st with t := up st.t d (.own d), m := up st.m d (.row (tsz P e) ys) }⟩
          | some (.own t) => match lk st.m t with
            | some (.row k zs) => if k = tsz P e then some ⟨(st.fresh d = true ∧ d < st.n) ∧ (∀ u ∈ ys, u.fits (tsz P e) = true) ∧ (zs.length + ys.length) * (tby P e + 1) ≤ 140737488355328, { st with t := up st.t d (.own d), m := up (rm st.m t) d (.row (tsz P e) (zs ++ ys)) }⟩ else none
            | _ => none
          | _ => none)
        else none
      | none => none
    | _, _ => none
  | _, _ => none
def crt (P : Program) (o : Oper) (st : St) : Option Mk :=
  match o.dst with
  | none => none
  | some d => match o.op with
    | .alloc e => (tzero P e).map fun z => ⟨st.fresh d = true ∧ d < st.n, { st with t := up st.t d (.box d 0), m := up st.m d (.box (z.cells.toList.map avC)) }⟩
    | .box e x => ((aval st x).bind (AV.cells (lk st.m))).map fun cs => ⟨st.fresh d = true ∧ d < st.n, { st with t := up st.t d (.box d 0), m := up st.m d (.box cs) }⟩
    | .makeSlice ty x y => match aval st x, aval st y, selem P ty with
      | some (.sv (.val (.int _ n))), some (.sv (.val (.int _ n'))), some e => match tzero P e with
        | some z => if (zeroSV z).fits (tsz P e) = true ∧ tsz P e ≠ 0 then some ⟨(st.fresh d = true ∧ d < st.n) ∧ n' = n ∧ 0 ≤ n ∧ n.toNat * (tby P e + 1) ≤ 140737488355328, { st with t := up st.t d (.own d), m := up st.m d (.row (tsz P e) (List.replicate n.toNat (zeroSV z))) }⟩ else none
        | none => none
      | _, _, _ => none
    | .buildSlice ty len ps => match selem P ty with
      | some e => match tzero P e with
        | some z => if (zeroSV z).fits (tsz P e) = true ∧ tsz P e ≠ 0 ∧ len * tsz P e ≤ 65536 then
            (if len = 0 then (if ps.size = 0 then some ⟨st.fresh d = true ∧ d < st.n, { st with t := up st.t d (.own d), m := up st.m d (.row (tsz P e) []) }⟩ else none)
            else (aparts st (tsz P e) (List.replicate len (zeroSV z)) ps.toList).map fun xs => ⟨st.fresh d = true ∧ d < st.n, { st with t := up st.t d (.own d), m := up st.m d (.row (tsz P e) xs) }⟩)
          else none
        | none => none
      | none => none
    | .build ty ps => match tzero P ty, splaces P ty with
      | some z, some pl => (afill st (fun i => pl[i]?) (z.cells.toList.map svC) ps.toList).map fun xs => ⟨d < st.n, st.put (some d) (.sv (.agg xs))⟩
      | _, _ => none
    | .slice ty x lo (some (.const (.int _ h))) (some (.const (.int _ m))) => if h = 0 ∧ m = 0 then (match (aval st x).bind (rowOf st), selem P ty, bnd st 0 lo with
      | some _, some e, some l => if l = 0 ∧ 0 < tsz P e then some ⟨st.fresh d = true ∧ d < st.n, { st with t := up st.t d (.own d), m := up st.m d (.row (tsz P e) []) }⟩ else none
      | _, _, _ => none) else none
    | .call { callee := .builtin .append, args := xs, argTypes := ts } => crtA P st d xs.toList ts.toList
    | _ => none
theorem crt_does {P : Program} {o : Oper} {st : St} {m : Mk} (h : crt P o st = some m) (hc : m.c) : Does P o st m.st := by
  unfold crt at h
  split at h
  case h_1 => cases h
  rename_i d hd
  split at h
  · rename_i e ho
    obtain ⟨z, hz, rfl⟩ := Option.map_eq_some_iff.1 h
    exact does_alloc ho hd hc.1 hc.2 hz
  · rename_i e x ho
    obtain ⟨cs, hcs, rfl⟩ := Option.map_eq_some_iff.1 h
    obtain ⟨X, hX, hcs⟩ := Option.bind_eq_some_iff.1 hcs
    exact does_box ho hd hc.1 hc.2 hX hcs
  · rename_i ty x y ho
    split at h
    case h_2 => cases h
    rename_i k n k' n' e hx hy he
    split at h
    case h_2 => cases h
    rename_i z hz
    split at h
    case isFalse => cases h
    rename_i hf
    simp only [Option.some.injEq] at h; subst h
    obtain ⟨⟨c1, c2⟩, rfl, c3, c4⟩ := hc
    exact does_make ho hd c1 c2 hx hy he hz c3 c4 hf.1 hf.2
  · rename_i ty len ps ho
    split at h
    case h_2 => cases h
    rename_i e he
    split at h
    case h_2 => cases h
    rename_i z hz
    split at h
    case isFalse => cases h
    rename_i hf
    split at h
    · rename_i hl
      split at h
      case isFalse => cases h
      rename_i hps
      have hps' : ps = #[] := Array.eq_empty_of_size_eq_zero hps
      subst hl; subst hps'
      simp only [Option.some.injEq] at h; subst h
      exact does_build0 ho hd hc.1 hc.2 he (by omega)
    · rename_i hl
      obtain ⟨xs, hxs, rfl⟩ := Option.map_eq_some_iff.1 h
      exact does_buildSlice ho hd hc.1 hc.2 he hz hf.1 hf.2.1 hl hf.2.2 hxs
  · rename_i ty ps ho
    split at h
    case h_2 => cases h
    rename_i z pl hz hpl
    obtain ⟨xs, hxs, rfl⟩ := Option.map_eq_some_iff.1 h
    rw [← hd]
    exact does_build ho hz hpl hxs (by rw [hd]; simpa [St.fitsDst] using hc)
  · rename_i ty x lo k1 h1 k2 m1 ho
    split at h
    case isFalse => cases h
    rename_i h0
    obtain ⟨rfl, rfl⟩ := h0
    split at h
    case h_2 => cases h
    rename_i xs e l hxs he hl
    split at h
    case isFalse => cases h
    rename_i h0
    obtain ⟨rfl, h0⟩ := h0
    simp only [Option.some.injEq] at h; subst h
    obtain ⟨X, hX, hxs⟩ := Option.bind_eq_some_iff.1 hxs
    exact does_slice0 (sz := 0) ho hX hxs he hl hd hc.1 hc.2 h0
  · rename_i xs ts ho
    unfold crtA at h
    split at h
    case h_2 => cases h
    rename_i x y ty ty' hxs hts
    have e1 : xs = #[x, y] := Array.toList_inj.1 (by simpa using hxs)
    have e2 : ts = #[ty, ty'] := Array.toList_inj.1 (by simpa using hts)
    subst e1; subst e2
    split at h
    case h_2 => cases h
    rename_i e ys he hys
    split at h
    case h_2 => cases h
    rename_i z hz
    split at h
    case isFalse => cases h
    rename_i hq
    obtain ⟨rfl, q1, q2⟩ := hq
    obtain ⟨Y, hY, hys⟩ := Option.bind_eq_some_iff.1 hys
    split at h
    · rename_i hx
      simp only [Option.some.injEq] at h; subst h
      exact does_append_nil ho hd hc.1.1 hc.1.2 he hz q1 q2 hx hY hys hc.2.1 hc.2.2
    · rename_i t hx
      split at h
      · rename_i k zs hm
        split at h
        case isFalse => cases h
        rename_i hk
        subst hk
        simp only [Option.some.injEq] at h; subst h
        exact does_append_own ho hd hc.1.1 hc.1.2 he hz q1 q2 hx hm hY hys hc.2.1 hc.2.2
      · cases h
    · cases h
  · cases h

/-! ### Code, run by itself -/
inductive Fr where
  | seq (y : Code)
  | blk (id : Nat)
  | scp
def kq (P : Program) (Q : Exit → St → Prop) : List Fr → Exit → St → Prop
  | [] => Q
  | .seq y :: k => thenQ (Tr P y (kq P Q k)) (kq P Q k)
  | .blk id :: k => blockQ id (kq P Q k)
  | .scp :: k => scopeQ (kq P Q k)
/-- Code, and what is to be done behind it. -/
def TrK (P : Program) (Q : Exit → St → Prop) (c : Code) (k : List Fr) (st : St) : Prop := Tr P c (kq P Q k) st
/-- The rest of a region, and what is to be done behind it. -/
def RnK (P : Program) (Q : Exit → St → Prop) (ops : Array Oper) (l : List Oper) (k : List Fr) (st : St) : Prop := Rn P ops l (fun st' => kq P Q k .normal st') st
def CondW (P : Program) (Q : Exit → St → Prop) (b : Bool) (x y : Code) (k : List Fr) (st : St) : Prop := (b = true → TrK P Q x k st) ∧ (b = false → TrK P Q y k st)
def LoopW (P : Program) (Q : Exit → St → Prop) (c : Code) (k : List Fr) (st : St) : Prop := TrK P Q (.loop c) k st
def DrawW (P : Program) (Q : Exit → St → Prop) (id : Nat) (ops : Array Oper) (k : List Fr) (st : St) : Prop := TrK P Q (.region id ops true) k st
def GuardW (P : Program) (Q : Exit → St → Prop) (ops : Array Oper) (o : Oper) (l : List Oper) (k : List Fr) (st : St) : Prop := RnK P Q ops (o :: l) k st
def OpW (P : Program) (Q : Exit → St → Prop) (ops : Array Oper) (o : Oper) (l : List Oper) (k : List Fr) (st : St) : Prop := RnK P Q ops (o :: l) k st

def popTo (id : Nat) : List Fr → Option (List Fr)
  | [] => none
  | .seq _ :: k => popTo id k
  | .blk i :: k => if i = id then some k else popTo id k
  | .scp :: k => popTo id k
theorem popTo_spec {P : Program} {Q : Exit → St → Prop} {id : Nat} {st : St} : ∀ {k k' : List Fr}, popTo id k = some k' → kq P Q k' .normal st → kq P Q k (.exit id) st
  | [], k', h, _ => by simp [popTo] at h
  | .seq y :: k, k', h, hq => by
    simp only [popTo] at h
    simp only [kq, thenQ]
    exact popTo_spec h hq
  | .blk i :: k, k', h, hq => by
    simp only [popTo] at h
    simp only [kq, blockQ]
    split at h
    · rename_i e; simp only [Option.some.injEq] at h; subst h; rw [if_pos e.symm]; exact hq
    · rename_i e; rw [if_neg (Ne.symm e)]; exact popTo_spec h hq
  | .scp :: k, k', h, hq => by
    simp only [popTo] at h
    simp only [kq, scopeQ]
    exact popTo_spec h hq
theorem popNone_spec {P : Program} {Q : Exit → St → Prop} {id : Nat} {st : St} : ∀ {k : List Fr}, popTo id k = none → Q (.exit id) st → kq P Q k (.exit id) st
  | [], _, hq => hq
  | .seq y :: k, h, hq => by
    simp only [popTo] at h
    simp only [kq, thenQ]
    exact popNone_spec h hq
  | .blk i :: k, h, hq => by
    simp only [popTo] at h
    simp only [kq, blockQ]
    split at h
    · cases h
    · rename_i e; rw [if_neg (Ne.symm e)]; exact popNone_spec h hq
  | .scp :: k, h, hq => by
    simp only [popTo] at h
    simp only [kq, scopeQ]
    exact popNone_spec h hq
theorem ret_spec {P : Program} {Q : Exit → St → Prop} {st : St} : ∀ {k : List Fr}, Q .ret st → kq P Q k .ret st
  | [], hq => hq
  | .seq y :: k, hq => by simp only [kq, thenQ]; exact ret_spec hq
  | .blk i :: k, hq => by simp only [kq, blockQ]; exact ret_spec hq
  | .scp :: k, hq => by simp only [kq, scopeQ]; exact ret_spec hq

def csz : Code → Nat
  | .seq a b => csz a + csz b + 2
  | .cond _ a b => csz a + csz b + 2
  | .block _ a => csz a + 2
  | .loop a => csz a + 2
  | .scope a => csz a + 2
  | .region _ ops _ => 2 * ops.size + 3
  | _ => 1
def ksz : List Fr → Nat
  | [] => 0
  | .seq y :: k => csz y + 1 + ksz k
  | .blk _ :: k => 1 + ksz k
  | .scp :: k => 1 + ksz k
theorem ksz_pop {id : Nat} : ∀ {k k' : List Fr}, popTo id k = some k' → ksz k' ≤ ksz k
  | [], k', h => by simp [popTo] at h
  | .seq y :: k, k', h => by simp only [popTo] at h; have := ksz_pop h; simp only [ksz]; omega
  | .blk i :: k, k', h => by
    simp only [popTo] at h
    split at h
    · simp only [Option.some.injEq] at h; subst h; simp only [ksz]; omega
    · have := ksz_pop h; simp only [ksz]; omega
  | .scp :: k, k', h => by simp only [popTo] at h; have := ksz_pop h; simp only [ksz]; omega

mutual
/-- Code is run, as far as it goes by itself. -/
def ex (P : Program) (Q : Exit → St → Prop) (c : Code) (k : List Fr) (st : St) : Prop :=
  match c with
  | .skip => nr P Q k st
  | .seq a b => ex P Q a (.seq b :: k) st
  | .block id a => ex P Q a (.blk id :: k) st
  | .scope a => ex P Q a (.scp :: k) st
  | .cond c a b => match aval st c with
    | some (.sv (.val (.bool x))) => cnd P Q x a b k st
    | _ => False
  | .exit id => match h : popTo id k with
    | some k' => nr P Q k' st
    | none => Q (.exit id) st
  | .ret => Q .ret st
  | .region id ops draw => if draw = true then DrawW P Q id ops k st else rn P Q ops ops.toList k st
  | .loop c => LoopW P Q c k st
  | .label _ => nr P Q k st
  | _ => False
  termination_by (csz c + ksz k, 2)
  decreasing_by
  all_goals simp only [csz, ksz, Prod.lex_def]
  all_goals first | omega | (have := ksz_pop h; omega) | (simp; omega)
/-- A test: known, or to be parted. -/
def cnd (P : Program) (Q : Exit → St → Prop) (x : Bool) (a b : Code) (k : List Fr) (st : St) : Prop :=
  match x with
  | true => ex P Q a k st
  | false => ex P Q b k st
  termination_by (csz a + csz b + ksz k + 1, 0)
  decreasing_by
  all_goals simp only [csz, ksz, Prod.lex_def]
  all_goals omega
def nr (P : Program) (Q : Exit → St → Prop) (k : List Fr) (st : St) : Prop :=
  match k with
  | [] => Q .normal st
  | .seq y :: k => ex P Q y k st
  | .blk _ :: k => nr P Q k st
  | .scp :: k => nr P Q k st
  termination_by (ksz k, 0)
  decreasing_by
  all_goals simp only [csz, ksz, Prod.lex_def]
  all_goals omega
def rn (P : Program) (Q : Exit → St → Prop) (ops : Array Oper) (l : List Oper) (k : List Fr) (st : St) : Prop :=
  match l with
  | [] => nr P Q k st
  | o :: l => match grd ops st o with
    | some b => gd P Q b ops o l k st
    | none => False
  termination_by (ksz k + 2 * l.length + 1, 0)
  decreasing_by
  all_goals simp only [csz, ksz, Prod.lex_def, List.length_cons]
  all_goals omega
/-- An operation that is wanted, or not. -/
def gd (P : Program) (Q : Exit → St → Prop) (b : Bool) (ops : Array Oper) (o : Oper) (l : List Oper) (k : List Fr) (st : St) : Prop :=
  match b with
  | true => match dlt P o st with
      | some d => (d.c ∧ st.fitsDst o.dst = true) ∧ rn P Q ops l k (st.app o.dst d)
      | none => match crt P o st with
        | some m => m.c ∧ rn P Q ops l k m.st
        | none => OpW P Q ops o l k st
  | false => st.fitsDst o.dst = true ∧ rn P Q ops l k (st.put o.dst (.sv (.val undef)))
  termination_by (ksz k + 2 * l.length + 2, 0)
  decreasing_by
  all_goals simp only [csz, ksz, Prod.lex_def, List.length_cons]
  all_goals omega
end

/-- What is run by itself, holds. -/
theorem run_sound {P : Program} {Q : Exit → St → Prop} : ∀ (n : Nat),
    (∀ c k st, csz c + ksz k < n → ex P Q c k st → TrK P Q c k st) ∧ (∀ k st, ksz k < n → nr P Q k st → kq P Q k .normal st) ∧
    (∀ ops l k st, ksz k + 2 * l.length + 1 < n → rn P Q ops l k st → RnK P Q ops l k st) ∧ (∀ b ops o l k st, ksz k + 2 * l.length + 2 < n → grd ops st o = some b → gd P Q b ops o l k st → RnK P Q ops (o :: l) k st)
  | 0 => ⟨fun _ _ _ h => by omega, fun _ _ h => by omega, fun _ _ _ _ h => by omega, fun _ _ _ _ _ _ h => by omega⟩
  | n + 1 => by
    obtain ⟨h1, h2, h3, h4⟩ := run_sound (P := P) (Q := Q) n
    have hnr : ∀ k st, ksz k < n + 1 → nr P Q k st → kq P Q k .normal st := fun k => by
      induction k with
      | nil => intro st _ h; simpa only [nr, kq] using h
      | cons f k ih =>
        intro st hs h
        cases f with
        | seq y =>
          simp only [nr] at h
          simp only [ksz] at hs
          exact h1 y k st (by omega) h
        | blk id =>
          simp only [nr] at h
          simp only [ksz] at hs
          exact ih st (by omega) h
        | scp =>
          simp only [nr] at h
          simp only [ksz] at hs
          exact ih st (by omega) h
    have hgd : ∀ b ops o l k st, ksz k + 2 * l.length + 2 < n + 1 → grd ops st o = some b → gd P Q b ops o l k st → RnK P Q ops (o :: l) k st := fun b ops o l k st hs hg h => by
      cases b with
      | true =>
        simp only [gd] at h
        split at h
        · rename_i d hd
          exact Rn.step hg (dlt_does hd h.1.1 h.1.2) (h3 ops l k _ (by omega) h.2)
        · split at h
          · rename_i m hm
            exact Rn.step hg (crt_does hm h.1) (h3 ops l k _ (by omega) h.2)
          · exact h
      | false =>
        simp only [gd] at h
        exact Rn.skip hg h.1 (h3 ops l k _ (by omega) h.2)
    have hrn : ∀ ops l k st, ksz k + 2 * l.length + 1 < n + 1 → rn P Q ops l k st → RnK P Q ops l k st := fun ops l k st hs h => by
      cases l with
      | nil => simp only [rn] at h; exact Rn.nil (hnr k st (by omega) h)
      | cons o l =>
        simp only [rn] at h
        simp only [List.length_cons] at hs
        split at h
        · rename_i b hg; exact hgd b ops o l k st (by omega) hg h
        · exact h.elim
    refine ⟨fun c k st hs h => ?_, hnr, hrn, hgd⟩
    cases c with
    | skip => simp only [ex] at h; exact Tr.skip (hnr k st (by simp only [csz] at hs; omega) h)
    | region id ops draw =>
      simp only [ex] at h
      split at h
      · rename_i hd; subst hd; exact h
      · rename_i hd
        have hd' : draw = false := by simpa using hd
        subst hd'
        have := hrn ops ops.toList k st (by simp only [csz] at hs; simp; omega) h
        exact Tr.region (l := ops.toList) this
    | seq a b => simp only [ex] at h; exact Tr.seq (h1 a (.seq b :: k) st (by simp only [csz] at hs; simp only [ksz]; omega) h)
    | cond c a b =>
      simp only [ex] at h
      simp only [csz] at hs
      split at h
      · rename_i x hx
        refine Tr.cond hx (fun e => ?_) (fun e => ?_)
        · subst e; simp only [cnd] at h; exact h1 a k st (by omega) h
        · subst e; simp only [cnd] at h; exact h1 b k st (by omega) h
      · exact h.elim
    | block id a => simp only [ex] at h; exact Tr.block (h1 a (.blk id :: k) st (by simp only [csz] at hs; simp only [ksz]; omega) h)
    | loop a => simp only [ex] at h; exact h
    | exit id =>
      simp only [ex] at h
      split at h
      · rename_i k' hp
        exact Tr.exit (popTo_spec hp (hnr k' st (by have := ksz_pop hp; simp only [csz] at hs; omega) h))
      · rename_i hp; exact Tr.exit (popNone_spec hp h)
    | label id => simp only [ex] at h; exact Tr.label (hnr k st (by simp only [csz] at hs; omega) h)
    | ret => simp only [ex] at h; exact Tr.ret (ret_spec h)
    | goto l => simp only [ex] at h
    | rangeFunc f ps as_ b => simp only [ex] at h
    | scope b => simp only [ex] at h; exact Tr.scope (h1 b (.scp :: k) st (by simp only [csz] at hs; simp only [ksz]; omega) h)
    | refuse w => simp only [ex] at h
theorem TrK.ex {P : Program} {Q : Exit → St → Prop} {c : Code} {k : List Fr} {st : St} (h : Ab.ex P Q c k st) : TrK P Q c k st := (run_sound (csz c + ksz k + 1)).1 c k st (by omega) h
theorem RnK.rn {P : Program} {Q : Exit → St → Prop} {ops : Array Oper} {l : List Oper} {k : List Fr} {st : St} (h : Ab.rn P Q ops l k st) : RnK P Q ops l k st := (run_sound (ksz k + 2 * l.length + 2)).2.2.1 ops l k st (by omega) h
theorem Tr.ex {P : Program} {Q : Exit → St → Prop} {c : Code} {st : St} (h : Ab.ex P Q c [] st) : Tr P c Q st := TrK.ex (k := []) h
theorem cnd.part {P : Program} {Q : Exit → St → Prop} {x : Bool} {a b : Code} {k : List Fr} {st : St} (h1 : x = true → Ab.ex P Q a k st) (h2 : x = false → Ab.ex P Q b k st) : cnd P Q x a b k st := by
  cases x with
  | true => simp only [cnd]; exact h1 rfl
  | false => simp only [cnd]; exact h2 rfl
theorem gd.part {P : Program} {Q : Exit → St → Prop} {x : Bool} {ops : Array Oper} {o : Oper} {l : List Oper} {k : List Fr} {st : St} (h1 : x = true → gd P Q true ops o l k st) (h2 : x = false → gd P Q false ops o l k st) : gd P Q x ops o l k st := by
  cases x with
  | true => exact h1 rfl
  | false => exact h2 rfl
/-- What is to be done behind a piece of code, by the way it is left. -/
def kx (P : Program) (Q : Exit → St → Prop) (k : List Fr) (e : Exit) (st : St) : Prop :=
  match e with
  | .normal => nr P Q k st
  | .exit id => match popTo id k with
    | some k' => nr P Q k' st
    | none => Q (.exit id) st
  | .ret => Q .ret st
  | _ => False
theorem kx_kq {P : Program} {Q : Exit → St → Prop} {k : List Fr} {e : Exit} {st : St} (h : kx P Q k e st) : kq P Q k e st := by
  have hnr : ∀ k, nr P Q k st → kq P Q k .normal st := fun k hk => (run_sound (ksz k + 1)).2.1 k st (by omega) hk
  cases e with
  | normal => exact hnr k h
  | exit id =>
    simp only [kx] at h
    split at h
    · rename_i k' hp; exact popTo_spec hp (hnr k' h)
    · rename_i hp; exact popNone_spec hp h
  | ret => exact ret_spec h
  | _ => exact h.elim
/-- The post of a round. -/
def loopQ (P : Program) (Q : Exit → St → Prop) (k : List Fr) (K : St → Prop) (e : Exit) (st : St) : Prop :=
  match e with
  | .normal => K st
  | e => kx P Q k e st
/-- A loop. -/
theorem LoopW.of {P : Program} {Q : Exit → St → Prop} {c : Code} {k : List Fr} {st : St} {σ : Type} (S : σ → St) (I : σ → Prop) (μ : σ → Nat) (s0 : σ) (h0 : I s0) (hst : Ent st (S s0))
    (round : ∀ s, I s → Ab.ex P (loopQ P Q k (fun st' => ∃ s', I s' ∧ μ s' < μ s ∧ Ent st' (S s'))) c [] (S s)) : LoopW P Q c k st :=
  Tr.loop S I μ s0 h0 hst fun s hs => Tr.mono (Tr.ex (round s hs)) fun e st' h => by
    cases e with
    | normal => exact h
    | _ => exact kx_kq h
/-- A piece of code ahead of more: what it leaves. -/
theorem ex.cut {P : Program} {Q : Exit → St → Prop} {c : Code} {k : List Fr} {st : St} {σ : Type} (S : σ → St) (I : σ → Prop) (h : Ab.ex P (loopQ P Q k (fun st' => ∃ s, I s ∧ Ent st' (S s))) c [] st) (hk : ∀ s, I s → nr P Q k (S s)) : TrK P Q c k st :=
  Tr.mono' (Tr.ex h) fun keep w E a e st' hI hq => by
    cases e with
    | normal =>
      obtain ⟨s, hs, hent⟩ := hq
      obtain ⟨E', h1, h2⟩ := hent keep w E a hI
      exact ⟨S s, E', h1, h2, kx_kq (e := .normal) (hk s hs)⟩
    | _ => exact ⟨st', E, hI, Evo.refl _ _ _, kx_kq hq⟩
where
  Tr.mono' {P : Program} {Q Q' : Exit → St → Prop} {c : Code} {st : St} (h : Tr P c Q st) (hq : ∀ (keep : Nat → Prop) (w : World) (E : Env) (a : Act) (e : Exit) (st' : St), Inv keep w E st' a → Q e st' → ∃ st2 E2, Inv keep w E2 st2 a ∧ Evo keep w E w E2 ∧ Q' e st2) : Tr P c Q' st := fun keep w E a hI =>
    Code.wp_mono (fun e a' w' ⟨st', E', h1, h2, h3⟩ => by
      obtain ⟨st2, E2, k1, k2, k3⟩ := hq keep w' E' a' e st' h1 h3
      exact ⟨st2, E2, k1, h2.trans k2, k3⟩) (h keep w E a hI)
end Go.Proofs.YtfcojlagmmgagaaDoor.Ab
