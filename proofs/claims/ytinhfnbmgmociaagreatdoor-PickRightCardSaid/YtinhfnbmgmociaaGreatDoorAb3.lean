/- The abstract layer, part N: regions that draw their order: any order comes to what the text's comes to. The abstract layer, part O: regions that draw their order, run by themselves; calls. The abstract layer, part P: what the run unfolds. The abstract layer, part Q: results that are shared. The abstract layer, part S: calls that change what their caller owns. The abstract layer, part R: what is read as data of a type is a shared value; from a contract to a row. The abstract layer, part T: a slice held against nil. The abstract layer, part U: a halt behind a region; a slice whose length alone is known. The abstract layer, part V: what is made in a region that draws; structs that hold what is owned; rows of slices. The abstract layer, part W: rows whose elements are rows that are owned: tags from 2000 on. -/
import Derived.Test.YtinhfnbmgmociaaGreatDoorAb2
import Derived.Orders
import Derived.ChangeArms
import Derived.SizedLaws
import Derived.ChangeSlices
import Derived.OpenShut
import Derived.WideShapes
import Derived.ChangeOld
import Derived.ShutString
import Derived.ProofKit
import Derived.Laws.Cover3
namespace Go.Proofs.YtinhfnbmgmociaaGreatDoor.Ab
open Go.RowKit
set_option linter.unusedVariables false
set_option linter.unusedSimpArgs false

/-- The footprint of one operation: temporaries and tags that it reads; tags whose kind and size it reads; what it writes; the tag that it makes; whether it makes or ends tags; the tags that its boxes hold. -/
structure Ft where
  rT : List Nat
  rM : List Nat
  sM : List Nat
  wT : Option (Nat × AV)
  wM : List (Nat × Option Obj')
  nw : Option Nat
  hv : Bool
  hs : List Nat
def upo {α : Type} (l : List (Nat × α)) (w : Option (Nat × α)) : List (Nat × α) := match w with
  | some (k, x) => up l k x
  | none => l
def upm (l : List (Nat × Obj')) : List (Nat × Option Obj') → List (Nat × Obj')
  | [] => l
  | (k, some o) :: r => up (upm l r) k o
  | (k, none) :: r => rm (upm l r) k
theorem lk_upo {α : Type} (l : List (Nat × α)) (w : Option (Nat × α)) (d : Nat) : lk (upo l w) d = match lk w.toList d with | some x => some x | none => lk l d := by
  unfold upo
  cases w with
  | none => rfl
  | some p =>
    obtain ⟨k, x⟩ := p
    simp only [Option.toList_some, lk]
    rw [lk_up]
    split <;> rfl
theorem lk_upm (l : List (Nat × Obj')) (d : Nat) : ∀ (w : List (Nat × Option Obj')), lk (upm l w) d = match lk w d with | some x => x | none => lk l d
  | [] => rfl
  | (k, some o) :: r => by
    simp only [upm, lk, lk_up]
    split
    · rfl
    · exact lk_upm l d r
  | (k, none) :: r => by
    simp only [upm, lk, lk_rm]
    split
    · rfl
    · exact lk_upm l d r
def St.upd (st : St) (f : Ft) : St := { st with t := upo st.t f.wT, m := upm st.m f.wM }
/-- Nothing holds a tag. -/
def Fresh (s : St) (d : Nat) : Prop := d < 1000000 ∧ lk s.m d = none ∧ (∀ e x, lk s.t e = some x → x.holds d = false) ∧ ∀ t cs, lk s.m t = some (.box cs) → AV.holdsL d cs = false

def OStep (P : Program) (ops : Array Oper) (o : Oper) (st st' : St) : Prop :=
  ∀ (keep : Nat → Prop) (w : World) (E : Env) (a : Act), Inv keep w E st a → ∀ (N : Act → World → Prop) (Q : Exit → Act → World → Prop), (∀ a' w' E', Inv keep w' E' st' a' → Evo keep w E w' E' → N a' w') →
    if Region.wanted o (yielded ops a.tmps) = true then o.wp P a w N Q else N (a.put o.dst undef) w
/-- Alike in kind and in size. -/
def OLk : Option Obj' → Option Obj' → Prop
  | none, none => True
  | some (.row k xs), some (.row k' ys) => k = k' ∧ xs.length = ys.length
  | some (.box cs), some (.box ds) => cs.length = ds.length
  | _, _ => False
theorem OLk.refl (o : Option Obj') : OLk o o := by
  cases o with
  | none => trivial
  | some o => cases o with
    | row k xs => exact ⟨rfl, rfl⟩
    | box cs => exact rfl
theorem OLk.trans {a b c : Option Obj'} (h : OLk a b) (k : OLk b c) : OLk a c := by
  cases a with
  | none => cases b with
    | none => exact k
    | some b => exact h.elim
  | some a => cases b with
    | none => cases a <;> exact h.elim
    | some b => cases c with
      | none => cases b <;> exact k.elim
      | some c => cases a with
        | row _ _ => cases b with
          | row _ _ => cases c with
            | row _ _ => exact ⟨h.1.trans k.1, h.2.trans k.2⟩
            | box _ => exact k.elim
          | box _ => exact h.elim
        | box _ => cases b with
          | row _ _ => exact h.elim
          | box _ => cases c with
            | row _ _ => exact k.elim
            | box _ => exact Eq.trans h k
theorem OLk.symm {a b : Option Obj'} (h : OLk a b) : OLk b a := by
  cases a with
  | none => cases b with
    | none => trivial
    | some b => exact h.elim
  | some a => cases b with
    | none => cases a <;> exact h.elim
    | some b => cases a with
      | row _ _ => cases b with
        | row _ _ => exact ⟨h.1.symm, h.2.symm⟩
        | box _ => exact h.elim
      | box _ => cases b with
        | row _ _ => exact h.elim
        | box _ => exact Eq.symm h
def LocT (P : Program) (ops : Array Oper) (o : Oper) (st : St) (f : Ft) : Prop :=
  ((f.hv = false → ∀ t x, lk f.wM t = some x → OLk x (lk st.m t)) ∧ ∀ t cs, lk f.wM t = some (some (.box cs)) → ∀ d, AV.holdsL d cs = true → d ∈ f.hs) ∧
  ∀ s : St, s.n = st.n → (∀ d ∈ f.rT, lk s.t d = lk st.t d) → (∀ t ∈ f.rM, lk s.m t = lk st.m t) → (∀ t ∈ f.sM, OLk (lk s.m t) (lk st.m t)) → (∀ d, f.nw = some d → Fresh s d) → OStep P ops o s (s.upd f)
inductive Rd (P : Program) (ops : Array Oper) : List Oper → St → List Ft → St → Prop where
  | nil (st : St) : Rd P ops [] st [] st
  | cons {o : Oper} {l : List Oper} {st st' : St} {f : Ft} {fs : List Ft} : LocT P ops o st f → Rd P ops l (st.upd f) fs st' → Rd P ops (o :: l) st (f :: fs) st'

/-! ### The check -/
def wKeyT (f : Ft) : List Nat := f.wT.toList.map (·.1)
def wKeyM (f : Ft) : List Nat := f.wM.map (·.1)
def apartL (a b : List Nat) : Bool := a.all fun x => !b.contains x
/-- What i writes, j neither reads nor writes. -/
def clear1 (fi fj : Ft) : Bool := apartL (wKeyT fi) fj.rT && apartL (wKeyT fi) (wKeyT fj) && apartL (wKeyM fi) fj.rM && apartL (wKeyM fi) (wKeyM fj)
/-- What is written holds no such tag. -/
def noHold (d : Nat) (f : Ft) : Bool := (f.wT.toList.all fun p => !p.2.holds d) && !f.hs.contains d && !(wKeyM f).contains d
def ordOk (ops : Array Oper) (A : Array Nat) : Bool :=
  (List.range ops.size).all fun j => match ops[j]? with
    | some o => (o.after.toList.all fun e => !Region.binds .any e || decide (e.on < j)) && (List.range ops.size).all fun k => !(A.getD j 0).testBit k || o.after.toList.any fun e => Region.binds .any e && (e.on == k || (A.getD e.on 0).testBit k)
    | none => false
def pairOk (n : Nat) (A : Array Nat) (fs : List Ft) : Bool :=
  (List.range n).all fun i => (List.range n).all fun j => i == j || (A.getD j 0).testBit i || (A.getD i 0).testBit j || match fs[i]?, fs[j]? with
    | some fi, some fj => clear1 fi fj
    | _, _ => false
/-- Those that make or end tags: nothing reads the kind of such a tag; a tag that is made was none, and is held by nothing but what comes behind it. -/
def newOk (D : List Nat) (n : Nat) (A : Array Nat) (fs : List Ft) : Bool :=
  (List.range n).all fun i => match fs[i]? with
    | some fi => (!fi.hv || fs.all fun fj => apartL (wKeyM fi) fj.sM) && match fi.nw with
      | some d => D.contains d && (List.range n).all fun j => i == j || (A.getD j 0).testBit i || match fs[j]? with
        | some fj => noHold d fj
        | none => true
      | none => true
    | none => true
def chk (D : List Nat) (ops : Array Oper) (fs : List Ft) : Bool := ordOk ops (Region.before ops) && pairOk ops.size (Region.before ops) fs && fs.length == ops.size && newOk D ops.size (Region.before ops) fs

section
variable {P : Program} {ops : Array Oper} {A : Array Nat} {fs : List Ft} {n : Nat}
theorem ordOk_spec (h : ordOk ops A = true) {j : Nat} {o : Oper} (ho : ops[j]? = some o) : (∀ e ∈ o.after, Region.binds .any e = true → e.on < j) ∧ ∀ k, k < ops.size → (A.getD j 0).testBit k = true → ∃ e ∈ o.after, Region.binds .any e = true ∧ (e.on = k ∨ (A.getD e.on 0).testBit k = true) := by
  unfold ordOk at h
  rw [List.all_eq_true] at h
  have hj : j < ops.size := (Array.getElem?_eq_some_iff.1 ho).1
  have := h j (List.mem_range.2 hj)
  rw [ho] at this
  simp only [Bool.and_eq_true, List.all_eq_true, Bool.or_eq_true, Bool.not_eq_true', decide_eq_true_eq, List.any_eq_true, List.mem_range] at this
  obtain ⟨h1, h2⟩ := this
  refine ⟨fun e he hb => ?_, fun k hk ht => ?_⟩
  · rcases h1 e (by simpa using he) with h | h
    · rw [hb] at h; cases h
    · exact h
  · rcases h2 k hk with h | ⟨e, he, hb, h⟩
    · rw [ht] at h; cases h
    · exact ⟨e, by simpa using he, hb, h.imp (fun h => by simpa using h) id⟩
theorem anc_lt (h : ordOk ops A = true) : ∀ (j k : Nat), j < ops.size → k < ops.size → (A.getD j 0).testBit k = true → k < j := by
  intro j
  induction j using Nat.strongRecOn with
  | _ j ih =>
    intro k hj hk ht
    obtain ⟨h1, h2⟩ := ordOk_spec h (Array.getElem?_eq_getElem hj)
    obtain ⟨e, he, hb, h3⟩ := h2 k hk ht
    have h4 := h1 e he hb
    rcases h3 with rfl | h3
    · exact h4
    · have := ih e.on h4 k (by omega) hk h3; omega
/-- What is done is done with all ahead of it. -/
def Closed (ops : Array Oper) (D : Nat → Bool) : Prop := ∀ (j : Nat) (o : Oper), ops[j]? = some o → D j = true → ∀ e ∈ o.after, Region.binds .any e = true → D e.on = true
theorem anc_done (h : ordOk ops A = true) {D : Nat → Bool} (hD : Closed ops D) : ∀ (j k : Nat), j < ops.size → k < ops.size → D j = true → (A.getD j 0).testBit k = true → D k = true := by
  intro j
  induction j using Nat.strongRecOn with
  | _ j ih =>
    intro k hj hk hd ht
    obtain ⟨h1, h2⟩ := ordOk_spec h (Array.getElem?_eq_getElem hj)
    obtain ⟨e, he, hb, h3⟩ := h2 k hk ht
    have h4 := h1 e he hb
    have h5 := hD j _ (Array.getElem?_eq_getElem hj) hd e he hb
    rcases h3 with rfl | h3
    · exact h5
    · exact ih e.on h4 k (by omega) hk h5 h3
theorem pairOk_spec (h : pairOk n A fs = true) {i j : Nat} {fi fj : Ft} (hi : i < n) (hj : j < n) (hne : i ≠ j) (h1 : (A.getD j 0).testBit i = false) (h2 : (A.getD i 0).testBit j = false) (hfi : fs[i]? = some fi) (hfj : fs[j]? = some fj) : clear1 fi fj = true := by
  unfold pairOk at h
  rw [List.all_eq_true] at h
  have h3 := h i (List.mem_range.2 hi)
  rw [List.all_eq_true] at h3
  have h4 := h3 j (List.mem_range.2 hj)
  rw [h1, h2, hfi, hfj] at h4
  simpa [hne] using h4
theorem apartL_spec {a b : List Nat} (h : apartL a b = true) {x : Nat} (ha : x ∈ a) (hb : x ∈ b) : False := by
  unfold apartL at h
  rw [List.all_eq_true] at h
  have := h x ha
  simp only [Bool.not_eq_true', List.contains_eq_mem, decide_eq_false_iff_not] at this
  exact this hb
/-- What a key holds, once those of D have been done. -/
def vT {α : Type} (f0 : Nat → Option α) (ws : Nat → List (Nat × α)) (D : Nat → Bool) : Nat → Nat → Option α
  | 0, d => f0 d
  | k + 1, d => if D k = true then (match lk (ws k) d with | some x => some x | none => vT f0 ws D k d) else vT f0 ws D k d
theorem vT_same {α : Type} (f0 : Nat → Option α) (ws : Nat → List (Nat × α)) {D D' : Nat → Bool} {d : Nat} : ∀ k, (∀ j, j < k → (D j = D' j ∨ lk (ws j) d = none)) → vT f0 ws D k d = vT f0 ws D' k d
  | 0, _ => rfl
  | k + 1, h => by
    simp only [vT]
    rw [vT_same f0 ws k (fun j hj => h j (by omega))]
    rcases h k (by omega) with h | h
    · rw [h]
    · rw [h]; simp
theorem vT_stop {α : Type} (f0 : Nat → Option α) (ws : Nat → List (Nat × α)) {D : Nat → Bool} {d i : Nat} : ∀ k, (∀ j, i ≤ j → j < i + k → D j = true → lk (ws j) d = none) → vT f0 ws D (i + k) d = vT f0 ws D i d
  | 0, _ => rfl
  | k + 1, h => by
    rw [← Nat.add_assoc]
    simp only [vT]
    rw [vT_stop f0 ws k (fun j h1 h2 h3 => h j h1 (by omega) h3)]
    split
    · rename_i hd; rw [h (i + k) (by omega) (by omega) hd]
    · rfl
/-- One more is done. -/
theorem vT_one {α : Type} (f0 : Nat → Option α) (ws : Nat → List (Nat × α)) {D : Nat → Bool} {d i : Nat} (hi : D i = false) (hc : ∀ j, i < j → D j = true → ∀ x, lk (ws j) d = some x → lk (ws i) d = none) : ∀ k, vT f0 ws (fun j => D j || j == i) (i + 1 + k) d = match lk (ws i) d with | some x => some x | none => vT f0 ws D (i + 1 + k) d
  | 0 => by
    simp only [Nat.add_zero, vT]
    have h0 : vT f0 ws (fun j => D j || j == i) i d = vT f0 ws D i d := vT_same f0 ws i (fun j hj => .inl (by
      have : (j == i) = false := by simp; omega
      simp [this]))
    rw [h0]
    simp [hi]
  | k + 1 => by
    rw [show i + 1 + (k + 1) = i + 1 + k + 1 by omega]
    simp only [vT]
    rw [vT_one f0 ws hi hc k]
    have : ((i + 1 + k) == i) = false := by simp; omega
    simp only [this, Bool.or_false]
    cases hd : D (i + 1 + k) with
    | false => simp
    | true =>
      simp only [if_true]
      cases hl : lk (ws (i + 1 + k)) d with
      | none => rfl
      | some x => rw [hc _ (by omega) hd x hl]
end

section
variable {P : Program} {ops : Array Oper} {st st' : St} {fs : List Ft}
theorem vT_like (f0 : Nat → Option (Option Obj')) (ws : Nat → List (Nat × Option Obj')) (D : Nat → Bool) (d : Nat) {o : Option Obj'} (h0 : f0 d = some o) (h : ∀ j x, lk (ws j) d = some x → OLk x o) : ∀ k, ∃ x, vT f0 ws D k d = some x ∧ OLk x o
  | 0 => ⟨o, h0, OLk.refl _⟩
  | k + 1 => by
    obtain ⟨x, hx, ih⟩ := vT_like f0 ws D d h0 h k
    simp only [vT]
    split
    · split
      · rename_i y hy; exact ⟨y, rfl, h k y hy⟩
      · exact ⟨x, hx, ih⟩
    · exact ⟨x, hx, ih⟩
theorem vT_from {α : Type} (f0 : Nat → Option α) (ws : Nat → List (Nat × α)) (D : Nat → Bool) (d : Nat) {x : α} : ∀ k, vT f0 ws D k d = some x → f0 d = some x ∨ ∃ j, j < k ∧ D j = true ∧ lk (ws j) d = some x
  | 0, h => .inl h
  | k + 1, h => by
    simp only [vT] at h
    split at h
    · rename_i hD
      split at h
      · rename_i y hy
        simp only [Option.some.injEq] at h; subst h
        exact .inr ⟨k, by omega, hD, hy⟩
      · rcases vT_from f0 ws D d k h with h | ⟨j, h1, h2, h3⟩
        · exact .inl h
        · exact .inr ⟨j, by omega, h2, h3⟩
    · rcases vT_from f0 ws D d k h with h | ⟨j, h1, h2, h3⟩
      · exact .inl h
      · exact .inr ⟨j, by omega, h2, h3⟩
/-- The state behind so many, in the text's order. -/
def pre (st : St) : List Ft → Nat → St
  | _, 0 => st
  | [], _ + 1 => st
  | f :: fs, k + 1 => pre (st.upd f) fs k
theorem Rd.get : ∀ {l : List Oper} {st st' : St} {fs : List Ft}, Rd P ops l st fs st' → fs.length = l.length ∧ pre st fs fs.length = st' ∧ ∀ (i : Nat) (o : Oper), l[i]? = some o → ∃ f, fs[i]? = some f ∧ LocT P ops o (pre st fs i) f
  | _, _, _, _, .nil st => ⟨rfl, rfl, fun i o h => by simp at h⟩
  | _, _, _, _, .cons (o := o) (st := st) (f := f) (fs := fs) h1 h2 => by
    obtain ⟨k1, k2, k3⟩ := Rd.get h2
    refine ⟨by simp [k1], k2, fun i o' ho => ?_⟩
    cases i with
    | zero => simp at ho; subst ho; exact ⟨f, rfl, h1⟩
    | succ i => exact k3 i o' (by simpa using ho)
def wsT (fs : List Ft) (k : Nat) : List (Nat × AV) := match fs[k]? with | some f => f.wT.toList | none => []
def wsM (fs : List Ft) (k : Nat) : List (Nat × Option Obj') := match fs[k]? with | some f => f.wM | none => []
def mI (st : St) (t : Nat) : Option (Option Obj') := some (lk st.m t)
theorem pre_n : ∀ (fs : List Ft) (st : St) (k : Nat), (pre st fs k).n = st.n
  | _, st, 0 => by unfold pre; rfl
  | [], st, k + 1 => rfl
  | f :: fs, st, k + 1 => by simp only [pre]; rw [pre_n fs]; rfl
theorem vT_cons {α : Type} (f0 : Nat → Option α) (ws : Nat → List (Nat × α)) : ∀ (k d : Nat), vT f0 ws (fun _ => true) (k + 1) d = vT (fun d => match lk (ws 0) d with | some x => some x | none => f0 d) (fun j => ws (j + 1)) (fun _ => true) k d
  | 0, d => by simp [vT]
  | k + 1, d => by
    have := vT_cons f0 ws k d
    rw [vT]
    rw [this]
    simp [vT]
theorem pre_t : ∀ (fs : List Ft) (st : St) (k d : Nat), k ≤ fs.length → lk (pre st fs k).t d = vT (lk st.t) (wsT fs) (fun _ => true) k d
  | fs, st, 0, d, _ => by unfold pre; rfl
  | [], st, k + 1, d, h => by simp at h
  | f :: fs, st, k + 1, d, h => by
    simp only [pre]
    rw [pre_t fs (st.upd f) k d (by simpa using h), vT_cons]
    congr 1
    funext e
    simp only [St.upd, lk_upo]
    rfl
theorem pre_m : ∀ (fs : List Ft) (st : St) (k d : Nat), k ≤ fs.length → some (lk (pre st fs k).m d) = vT (mI st) (wsM fs) (fun _ => true) k d
  | fs, st, 0, d, _ => by unfold pre; rfl
  | [], st, k + 1, d, h => by simp at h
  | f :: fs, st, k + 1, d, h => by
    simp only [pre]
    rw [pre_m fs (st.upd f) k d (by simpa using h), vT_cons]
    congr 1
    funext e
    simp only [mI, St.upd, lk_upm]
    rw [show wsM (f :: fs) 0 = f.wM from rfl]
    cases lk f.wM e <;> rfl

/-- A state that is where those of D have been done. -/
def IsAt (st : St) (fs : List Ft) (D : Nat → Bool) (s : St) : Prop :=
  s.n = st.n ∧ (∀ d, lk s.t d = vT (lk st.t) (wsT fs) D fs.length d) ∧ ∀ t, some (lk s.m t) = vT (mI st) (wsM fs) D fs.length t

theorem draw_core {Ds : List Nat} (hD0 : ∀ d ∈ Ds, Fresh st d) (hR : Rd P ops ops.toList st fs st') (hc : chk Ds ops fs = true) {K : St → Prop} (hK : K st') {keep : Nat → Prop} {w0 : World} {E0 : Env} :
    ∀ (fuel : Nat) (listed : Array Bool) (s : St) (a : Act) (w : World) (E : Env), listed.size = ops.size → Closed ops (fun i => listed.getD i false) → (∃ un : List Nat, un.length = fuel ∧ ∀ i, i < ops.size → listed.getD i false = false → i ∈ un) → Inv keep w E s a → Evo keep w0 E0 w E → IsAt st fs (fun i => listed.getD i false) s →
      wpAny P .any ops (fun e a' w' => ∃ st' E', Inv keep w' E' st' a' ∧ Evo keep w0 E0 w' E' ∧ e = .normal ∧ K st') fuel listed a w := by
  obtain ⟨hlen, hpre, hget⟩ := hR.get
  simp only [chk, Bool.and_eq_true, beq_iff_eq] at hc
  obtain ⟨⟨⟨hord, hpair⟩, hfl⟩, hnew⟩ := hc
  simp only [Array.length_toList, Array.getElem?_toList] at hlen hget
  -- when nothing may come up, all has been done
  have done : ∀ (listed : Array Bool) (s : St) (a : Act) (w : World) (E : Env), listed.size = ops.size → Region.ready .any ops listed = [] → Inv keep w E s a → Evo keep w0 E0 w E → IsAt st fs (fun i => listed.getD i false) s → ∃ st' E', Inv keep w E' st' a ∧ Evo keep w0 E0 w E' ∧ Exit.normal = Exit.normal ∧ K st' := by
    intro listed s a w E hsz hr hI hE hat
    have hall : ∀ i, i < ops.size → listed.getD i false = true := by
      intro i
      induction i using Nat.strongRecOn with
      | _ i ih =>
        intro hi
        cases hl : listed.getD i false with
        | true => rfl
        | false =>
          exfalso
          have : i ∈ Region.ready .any ops listed := by
            rw [mem_ready]
            refine ⟨?_, ops[i], Array.getElem?_eq_getElem hi, fun e he hb => ?_⟩
            · rw [Array.getD_eq_getD_getElem?] at hl ⊢
              rw [Array.getElem?_eq_getElem (by omega)] at hl ⊢
              exact hl
            · have := (ordOk_spec hord (Array.getElem?_eq_getElem hi)).1 e he hb
              exact ih e.on this (by omega)
          rw [hr] at this
          cases this
    refine ⟨st', E, hI.le ⟨?_, fun d x hx => ?_, fun t o ho => ?_⟩, hE, rfl, hK⟩
    · rw [← hpre, pre_n]; exact hat.1
    · rw [hat.2.1 d, ← hx, ← hpre, pre_t fs st _ d (Nat.le_refl _)]
      exact vT_same _ _ _ (fun j hj => .inl (hall j (by omega)))
    · refine Option.some.inj ?_
      rw [hat.2.2 t, ← ho, ← hpre, pre_m fs st _ t (Nat.le_refl _)]
      exact vT_same _ _ _ (fun j hj => .inl (hall j (by omega)))
  intro fuel
  induction fuel with
  | zero =>
    intro listed s a w E hsz hcl ⟨un, hun, hmem⟩ hI hE hat
    have hun0 : un = [] := List.eq_nil_of_length_eq_zero hun
    subst hun0
    have hr : Region.ready .any ops listed = [] := by
      rw [List.eq_nil_iff_forall_not_mem]
      intro i hi
      rw [mem_ready] at hi
      obtain ⟨h1, o, ho, _⟩ := hi
      have hlt : i < ops.size := (Array.getElem?_eq_some_iff.1 ho).1
      have := hmem i hlt (by
        rw [Array.getD_eq_getD_getElem?] at h1 ⊢
        rw [Array.getElem?_eq_getElem (by omega)] at h1 ⊢
        exact h1)
      cases this
    exact ⟨hr, done listed s a w E hsz hr hI hE hat⟩
  | succ fuel ih =>
    intro listed s a w E hsz hcl ⟨un, hun, hmem⟩ hI hE hat
    refine ⟨fun hr => done listed s a w E hsz hr hI hE hat, fun i hi => ?_⟩
    rw [mem_ready] at hi
    obtain ⟨hnl, o, ho, hpr⟩ := hi
    have hlt : i < ops.size := (Array.getElem?_eq_some_iff.1 ho).1
    have hnl' : listed.getD i false = false := by
      rw [Array.getD_eq_getD_getElem?] at hnl ⊢
      rw [Array.getElem?_eq_getElem (by omega)] at hnl ⊢
      exact hnl
    obtain ⟨f, hf, hloc⟩ := hget i o ho
    -- those ahead of i have been done
    have hanc : ∀ k, k < ops.size → ((Region.before ops).getD i 0).testBit k = true → listed.getD k false = true := fun k hk ht => by
      obtain ⟨h1, h2⟩ := ordOk_spec hord ho
      obtain ⟨e, he, hb, h3⟩ := h2 k hk ht
      have h4 := hpr e he hb
      rcases h3 with rfl | h3
      · exact h4
      · exact anc_done hord hcl e.on k (by have := h1 e he hb; omega) hk h4 h3
    have notanc : ∀ k, k < ops.size → listed.getD k false = true → ((Region.before ops).getD k 0).testBit i = false := fun k hk hd => by
      cases ht : ((Region.before ops).getD k 0).testBit i with
      | false => rfl
      | true => rw [anc_done hord hcl k i hk hlt hd ht] at hnl'; cases hnl'
    -- those that may be out of order have nothing to do with i
    have free : ∀ k fk, k < ops.size → fs[k]? = some fk → (k < i ∧ listed.getD k false = false ∨ i < k ∧ listed.getD k false = true) → clear1 fk f = true := fun k fk hk hfk hor => by
      refine pairOk_spec hpair hk hlt (by omega) ?_ ?_ hfk hf
      · cases ht : ((Region.before ops).getD i 0).testBit k with
        | false => rfl
        | true =>
          rcases hor with ⟨_, h2⟩ | ⟨h1, _⟩
          · rw [hanc k hk ht] at h2; cases h2
          · have := anc_lt hord i k hlt hk ht; omega
      · rcases hor with ⟨h1, h2⟩ | ⟨h1, h2⟩
        · cases ht : ((Region.before ops).getD k 0).testBit i with
          | false => rfl
          | true => have := anc_lt hord k i hk hlt ht; omega
        · exact notanc k hk h2
    have keyT : ∀ k fk x d, fs[k]? = some fk → lk (wsT fs k) d = some x → d ∈ wKeyT fk := fun k fk x d hk hx => by
      have := lk_mem hx
      simp only [wsT, hk] at this
      exact List.mem_map.2 ⟨_, this, rfl⟩
    have keyM : ∀ k fk x d, fs[k]? = some fk → lk (wsM fs k) d = some x → d ∈ wKeyM fk := fun k fk x d hk hx => by
      have := lk_mem hx
      simp only [wsM, hk] at this
      exact List.mem_map.2 ⟨_, this, rfl⟩
    have hfs : ∀ k, k < ops.size → ∃ fk, fs[k]? = some fk := fun k hk => ⟨_, List.getElem?_eq_getElem (by omega)⟩
    have hsplit : fs.length = i + (fs.length - i) := by omega
    -- what i reads is as the text's order has it
    have agT : ∀ d ∈ f.rT, lk s.t d = lk (pre st fs i).t d := fun d hd => by
      rw [hat.2.1 d, pre_t fs st i d (by omega)]
      rw [hsplit, vT_stop (lk st.t) (wsT fs) (fs.length - i) (fun j h1 h2 h3 => by
        cases hl : lk (wsT fs j) d with
        | none => rfl
        | some x =>
          obtain ⟨fk, hfk⟩ := hfs j (by omega)
          have hne : j ≠ i := fun e => by rw [e] at h3; rw [hnl'] at h3; cases h3
          have := free j fk (by omega) hfk (.inr ⟨by omega, h3⟩)
          simp only [clear1, Bool.and_eq_true] at this
          exact (apartL_spec this.1.1.1 (keyT j fk x d hfk hl) hd).elim)]
      exact vT_same _ _ _ (fun j hj => by
        cases hdj : listed.getD j false with
        | true => exact .inl rfl
        | false =>
          right
          cases hl : lk (wsT fs j) d with
          | none => rfl
          | some x =>
            obtain ⟨fk, hfk⟩ := hfs j (by omega)
            have := free j fk (by omega) hfk (.inl ⟨hj, hdj⟩)
            simp only [clear1, Bool.and_eq_true] at this
            exact (apartL_spec this.1.1.1 (keyT j fk x d hfk hl) hd).elim)
    have agM : ∀ d ∈ f.rM, lk s.m d = lk (pre st fs i).m d := fun d hd => by
      refine Option.some.inj ?_
      rw [hat.2.2 d, pre_m fs st i d (by omega)]
      rw [hsplit, vT_stop (mI st) (wsM fs) (fs.length - i) (fun j h1 h2 h3 => by
        cases hl : lk (wsM fs j) d with
        | none => rfl
        | some x =>
          obtain ⟨fk, hfk⟩ := hfs j (by omega)
          have hne : j ≠ i := fun e => by rw [e] at h3; rw [hnl'] at h3; cases h3
          have := free j fk (by omega) hfk (.inr ⟨by omega, h3⟩)
          simp only [clear1, Bool.and_eq_true] at this
          exact (apartL_spec this.1.2 (keyM j fk x d hfk hl) hd).elim)]
      exact vT_same _ _ _ (fun j hj => by
        cases hdj : listed.getD j false with
        | true => exact .inl rfl
        | false =>
          right
          cases hl : lk (wsM fs j) d with
          | none => rfl
          | some x =>
            obtain ⟨fk, hfk⟩ := hfs j (by omega)
            have := free j fk (by omega) hfk (.inl ⟨hj, hdj⟩)
            simp only [clear1, Bool.and_eq_true] at this
            exact (apartL_spec this.1.2 (keyM j fk x d hfk hl) hd).elim)
    -- memory keeps its kind and its size
    have hnewi : ∀ k fk, k < ops.size → fs[k]? = some fk → (fk.hv = true → ∀ fj ∈ fs, apartL (wKeyM fk) fj.sM = true) ∧ ∀ d, fk.nw = some d → d ∈ Ds ∧ ∀ j fj, j < ops.size → fs[j]? = some fj → k = j ∨ ((Region.before ops).getD j 0).testBit k = true ∨ noHold d fj = true := fun k fk hk hfk => by
      unfold newOk at hnew
      rw [List.all_eq_true] at hnew
      have := hnew k (List.mem_range.2 hk)
      rw [hfk] at this
      simp only [Bool.and_eq_true, Bool.or_eq_true, Bool.not_eq_true'] at this
      refine ⟨fun hv fj hj => ?_, fun d hd => ?_⟩
      · rcases this.1 with h | h
        · rw [hv] at h; cases h
        · rw [List.all_eq_true] at h; exact h fj hj
      · have h2 := this.2
        rw [hd] at h2
        simp only [Bool.and_eq_true, List.contains_eq_mem, decide_eq_true_eq] at h2
        refine ⟨h2.1, fun j fj hj hfj => ?_⟩
        have h3 := h2.2
        rw [List.all_eq_true] at h3
        have h4 := h3 j (List.mem_range.2 hj)
        rw [hfj] at h4
        simp only [Bool.or_eq_true, beq_iff_eq] at h4
        rcases h4 with (h4 | h4) | h4
        · exact .inl h4
        · exact .inr (.inl h4)
        · exact .inr (.inr h4)
    have hlike : ∀ t ∈ f.sM, OLk (lk s.m t) (lk (pre st fs i).m t) := fun t ht => by
      have hwr : ∀ j x, lk (wsM fs j) t = some x → OLk x (lk st.m t) := by
        intro j
        induction j using Nat.strongRecOn with
        | _ j ihj =>
          intro x hx
          by_cases hj : j < ops.size
          · obtain ⟨fj, hfj, hlocj⟩ := hget j ops[j] (Array.getElem?_eq_getElem hj)
            have hlight : fj.hv = false := by
              cases hh : fj.hv with
              | false => rfl
              | true => exact (apartL_spec ((hnewi j fj hj hfj).1 hh f (List.mem_of_getElem? hf)) (keyM j fj x t hfj hx) ht).elim
            have h1 := hlocj.1.1 hlight t x (by simpa [wsM, hfj] using hx)
            refine h1.trans ?_
            have hpm := pre_m fs st j t (by omega)
            have hcut : vT (mI st) (wsM fs) (fun _ => true) j t = vT (mI st) (fun i => if i < j then wsM fs i else []) (fun _ => true) j t := by
              have key : ∀ k, k ≤ j → vT (mI st) (wsM fs) (fun _ => true) k t = vT (mI st) (fun i => if i < j then wsM fs i else []) (fun _ => true) k t := by
                intro k
                induction k with
                | zero => intro _; rfl
                | succ k ihk =>
                  intro hkj
                  simp only [vT]
                  rw [ihk (by omega), if_pos (show k < j by omega)]
              exact key j (Nat.le_refl _)
            obtain ⟨y, hy, hly⟩ := vT_like (mI st) (fun i => if i < j then wsM fs i else []) (fun _ => true) t (o := lk st.m t) rfl (fun j' z hz => by
              split at hz
              · rename_i hlt'; exact ihj j' hlt' z hz
              · simp [lk] at hz) j
            rw [hcut, hy] at hpm
            rw [Option.some.inj hpm]
            exact hly
          · simp only [wsM] at hx
            rw [List.getElem?_eq_none (by omega)] at hx
            simp [lk] at hx
      have h1 := hat.2.2 t
      have h2 := pre_m fs st i t (by omega)
      obtain ⟨y, hy, hly⟩ := vT_like (mI st) (wsM fs) (fun i => listed.getD i false) t (o := lk st.m t) rfl hwr fs.length
      obtain ⟨z, hz, hlz⟩ := vT_like (mI st) (wsM fs) (fun _ => true) t (o := lk st.m t) rfl hwr i
      rw [hy] at h1
      rw [hz] at h2
      rw [Option.some.inj h1, Option.some.inj h2]
      exact hly.trans hlz.symm
    have hfresh : ∀ d, f.nw = some d → Fresh s d := fun d hd => by
      obtain ⟨hdD, hno⟩ := (hnewi i f hlt hf).2 d hd
      obtain ⟨g1, g2, g3, g4⟩ := hD0 d hdD
      have hdone : ∀ j, j < fs.length → listed.getD j false = true → ∃ fj, fs[j]? = some fj ∧ noHold d fj = true := fun j hj hdj => by
        obtain ⟨fj, hfj⟩ := hfs j (by omega)
        refine ⟨fj, hfj, ?_⟩
        rcases hno j fj (by omega) hfj with h | h | h
        · subst h; rw [hnl'] at hdj; cases hdj
        · rw [notanc j (by omega) hdj] at h; cases h
        · exact h
      refine ⟨g1, ?_, fun e x hx => ?_, fun t cs hx => ?_⟩
      · have h1 := hat.2.2 d
        rcases vT_from _ _ _ _ _ h1.symm with h2 | ⟨j, h2, h3, h4⟩
        · exact (Option.some.inj h2).symm.trans g2
        · obtain ⟨fj, hfj, hn⟩ := hdone j h2 h3
          have := keyM j fj _ d hfj h4
          simp only [noHold, Bool.and_eq_true, Bool.not_eq_true', List.contains_eq_mem, decide_eq_false_iff_not] at hn
          exact (hn.2 this).elim
      · have h1 := hat.2.1 e
        rw [hx] at h1
        rcases vT_from _ _ _ _ _ h1.symm with h2 | ⟨j, h2, h3, h4⟩
        · exact g3 e x h2
        · obtain ⟨fj, hfj, hn⟩ := hdone j h2 h3
          have hm := lk_mem h4
          simp only [wsT, hfj] at hm
          simp only [noHold, Bool.and_eq_true, List.all_eq_true] at hn
          simpa using hn.1.1 _ hm
      · have h1 := hat.2.2 t
        rw [hx] at h1
        rcases vT_from _ _ _ _ _ h1.symm with h2 | ⟨j, h2, h3, h4⟩
        · exact g4 t cs (Option.some.inj h2)
        · obtain ⟨fj, hfj, hn⟩ := hdone j h2 h3
          simp only [wsM, hfj] at h4
          simp only [noHold, Bool.and_eq_true, Bool.not_eq_true', List.contains_eq_mem, decide_eq_false_iff_not] at hn
          obtain ⟨f', hf', hlocj⟩ := hget j ops[j] (Array.getElem?_eq_getElem (by omega))
          rw [hfj] at hf'
          simp only [Option.some.injEq] at hf'; subst hf'
          cases hh : AV.holdsL d cs with
          | false => rfl
          | true => exact (hn.1.2 (hlocj.1.2 t cs h4 d hh)).elim
    have hstep := hloc.2 s (by rw [hat.1, pre_n]) agT agM hlike hfresh keep w E a hI
    -- where we stand behind it
    have hD : ∀ j, (listed.setIfInBounds i true).getD j false = (listed.getD j false || j == i) := fun j => by
      rw [Array.getD_eq_getD_getElem?, Array.getElem?_setIfInBounds]
      by_cases hij : i = j
      · subst hij; simp [hsz, hlt]
      · rw [if_neg hij, ← Array.getD_eq_getD_getElem?]
        have : (j == i) = false := by simp; omega
        rw [this, Bool.or_false]
    have hsplit2 : fs.length = i + 1 + (fs.length - (i + 1)) := by omega
    have hat' : IsAt st fs (fun j => (listed.setIfInBounds i true).getD j false) (s.upd f) := by
      have hfun : (fun j => (listed.setIfInBounds i true).getD j false) = (fun j => (fun j => listed.getD j false) j || j == i) := funext hD
      rw [hfun]
      refine ⟨hat.1, fun d => ?_, fun d => ?_⟩
      · simp only [St.upd, lk_upo]
        rw [hsplit2, vT_one (lk st.t) (wsT fs) hnl' (fun j h1 h3 x hl => by
          by_cases hj : j < ops.size
          · obtain ⟨fk, hfk⟩ := hfs j hj
            have hcl := free j fk hj hfk (.inr ⟨h1, h3⟩)
            simp only [clear1, Bool.and_eq_true] at hcl
            cases hl2 : lk (wsT fs i) d with
            | none => rfl
            | some y => exact (apartL_spec hcl.1.1.2 (keyT j fk x d hfk hl) (keyT i f y d hf hl2)).elim
          · simp only [wsT] at hl
            rw [List.getElem?_eq_none (by omega)] at hl
            simp [lk] at hl), ← hsplit2, ← hat.2.1 d]
        simp only [wsT, hf]
      · simp only [St.upd, lk_upm]
        rw [hsplit2, vT_one (mI st) (wsM fs) hnl' (fun j h1 h3 x hl => by
          by_cases hj : j < ops.size
          · obtain ⟨fk, hfk⟩ := hfs j hj
            have hcl := free j fk hj hfk (.inr ⟨h1, h3⟩)
            simp only [clear1, Bool.and_eq_true] at hcl
            cases hl2 : lk (wsM fs i) d with
            | none => rfl
            | some y => exact (apartL_spec hcl.2 (keyM j fk x d hfk hl) (keyM i f y d hf hl2)).elim
          · simp only [wsM] at hl
            rw [List.getElem?_eq_none (by omega)] at hl
            simp [lk] at hl), ← hsplit2, ← hat.2.2 d]
        simp only [wsM, hf]
        cases lk f.wM d <;> rfl
    have next : ∀ a' w' E', Inv keep w' E' (s.upd f) a' → Evo keep w E w' E' → wpAny P .any ops (fun e a' w' => ∃ st' E', Inv keep w' E' st' a' ∧ Evo keep w0 E0 w' E' ∧ e = .normal ∧ K st') fuel (listed.setIfInBounds i true) a' w' := fun a' w' E' k1 k2 => by
      refine ih _ (s.upd f) a' w' E' (by simpa using hsz) ?_ ⟨un.erase i, ?_, ?_⟩ k1 (hE.trans k2) hat'
      · intro j oj hoj hdj e he hb
        simp only [hD] at hdj ⊢
        simp only [Bool.or_eq_true, beq_iff_eq] at hdj ⊢
        rcases hdj with hdj | rfl
        · exact .inl (hcl j oj hoj hdj e he hb)
        · rw [ho] at hoj; simp only [Option.some.injEq] at hoj; subst hoj
          exact .inl (hpr e he hb)
      · rw [List.length_erase_of_mem (hmem i hlt hnl'), hun]; rfl
      · intro j hj hl
        rw [hD] at hl
        simp only [Bool.or_eq_false_iff, beq_eq_false_iff_ne, ne_eq] at hl
        exact (List.mem_erase_of_ne hl.2).2 (hmem j hj hl.1)
    have hs2 := hstep (wpAny P .any ops (fun e a' w' => ∃ st' E', Inv keep w' E' st' a' ∧ Evo keep w0 E0 w' E' ∧ e = .normal ∧ K st') fuel (listed.setIfInBounds i true)) (fun e a' w' => ∃ st' E', Inv keep w' E' st' a' ∧ Evo keep w0 E0 w' E' ∧ e = .normal ∧ K st') next
    unfold wpOp
    rw [ho]
    dsimp only
    split
    · rename_i hw; rw [if_pos hw] at hs2; exact .inl hs2
    · rename_i hw; rw [if_neg hw] at hs2; exact hs2

theorem Tr.draw {id : Nat} {Q : Exit → St → Prop} {Ds : List Nat} (hD0 : ∀ d ∈ Ds, Fresh st d) (hm : P.follows .mixedOrders = true) (hR : Rd P ops ops.toList st fs st') (hc : chk Ds ops fs = true) (hK : Q .normal st') : Tr P (.region id ops true) Q st := fun keep w E a hI => by
  have h0 : ∀ i, (Array.replicate ops.size false).getD i false = false := fun i => by
    rw [Array.getD_eq_getD_getElem?, Array.getElem?_replicate]; split <;> rfl
  refine wp_region_any hm ?_
  have := draw_core (K := fun st' => Q .normal st') (keep := keep) (w0 := w) (E0 := E) hD0 hR hc hK ops.size (Array.replicate ops.size false) st a { w with drawn := w.drawn + 1 } E (by simp) (fun j o _ hd => by have hd' := hd; simp only [h0] at hd'; cases hd') ⟨List.range ops.size, by simp, fun i hi _ => List.mem_range.2 hi⟩ hI.drew (Evo.drew _ _ _) ⟨rfl, fun d => ?_, fun t => ?_⟩
  · refine wpAny_mono' ?_ this
    rintro e a' w' ⟨st2, E2, h1, h2, rfl, h3⟩
    exact ⟨st2, E2, h1, h2, h3⟩
  · have := vT_stop (lk st.t) (wsT fs) (D := fun i => (Array.replicate ops.size false).getD i false) (d := d) (i := 0) fs.length (fun j _ _ hd => by rw [h0] at hd; cases hd)
    rw [Nat.zero_add] at this
    rw [this]; rfl
  · have := vT_stop (mI st) (wsM fs) (D := fun i => (Array.replicate ops.size false).getD i false) (d := t) (i := 0) fs.length (fun j _ _ hd => by rw [h0] at hd; cases hd)
    rw [Nat.zero_add] at this
    rw [this]; rfl
where
  wpOp_mono' {Q Q' : Exit → Act → World → Prop} {K K' : Act → World → Prop} (hq : ∀ e a w, Q e a w → Q' e a w) (hk : ∀ a w, K a w → K' a w) {i : Nat} {a : Act} {w : World} (h : wpOp P ops Q i K a w) : wpOp P ops Q' i K' a w := by
    unfold wpOp at h ⊢
    split at h
    · exact hk _ _ h
    · split at h
      · rename_i hw
        rw [if_pos hw]
        rcases h with h | ⟨h1, a0, w0, h2⟩
        · left
          unfold Oper.wp at h ⊢
          revert h
          generalize (execOp a.eval _).run P w = r
          intro h
          unfold Oper.upon at h ⊢
          split at h
          · exact hk _ _ h
          · exact hk _ _ h
          · exact hk _ _ h
          · refine Calls.mono h ?_
            intro e w' he
            cases e with
            | returned v => exact hk _ _ he
            | panicked c => exact hq _ _ _ he
            | outgrown => obtain ⟨a1, w1, h1⟩ := he; exact ⟨a1, w1, hq _ _ _ h1⟩
          · exact Rows.mono h fun v w' he => hk _ _ he
          · exact hq _ _ _ h
          · exact h.elim
        · exact .inr ⟨h1, a0, w0, hq _ _ _ h2⟩
      · rename_i hw
        rw [if_neg hw]
        exact hk _ _ h
  wpAny_mono' {Q Q' : Exit → Act → World → Prop} (hq : ∀ e a w, Q e a w → Q' e a w) : ∀ {fuel : Nat} {listed : Array Bool} {a : Act} {w : World}, wpAny P .any ops Q fuel listed a w → wpAny P .any ops Q' fuel listed a w
    | 0, _, _, _, h => ⟨h.1, hq _ _ _ h.2⟩
    | fuel + 1, _, _, _, h => ⟨fun hr => hq _ _ _ (h.1 hr), fun i hi => Tr.draw.wpOp_mono' hq (fun _ _ hk => Tr.draw.wpAny_mono' hq hk) (h.2 i hi)⟩
end
end Go.Proofs.YtinhfnbmgmociaaGreatDoor.Ab

namespace Go.Proofs.YtinhfnbmgmociaaGreatDoor.Ab
open Go.RowKit
set_option linter.unusedVariables false
set_option linter.unusedSimpArgs false

mutual
def AV.tags : AV → List Nat
  | .sv _ | .nil => []
  | .own t | .box t _ | .elt t _ _ | .sl t _ => [t]
  | .tup xs | .fnv _ xs | .agg xs => AV.tagsL xs
def AV.tagsL : List AV → List Nat
  | [] => []
  | x :: xs => AV.tags x ++ AV.tagsL xs
end
theorem holds_tags {t : Nat} : ∀ {X : AV}, X.holds t = true → t ∈ X.tags := by
  intro X
  refine AV.rec (motive_1 := fun X => X.holds t = true → t ∈ X.tags) (motive_2 := fun l => AV.holdsL t l = true → t ∈ AV.tagsL l) ?_ ?_ ?_ ?_ ?_ ?_ ?_ ?_ ?_ ?_ ?_ X
  · intro x h; simp [AV.holds] at h
  · intro h; simp [AV.holds] at h
  · intro s h; simp only [AV.holds, beq_iff_eq] at h; simp [AV.tags, h]
  · intro s o h; simp only [AV.holds, beq_iff_eq] at h; simp [AV.tags, h]
  · intro s i o h; simp only [AV.holds, beq_iff_eq] at h; simp [AV.tags, h]
  · intro xs ih h; simp only [AV.holds] at h; simp only [AV.tags]; exact ih h
  · intro f xs ih h; simp only [AV.holds] at h; simp only [AV.tags]; exact ih h
  · intro xs ih h; simp only [AV.holds] at h; simp only [AV.tags]; exact ih h
  · intro s n h; simp only [AV.holds, beq_iff_eq] at h; simp [AV.tags, h]
  · intro h; simp [AV.holdsL] at h
  · intro x xs ihx ihs h
    simp only [AV.holdsL, Bool.or_eq_true] at h
    simp only [AV.tagsL, List.mem_append]
    exact h.imp ihx ihs

section
variable {s st : St} {X Y : AV} {P : Program}
def Agr (s st : St) (X : AV) : Prop := ∀ t, X.holds t = true → lk s.m t = lk st.m t
theorem Agr.own {t : Nat} (h : Agr s st (.own t)) : lk s.m t = lk st.m t := h t (by simp [AV.holds])
theorem Agr.box {t o : Nat} (h : Agr s st (.box t o)) : lk s.m t = lk st.m t := h t (by simp [AV.holds])
theorem Agr.elt {t i o : Nat} (h : Agr s st (.elt t i o)) : lk s.m t = lk st.m t := h t (by simp [AV.holds])
theorem Agr.sl {t n : Nat} (h : Agr s st (.sl t n)) : lk s.m t = lk st.m t := h t (by simp [AV.holds])
theorem live_agr (h : Agr s st X) : X.live (lk s.m) = X.live (lk st.m) := by
  cases X <;> simp only [AV.live]
  · rw [h.own]
  · rw [h.box]
  · rw [h.elt]
  · rw [h.sl]
theorem liveL_agr : ∀ {l : List AV}, (∀ t, AV.holdsL t l = true → lk s.m t = lk st.m t) → l.all (AV.live (lk s.m)) = l.all (AV.live (lk st.m))
  | [], _ => rfl
  | x :: l, h => by
    simp only [List.all_cons]
    rw [live_agr (X := x) (fun t ht => h t (by simp [AV.holdsL, ht])), liveL_agr (fun t ht => h t (by simp [AV.holdsL, ht]))]
theorem cells_agr (h : Agr s st X) : X.cells (lk s.m) = X.cells (lk st.m) := by
  cases X <;> simp only [AV.cells]
  · rw [h.own]
  · rw [h.box]
  · rw [h.elt]
  · rw [liveL_agr (fun t ht => h t (by simpa only [AV.holds] using ht))]
  · rw [h.sl]
theorem ptrCells_agr (h : Agr s st X) : ptrCells s X = ptrCells st X := by
  cases X with
  | box t o => simp only [ptrCells]; rw [h.box]
  | elt t i o => simp only [ptrCells]; rw [h.elt]
  | sv x => cases x <;> rfl
  | _ => rfl
theorem ashift_agr (h : Agr s st X) (n : Nat) : ashift s n X = ashift st n X := by
  cases X with
  | box t o => simp only [ashift]; rw [h.box]
  | elt t i o => simp only [ashift]; rw [h.elt]
  | sv x => cases x <;> rfl
  | _ => rfl
theorem rowOf_agr (h : Agr s st X) : rowOf s X = rowOf st X := by
  cases X with
  | own t => simp only [rowOf]; rw [h.own]
  | sv x => cases x <;> rfl
  | _ => rfl
theorem astoreO_agr (h : Agr s st X) (k : Agr s st Y) (ty : TypeId) : astoreO P s ty X Y = astoreO P st ty X Y := by
  unfold astoreO
  rw [cells_agr k]
  cases X with
  | box t o => simp only; rw [h.box]
  | elt t i o => simp only; rw [h.elt]
  | _ => rfl
theorem caps1_agr : ∀ (l : List Operand), (∀ x ∈ l, aval s x = aval st x) → caps1 s l = caps1 st l
  | [], _ => rfl
  | x :: l, h => by simp only [caps1]; rw [h x List.mem_cons_self, caps1_agr l (fun y hy => h y (List.mem_cons_of_mem _ hy))]
theorem bnd_agr {z : Int} {y : Option Operand} (h : ∀ x ∈ y.toArray, aval s x = aval st x) : bnd s z y = bnd st z y := by
  cases y with
  | none => rfl
  | some y => simp only [bnd]; rw [h y (by simp)]
theorem dltB_agr {b : Builtin} {xs : List Operand} {ts : List TypeId} (hv : ∀ x ∈ xs, aval s x = aval st x) (hm : ∀ x ∈ xs, ∀ X, aval st x = some X → Agr s st X) : dltB P s b xs ts = dltB P st b xs ts := by
  unfold dltB
  split
  · rename_i x ty
    rw [hv x (by simp)]
    cases hX : aval st x with
    | none => rfl
    | some X =>
      have := rowOf_agr (hm x (by simp) X hX)
      cases X with
      | sv z => cases z <;> first | rfl | (rename_i v; cases v <;> first | rfl | (simp only; rw [this]))
      | own t => simp only; rw [this]
      | nil => rfl
      | box _ _ => rfl
      | elt _ _ _ => rfl
      | tup _ => rfl
      | fnv _ _ => rfl
      | agg _ => rfl
      | sl _ _ => rfl
  · rename_i x y t1 t2; rw [hv x (by simp), hv y (by simp)]
  · rename_i x y t1 t2; rw [hv x (by simp), hv y (by simp)]
  · rfl
theorem dlt_agr {o : Oper} (hv : ∀ x ∈ o.op.operands, aval s x = aval st x) (hm : ∀ x ∈ o.op.operands, ∀ X, aval st x = some X → Agr s st X) : dlt P o s = dlt P o st := by
  unfold dlt
  cases ho : o.op with
  | move x => simp only; rw [hv x (by simp [ho, Op.operands])]
  | assign x => simp only; rw [hv x (by simp [ho, Op.operands])]
  | pick c a b =>
    simp only
    have h1 := hv c (by simp [ho, Op.operands])
    have h2 := hv a (by simp [ho, Op.operands])
    have h3 := hv b (by simp [ho, Op.operands])
    unfold av0
    rw [h1, h2, h3]
  | load ty p =>
    simp only
    rw [hv p (by simp [ho, Op.operands])]
    cases hX : aval st p with
    | none => rfl
    | some X =>
      have : aload P s ty X = aload P st ty X := by unfold aload; rw [ptrCells_agr (hm p (by simp [ho, Op.operands]) X hX)]
      simp only [Option.bind_some]
      rw [this]
  | store ty p y =>
    simp only
    rw [hv p (by simp [ho, Op.operands]), hv y (by simp [ho, Op.operands])]
    cases hX : aval st p with
    | none => rfl
    | some X =>
      cases hY : aval st y with
      | none => rfl
      | some Y =>
        cases o.dst with
        | none => simp only; rw [astoreO_agr (hm p (by simp [ho, Op.operands]) X hX) (hm y (by simp [ho, Op.operands]) Y hY)]
        | some d => rfl
  | binOp op t x y ty => simp only; rw [hv x (by simp [ho, Op.operands]), hv y (by simp [ho, Op.operands])]
  | unOp op t x =>
    have := hv x (by simp [ho, Op.operands])
    cases op <;> simp only
    · rw [this]
    · rw [this]
  | convert a b x =>
    simp only
    rw [hv x (by simp [ho, Op.operands])]
    cases hX : aval st x with
    | none => rfl
    | some X =>
      have : convS P s a b X = convS P st a b X := by unfold convS; rw [rowOf_agr (hm x (by simp [ho, Op.operands]) X hX)]
      simp only [Option.bind_some]
      rw [this]
  | extract x i => simp only; rw [hv x (by simp [ho, Op.operands])]
  | fieldAddr ty x f =>
    simp only
    rw [hv x (by simp [ho, Op.operands])]
    cases hX : aval st x with
    | none => rfl
    | some X =>
      cases foff P ty f with
      | none => rfl
      | some n => simp only; rw [ashift_agr (hm x (by simp [ho, Op.operands]) X hX)]
  | nilCheck x =>
    simp only
    rw [hv x (by simp [ho, Op.operands])]
    cases hX : aval st x with
    | none => rfl
    | some X => simp only; rw [ashift_agr (hm x (by simp [ho, Op.operands]) X hX)]
  | indexAddr ty x y =>
    simp only
    rw [hv x (by simp [ho, Op.operands]), hv y (by simp [ho, Op.operands])]
    cases hX : aval st x with
    | none => rfl
    | some X =>
      have hag := hm x (by simp [ho, Op.operands]) X hX
      cases (aval st y).bind AV.int with
      | none => rfl
      | some p =>
        simp only
        unfold idxA
        cases X with
        | own t => simp only; rw [hag.own]
        | sl t n => simp only; rw [hag.sl]
        | sv z => cases z <;> rfl
        | box t o => simp only [ashift_agr hag]
        | elt t i o => simp only [ashift_agr hag]
        | _ => rfl
  | field ty x f => simp only; rw [hv x (by simp [ho, Op.operands])]
  | index ty x y => simp only; rw [hv x (by simp [ho, Op.operands]), hv y (by simp [ho, Op.operands])]
  | slice ty x lo hi mx =>
    cases mx with
    | some m => rfl
    | none =>
      simp only
      have h2 : ∀ z, bnd s z lo = bnd st z lo := fun z => bnd_agr (fun y hy => hv y (by simp only [ho, Op.operands]; simp only [Array.mem_append]; exact .inl (.inl (.inr hy))))
      have h3 : ∀ z, bnd s z hi = bnd st z hi := fun z => bnd_agr (fun y hy => hv y (by simp only [ho, Op.operands]; simp only [Array.mem_append]; exact .inl (.inr hy)))
      rw [hv x (by simp [ho, Op.operands])]
      simp only [h2, h3]
  | makeFunc fn first caps =>
    have := caps1_agr (s := s) (st := st) caps.toList (fun x hx => hv x (by simp only [ho, Op.operands, Array.mem_append]; exact .inr (by simpa using hx)))
    cases fn <;> simp only [this]
  | call c =>
    obtain ⟨callee, args, ts⟩ := c
    cases callee with
    | builtin b =>
      have h2 := dltB_agr (P := P) (b := b) (ts := ts.toList) (s := s) (st := st) (xs := args.toList) (fun x hx => hv x (by simp only [ho, Op.operands, Call.operands, Array.mem_append]; exact .inr (by simpa using hx))) (fun x hx => hm x (by simp only [ho, Op.operands, Call.operands, Array.mem_append]; exact .inr (by simpa using hx)))
      exact h2
    | _ => rfl
  | _ => rfl
end

def usesT (ops : Array Oper) (o : Oper) : List Nat :=
  (o.op.operands.toList.filterMap fun | .tmp d => some d | _ => none) ++ (match o.guard with
    | some (j, _) => ((ops[j]?).bind (·.dst)).toList
    | none => [])
def tagsAll (st : St) (l : List Operand) : List Nat := l.flatMap fun x => match aval st x with | some X => X.tags | none => []
/-- Places are told by kind and size alone. -/
def tagsW (st : St) (x : Operand) : List Nat := match aval st x with
  | some (.own _) | some (.box _ _) => []
  | some X => X.tags
  | none => []
def usesM (st : St) (o : Oper) : List Nat := match o.op with
  | .indexAddr _ x _ => tagsW st x
  | .fieldAddr _ x _ => tagsW st x
  | .move _ => []
  | .assign _ => []
  | op => tagsAll st op.operands.toList
/-- Tags whose kind and size are read. -/
def tagsS (st : St) (x : Operand) : List Nat := match aval st x with
  | some (.own t) | some (.box t _) => [t]
  | _ => []
def usesS (st : St) (o : Oper) : List Nat := match o.op with
  | .indexAddr _ x _ => tagsS st x
  | .fieldAddr _ x _ => tagsS st x
  | _ => []
def ftW (dst : Option Nat) (x : Option AV) : Option (Nat × AV) := match dst, x with | some d, some x => some (d, x) | _, _ => none
def ftM (m : Option (Nat × Obj')) : List (Nat × Option Obj') := match m with | some (k, o) => [(k, some o)] | none => []
def ftH (m : Option (Nat × Obj')) : List Nat := match m with | some (_, .box cs) => AV.tagsL cs | _ => []
theorem holdsL_tags {t : Nat} : ∀ {l : List AV}, AV.holdsL t l = true → t ∈ AV.tagsL l
  | [], h => by simp [AV.holdsL] at h
  | x :: xs, h => by
    simp only [AV.holdsL, Bool.or_eq_true] at h
    simp only [AV.tagsL, List.mem_append]
    exact h.imp holds_tags holdsL_tags
def ftD (ops : Array Oper) (o : Oper) (st : St) (d : Dl) : Ft := ⟨usesT ops o, usesM st o, usesS st o, ftW o.dst d.x, ftM d.m, none, false, ftH d.m⟩
section
variable {P : Program} {ops : Array Oper} {s st : St} {o : Oper}
theorem aval_agr (h : ∀ d ∈ usesT ops o, lk s.t d = lk st.t d) : ∀ x ∈ o.op.operands, aval s x = aval st x := fun x hx => by
  cases x with
  | tmp d =>
    refine h d ?_
    simp only [usesT, List.mem_append, List.mem_filterMap]
    exact .inl ⟨_, by simpa using hx, rfl⟩
  | _ => rfl
theorem agr_of (h : ∀ t ∈ tagsAll st o.op.operands.toList, lk s.m t = lk st.m t) : ∀ x ∈ o.op.operands, ∀ X, aval st x = some X → Agr s st X := fun x hx X hX t ht => by
  refine h t ?_
  simp only [tagsAll, List.mem_flatMap]
  exact ⟨x, by simpa using hx, by rw [hX]; exact holds_tags ht⟩
theorem grd_agr (h : ∀ d ∈ usesT ops o, lk s.t d = lk st.t d) : grd ops s o = grd ops st o := by
  unfold grd
  cases hg : o.guard with
  | none => rfl
  | some p =>
    obtain ⟨j, want⟩ := p
    simp only
    cases hd : (ops[j]?).bind (·.dst) with
    | none => rfl
    | some d =>
      simp only
      rw [h d (by simp [usesT, hg, hd])]
theorem app_upd (st : St) (d : Dl) (ops : Array Oper) (o : Oper) (s : St) : s.app o.dst d = s.upd (ftD ops o st d) := by
  obtain ⟨c, x, m⟩ := d
  unfold St.app St.upd ftD ftW upo ftM
  cases x with
  | none =>
    cases m with
    | none => cases o.dst <;> rfl
    | some p => cases o.dst <;> rfl
  | some x =>
    cases m with
    | none => cases o.dst <;> rfl
    | some p => cases o.dst <;> rfl
theorem astoreO_like {ty : TypeId} {X Y : AV} {t : Nat} {ob : Obj'} (h : astoreO P st ty X Y = some (t, ob)) : OLk (some ob) (lk st.m t) := by
  unfold astoreO at h
  split at h
  case h_2 => cases h
  split at h
  case isFalse => cases h
  split at h
  · split at h
    · rename_i cs hm
      split at h
      · rename_i hle
        simp only [Option.some.injEq, Prod.mk.injEq] at h
        obtain ⟨rfl, rfl⟩ := h
        rw [hm]
        exact setAt_length _ _ _ hle
      · cases h
    · cases h
  · split at h
    · rename_i k xs hm
      split at h
      · split at h
        · simp only [Option.some.injEq, Prod.mk.injEq] at h
          obtain ⟨rfl, rfl⟩ := h
          rw [hm]
          exact ⟨rfl, by simp⟩
        · cases h
      · cases h
    · cases h
  · cases h
theorem dlt_like {d : Dl} {t : Nat} {ob : Obj'} (h : dlt P o st = some d) (hm : d.m = some (t, ob)) : OLk (some ob) (lk st.m t) := by
  have key : ∀ {x : Option Dl}, x = some d → (∀ d', x = some d' → d'.m = none) → False := fun hx h0 => by
    rw [h0 d hx] at hm; cases hm
  unfold dlt at h
  split at h
  all_goals first
    | (rename_i ty p y _
       split at h
       · split at h
         · rename_i q hq
           split at h
           · simp only [Option.some.injEq] at h; subst h
             simp only [Option.some.injEq] at hm; subst hm
             exact astoreO_like hq
           · cases h
         · cases h
       · cases h)
    | (exfalso
       refine key h fun d' h' => ?_
       try simp only [dltB, idxA] at h'
       repeat' split at h'
       all_goals first | (cases h'; done) | (cases h'; rfl) | (obtain ⟨_, _, rfl⟩ := Option.map_eq_some_iff.1 h'; rfl))
theorem ashift_like {n : Nat} {t off : Nat} (h : OLk (lk s.m t) (lk st.m t)) : ashift s n (.box t off) = ashift st n (.box t off) := by
  simp only [ashift]
  cases h1 : lk s.m t with
  | none => rw [h1] at h; cases h2 : lk st.m t with
    | none => rfl
    | some b => rw [h2] at h; exact h.elim
  | some a => rw [h1] at h; cases h2 : lk st.m t with
    | none => rw [h2] at h; cases a <;> exact h.elim
    | some b => rw [h2] at h; cases a <;> cases b <;> first | rfl | exact h.elim
theorem tagsW_agr {x : Operand} {X : AV} (h : ∀ t ∈ tagsW st x, lk s.m t = lk st.m t) (hX : aval st x = some X) (ho : ∀ t, X ≠ .own t) (hb : ∀ t o, X ≠ .box t o) : Agr s st X := fun t ht => by
  refine h t ?_
  unfold tagsW
  rw [hX]
  cases X with
  | own t => exact (ho t rfl).elim
  | box t o => exact (hb t o rfl).elim
  | _ => exact holds_tags ht
theorem dlt_agr' (hT : ∀ x ∈ o.op.operands, aval s x = aval st x) (hM : ∀ t ∈ usesM st o, lk s.m t = lk st.m t) (hL : ∀ t ∈ usesS st o, OLk (lk s.m t) (lk st.m t)) : dlt P o s = dlt P o st := by
  cases ho : o.op with
  | indexAddr ty x y =>
    have hx := hT x (by simp [ho, Op.operands])
    have hy := hT y (by simp [ho, Op.operands])
    simp only [usesM, ho] at hM
    unfold dlt
    rw [ho]
    simp only
    rw [hx, hy]
    cases hX : aval st x with
    | none => rfl
    | some X =>
      cases hY : (aval st y).bind AV.int with
      | none => rfl
      | some p =>
        simp only
        have hother : (∀ t, X ≠ .own t) → (∀ t o, X ≠ .box t o) → idxA P s ty X p.2 = idxA P st ty X p.2 := fun h1 h2 => by
          have hag := tagsW_agr hM hX h1 h2
          unfold idxA
          cases X with
          | own t => exact (h1 t rfl).elim
          | sl t n => simp only; rw [hag.sl]
          | sv z => cases z <;> rfl
          | box t o => exact (h2 t o rfl).elim
          | elt t i o => simp only [ashift_agr hag]
          | _ => rfl
        cases X with
        | own t =>
          simp only [idxA]
          have h := hL t (by simp [usesS, tagsS, ho, hX])
          cases h1 : lk s.m t with
          | none => rw [h1] at h; cases h2 : lk st.m t with
            | none => rfl
            | some b => rw [h2] at h; exact h.elim
          | some a => rw [h1] at h; cases h2 : lk st.m t with
            | none => rw [h2] at h; cases a <;> exact h.elim
            | some b =>
              rw [h2] at h
              cases a with
              | row k xs => cases b with
                | row k' ys => obtain ⟨rfl, hl⟩ := h; cases selem P ty with
                  | none => rfl
                  | some e => simp only [hl]
                | box _ => exact h.elim
              | box _ => cases b with
                | row _ _ => exact h.elim
                | box _ => cases selem P ty <;> rfl
        | box t off => simp only [idxA]; cases aelem P ty with
          | none => rfl
          | some q => simp only [ashift_like (hL t (by simp [usesS, tagsS, ho, hX]))]
        | _ => exact hother (fun _ h => by cases h) (fun _ _ h => by cases h)
  | fieldAddr ty x f =>
    have hx := hT x (by simp [ho, Op.operands])
    simp only [usesM, ho] at hM
    unfold dlt
    rw [ho]
    simp only
    rw [hx]
    cases hX : aval st x with
    | none => rfl
    | some X =>
      cases foff P ty f with
      | none => rfl
      | some n =>
        simp only
        cases X with
        | own t => simp only [ashift]
        | box t off => rw [ashift_like (hL t (by simp [usesS, tagsS, ho, hX]))]
        | _ => rw [ashift_agr (tagsW_agr hM hX (fun _ h => by cases h) (fun _ _ h => by cases h))]
  | move x => unfold dlt; rw [ho]; simp only; rw [hT x (by simp [ho, Op.operands])]
  | assign x => unfold dlt; rw [ho]; simp only; rw [hT x (by simp [ho, Op.operands])]
  | _ => exact dlt_agr hT (agr_of (s := s) (st := st) (o := o) (by rw [ho]; simpa only [usesM, ho] using hM))
theorem loc_dlt {d : Dl} (hg : grd ops st o = some true) (hd : dlt P o st = some d) (hc : d.c) (hf : st.fitsDst o.dst = true) : LocT P ops o st (ftD ops o st d) := ⟨⟨fun _ t x hw => (by
    simp only [ftD, ftM] at hw
    split at hw
    · rename_i k ob hm
      simp only [lk] at hw
      split at hw
      · rename_i e; subst e
        simp only [Option.some.injEq] at hw; subst hw
        exact dlt_like hd hm
      · cases hw
    · cases hw), fun t cs hw d' hh => (by
    simp only [ftD, ftM] at hw
    split at hw
    · rename_i k ob hm
      simp only [lk] at hw
      split at hw
      · simp only [Option.some.injEq] at hw; subst hw
        simp only [ftD, ftH, hm]
        exact holdsL_tags hh
      · cases hw
    · cases hw)⟩, fun s hn hT hM hL _ keep w E a hI N Q hN => by
  have hg' : grd ops s o = some true := by rw [grd_agr hT]; exact hg
  rw [if_pos (grd_run hI hg')]
  have hd' : dlt P o s = some d := by rw [dlt_agr' (aval_agr hT) hM hL]; exact hd
  have := dlt_does hd' hc (by
    cases hdst : o.dst with
    | none => rfl
    | some k => rw [hdst] at hf; simpa [St.fitsDst, hn] using hf)
  rw [app_upd st d ops o] at this
  exact this.wp hI hN⟩
theorem loc_skip (hg : grd ops st o = some false) (hf : st.fitsDst o.dst = true) : LocT P ops o st ⟨usesT ops o, [], [], ftW o.dst (some (.sv (.val undef))), [], none, false, []⟩ := ⟨⟨fun _ t x hw => (by cases hw), fun t cs hw => (by cases hw)⟩, fun s hn hT hM hL _ keep w E a hI N Q hN => by
  have hg' : grd ops s o = some false := by rw [grd_agr hT]; exact hg
  rw [if_neg (by rw [grd_run hI hg']; simp)]
  refine hN _ w E ?_ (Evo.refl _ _ _)
  have := hI.put (dst := o.dst) (x := .sv (.val undef)) (v := undef) (by
    cases hdst : o.dst with
    | none => rfl
    | some k => rw [hdst] at hf; simpa [St.fitsDst, hn] using hf) (RepV.val_mk _)
  have e : s.put o.dst (.sv (.val undef)) = s.upd ⟨usesT ops o, [], [], ftW o.dst (some (.sv (.val undef))), [], none, false, []⟩ := by
    unfold St.put St.upd ftW upo upm
    cases o.dst <;> rfl
  rwa [e] at this⟩

theorem argv_agr : ∀ (l : List Operand), (∀ x ∈ l, aval s x = aval st x) → (∀ x ∈ l, ∀ X, aval st x = some X → Agr s st X) → argv s l = argv st l
  | [], _, _ => rfl
  | x :: l, h, k => by
    simp only [argv]
    rw [h x List.mem_cons_self, argv_agr l (fun y hy => h y (List.mem_cons_of_mem _ hy)) (fun y hy => k y (List.mem_cons_of_mem _ hy))]
    cases hX : aval st x with
    | none => rfl
    | some X =>
      have : X.arg (lk s.m) = X.arg (lk st.m) := arg_agr (k x List.mem_cons_self X hX)
      simp only [Option.bind_some, this]
where
  arg_agr : ∀ {X : AV}, Agr s st X → X.arg (lk s.m) = X.arg (lk st.m) := by
    intro X
    refine AV.rec (motive_1 := fun X => Agr s st X → X.arg (lk s.m) = X.arg (lk st.m)) (motive_2 := fun l => (∀ t, AV.holdsL t l = true → lk s.m t = lk st.m t) → AV.argL (lk s.m) l = AV.argL (lk st.m) l) ?_ ?_ ?_ ?_ ?_ ?_ ?_ ?_ ?_ ?_ ?_ X
    · intro x _; rfl
    · intro _; rfl
    · intro t h; simp only [AV.arg]; rw [h.own]
    · intro t o h; simp only [AV.arg]; rw [h.box]
    · intro t i o h; rfl
    · intro xs _ h; rfl
    · intro f xs ih h; simp only [AV.arg]; rw [ih (fun t ht => h t (by simpa only [AV.holds] using ht))]
    · intro xs _ h; rfl
    · intro t n h; rfl
    · intro _; rfl
    · intro x xs ihx ihs h
      simp only [AV.argL]
      rw [ihx (fun t ht => h t (by simp [AV.holdsL, ht])), ihs (fun t ht => h t (by simp [AV.holdsL, ht]))]
theorem argS_agr : ∀ (l : List Operand), (∀ x ∈ l, aval s x = aval st x) → argS s l = argS st l
  | [], _ => rfl
  | x :: l, h => by simp only [argS]; rw [h x List.mem_cons_self, argS_agr l (fun y hy => h y (List.mem_cons_of_mem _ hy))]
end

/-- Results that are shared alone: they make no tag. -/
def R1.shared : R1 → Bool
  | .own _ _ => false
  | _ => true
theorem impM_shared {f : Nat → Nat} : ∀ (rs : List R1) (i : Nat) (m : List (Nat × Obj')), rs.all R1.shared = true → impM f i rs m = m
  | [], _, _, _ => rfl
  | .sv _ :: rs, i, m, h => by simp only [impM]; exact impM_shared rs (i + 1) m (by simpa [R1.shared] using h)
  | .nil :: rs, i, m, h => by simp only [impM]; exact impM_shared rs (i + 1) m (by simpa [R1.shared] using h)
  | .own _ _ :: rs, i, m, h => by simp [R1.shared] at h
theorem impF_shared {f : Nat → Nat} {st : St} : ∀ (rs : List R1) (i : Nat), rs.all R1.shared = true → impF st f i rs = true
  | [], _, _ => rfl
  | .sv _ :: rs, i, h => by simp only [impF]; exact impF_shared rs (i + 1) (by simpa [R1.shared] using h)
  | .nil :: rs, i, h => by simp only [impF]; exact impF_shared rs (i + 1) (by simpa [R1.shared] using h)
  | .own _ _ :: rs, i, h => by simp [R1.shared] at h

section
variable {P : Program} {ops : Array Oper} {st : St} {o : Oper}
theorem loc_call {f : FuncId} {xs : Array Operand} {ts : Array TypeId} {ys : List SV} {r : RV} (lent : Bool) (hg : grd ops st o = some true) (ho : o.op = .call { callee := .value (.func f), args := xs, argTypes := ts })
    (ha : (if lent = true then argv st xs.toList else argS st xs.toList) = some ys) (hc : ACalls P f ys (· = r)) (hl : lent = true → r.flat) (hs : r.comps.all R1.shared = true) (hf : st.fitsDst o.dst = true) :
    LocT P ops o st ⟨usesT ops o, usesM st o, [], ftW o.dst (some (r.av (tagf (o.dst.getD 0)))), [], none, false, []⟩ := ⟨⟨fun _ t x hw => (by cases hw), fun t cs hw => (by cases hw)⟩, fun s hn hT hM hL _ keep w E a hI N Q hN => by
  have hg' : grd ops s o = some true := by rw [grd_agr hT]; exact hg
  have hv := aval_agr hT
  have hm := agr_of (s := s) (st := st) (o := o) (by rw [ho]; simpa only [usesM, ho] using hM)
  have hops : ∀ x ∈ xs.toList, x ∈ o.op.operands := fun x hx => by
    simp only [ho, Op.operands, Call.operands, Array.mem_append]; exact .inr (by simpa using hx)
  have ha' : (if lent = true then argv s xs.toList else argS s xs.toList) = some ys := by
    rw [argv_agr xs.toList (fun x hx => hv x (hops x hx)) (fun x hx => hm x (hops x hx)), argS_agr xs.toList (fun x hx => hv x (hops x hx))]
    exact ha
  -- through the call by hand: what is behind it is N
  rw [if_pos (grd_run hI hg')]
  have key : ∀ N' : Act → World → Prop, (∀ a' w' E', Inv keep w' E' (s.imp o.dst r) a' → Evo keep w E w' E' → N' a' w') → o.wp P a w N' Q := fun N' hN' => by
    obtain ⟨g', hc1, hc2⟩ := hc
    cases lent with
    | true =>
      have hcall := hc2 w (· < w.heap.size) (xs.map a.eval) ⟨fun b h => h, hI.okl.gw.keep fun b hb => ⟨hI.okl b hb, rfl⟩⟩ (by simpa using argv_rep hI (by simpa using ha'))
      have hrun : (execOp a.eval o).run P w = .ok (.enter g' (xs.map a.eval)) w := by
        unfold execOp
        rw [ho]
        simp [resolve, Deferred.ofValue, Act.eval, invoke, hc1]
      unfold Oper.wp
      rw [hrun, Oper.upon_enter]
      refine hcall.mono ?_
      rintro e w' ⟨r', vs, E1, rfl, rfl, h1, h2⟩
      obtain ⟨E2, q1, q2⟩ := hI.import h1 h2 (dst := o.dst) (by
        cases hdst : o.dst with
        | none => rfl
        | some d =>
          rw [hdst] at hf
          simp only [St.fitsDst, decide_eq_true_eq] at hf
          simp [St.impFresh, impF_shared _ _ hs, hn, hf]) (.inr (hl rfl))
      exact hN' _ _ E2 q1 q2
    | false =>
      have hcall := hc2 w E.ok (xs.map a.eval) hI.okl (by simpa using argS_rep hI (by simpa using ha'))
      have hrun : (execOp a.eval o).run P w = .ok (.enter g' (xs.map a.eval)) w := by
        unfold execOp
        rw [ho]
        simp [resolve, Deferred.ofValue, Act.eval, invoke, hc1]
      unfold Oper.wp
      rw [hrun, Oper.upon_enter]
      refine hcall.mono ?_
      rintro e w' ⟨r', vs, E1, rfl, rfl, h1, h2⟩
      obtain ⟨E2, q1, q2⟩ := hI.import h1 h2 (dst := o.dst) (by
        cases hdst : o.dst with
        | none => rfl
        | some d =>
          rw [hdst] at hf
          simp only [St.fitsDst, decide_eq_true_eq] at hf
          simp [St.impFresh, impF_shared _ _ hs, hn, hf]) (.inl fun b h => h)
      exact hN' _ _ E2 q1 q2
  refine key N fun a' w' E' h1 h2 => hN a' w' E' ?_ h2
  have e : s.imp o.dst r = s.upd ⟨usesT ops o, usesM st o, [], ftW o.dst (some (r.av (tagf (o.dst.getD 0)))), [], none, false, []⟩ := by
    unfold St.imp St.upd ftW upo upm
    cases o.dst with
    | none => rfl
    | some d => simp [impM_shared _ _ _ hs]
  rwa [e] at h1⟩
end

/-! ### The run of a region that draws -/
def RdK (P : Program) (Q : Exit → St → Prop) (D : List Nat) (ops : Array Oper) (l : List Oper) (fs : List Ft) (k : List Fr) (st : St) : Prop :=
  ∃ fs' st', Rd P ops l st fs' st' ∧ chk D ops (fs.reverse ++ fs') = true ∧ kq P Q k .normal st'
def OpD (P : Program) (Q : Exit → St → Prop) (D : List Nat) (ops : Array Oper) (o : Oper) (l : List Oper) (fs : List Ft) (k : List Fr) (st : St) : Prop := RdK P Q D ops (o :: l) fs k st
mutual
def rd (P : Program) (Q : Exit → St → Prop) (D : List Nat) (ops : Array Oper) (l : List Oper) (fs : List Ft) (k : List Fr) (st : St) : Prop :=
  match l with
  | [] => chk D ops fs.reverse = true ∧ nr P Q k st
  | o :: l => match grd ops st o with
    | some b => gdd P Q D b ops o l fs k st
    | none => False
  termination_by (2 * l.length)
  decreasing_by
  all_goals simp only [List.length_cons]
  all_goals omega
def gdd (P : Program) (Q : Exit → St → Prop) (D : List Nat) (b : Bool) (ops : Array Oper) (o : Oper) (l : List Oper) (fs : List Ft) (k : List Fr) (st : St) : Prop :=
  match b with
  | true => match dlt P o st with
      | some d => (d.c ∧ st.fitsDst o.dst = true) ∧ rd P Q D ops l (ftD ops o st d :: fs) k (st.app o.dst d)
      | none => OpD P Q D ops o l fs k st
  | false => st.fitsDst o.dst = true ∧ rd P Q D ops l (⟨usesT ops o, [], [], ftW o.dst (some (.sv (.val undef))), [], none, false, []⟩ :: fs) k (st.put o.dst (.sv (.val undef)))
  termination_by (2 * l.length + 1)
end
theorem rd_sound {P : Program} {Q : Exit → St → Prop} {D : List Nat} {ops : Array Oper} {k : List Fr} : ∀ (l : List Oper) (fs : List Ft) (st : St), rd P Q D ops l fs k st → RdK P Q D ops l fs k st
  | [], fs, st, h => by
    simp only [rd] at h
    exact ⟨[], st, .nil st, by simpa using h.1, (run_sound (ksz k + 1)).2.1 k st (by omega) h.2⟩
  | o :: l, fs, st, h => by
    simp only [rd] at h
    split at h
    case h_2 => exact h.elim
    rename_i b hg
    cases b with
    | true =>
      simp only [gdd] at h
      split at h
      · rename_i d hd
        obtain ⟨fs', st', h1, h2, h3⟩ := rd_sound l _ _ h.2
        rw [app_upd st d ops o] at h1
        exact ⟨_ :: fs', st', .cons (loc_dlt hg hd h.1.1 h.1.2) h1, by simpa using h2, h3⟩
      · exact h
    | false =>
      simp only [gdd] at h
      obtain ⟨fs', st', h1, h2, h3⟩ := rd_sound l _ _ h.2
      have e : st.put o.dst (.sv (.val undef)) = st.upd ⟨usesT ops o, [], [], ftW o.dst (some (.sv (.val undef))), [], none, false, []⟩ := by
        unfold St.put St.upd ftW upo upm
        cases o.dst <;> rfl
      rw [e] at h1
      exact ⟨_ :: fs', st', .cons (loc_skip hg h.1) h1, by simpa using h2, h3⟩
theorem DrawW.rd {P : Program} {Q : Exit → St → Prop} {id : Nat} {ops : Array Oper} {k : List Fr} {st : St} (hm : P.follows .mixedOrders = true) (h : Ab.rd P Q [] ops ops.toList [] k st) : DrawW P Q id ops k st := by
  obtain ⟨fs', st', h1, h2, h3⟩ := rd_sound _ _ _ h
  exact Tr.draw (Ds := []) (fun d hd => by cases hd) hm h1 (by simpa using h2) h3
theorem gdd.part {P : Program} {Q : Exit → St → Prop} {D : List Nat} {x : Bool} {ops : Array Oper} {o : Oper} {l : List Oper} {fs : List Ft} {k : List Fr} {st : St} (h1 : x = true → gdd P Q D true ops o l fs k st) (h2 : x = false → gdd P Q D false ops o l fs k st) : gdd P Q D x ops o l fs k st := by
  cases x with
  | true => exact h1 rfl
  | false => exact h2 rfl
/-- A call within. -/
theorem OpD.call {P : Program} {Q : Exit → St → Prop} {D : List Nat} {ops : Array Oper} {o : Oper} {l : List Oper} {fs : List Ft} {k : List Fr} {st : St} {f : FuncId} {xs : Array Operand} {ts : Array TypeId} {ys : List SV} {r : RV} (lent : Bool)
    (hc : ACalls P f ys (· = r)) (ho : o.op = .call { callee := .value (.func f), args := xs, argTypes := ts }) (hg : grd ops st o = some true)
    (ha : (if lent = true then argv st xs.toList else argS st xs.toList) = some ys) (hl : lent = true → r.flat) (hs : r.comps.all R1.shared = true) (hf : st.fitsDst o.dst = true)
    (h : Ab.rd P Q D ops l (⟨usesT ops o, usesM st o, [], ftW o.dst (some (r.av (tagf (o.dst.getD 0)))), [], none, false, []⟩ :: fs) k (st.put o.dst (r.av (tagf (o.dst.getD 0))))) : OpD P Q D ops o l fs k st := by
  obtain ⟨fs', st', h1, h2, h3⟩ := rd_sound _ _ _ h
  have e : st.put o.dst (r.av (tagf (o.dst.getD 0))) = st.upd ⟨usesT ops o, usesM st o, [], ftW o.dst (some (r.av (tagf (o.dst.getD 0)))), [], none, false, []⟩ := by
    unfold St.put St.upd ftW upo upm
    cases o.dst <;> rfl
  rw [e] at h1
  exact ⟨_ :: fs', st', .cons (loc_call lent hg ho ha hc hl hs hf) h1, by simpa using h2, h3⟩
/-- A call, in a region that draws nothing. -/
theorem OpW.call {P : Program} {Q : Exit → St → Prop} {ops : Array Oper} {o : Oper} {l : List Oper} {k : List Fr} {st : St} {f : Operand} {xs : Array Operand} {ts : Array TypeId} {g : FuncId} {caps ys : List SV} {R : RV → Prop} (lent : Bool)
    (hc : ACalls P g (ys ++ caps) R) (ho : o.op = .call { callee := .value f, args := xs, argTypes := ts }) (hg : grd ops st o = some true) (hf : calle st lent f = some (g, caps))
    (ha : (if lent = true then argv st xs.toList else argS st xs.toList) = some ys) (hl : lent = true → ∀ r, R r → r.flat) (h : ∀ r, R r → st.impFresh o.dst r = true ∧ Ab.rn P Q ops l k (st.imp o.dst r)) : OpW P Q ops o l k st :=
  Rn.call lent hg ho hf ha hc hl fun r hr => ⟨(h r hr).1, RnK.rn (h r hr).2⟩
/-- A call of a function by its name. -/
theorem OpW.fn {P : Program} {Q : Exit → St → Prop} {ops : Array Oper} {o : Oper} {l : List Oper} {k : List Fr} {st : St} {f : FuncId} {xs : Array Operand} {ts : Array TypeId} {ys : List SV} {R : RV → Prop} (lent : Bool)
    (hc : ACalls P f ys R) (ho : o.op = .call { callee := .value (.func f), args := xs, argTypes := ts }) (hg : grd ops st o = some true)
    (ha : (if lent = true then argv st xs.toList else argS st xs.toList) = some ys) (hl : lent = true → ∀ r, R r → r.flat) (h : ∀ r, R r → st.impFresh o.dst r = true ∧ Ab.rn P Q ops l k (st.imp o.dst r)) : OpW P Q ops o l k st :=
  OpW.call (caps := []) lent (by simpa using hc) ho hg rfl ha hl h
end Go.Proofs.YtinhfnbmgmociaaGreatDoor.Ab

namespace Go.Proofs.YtinhfnbmgmociaaGreatDoor.Ab
open Go.RowKit
attribute [go_sem] ex nr rn gd cnd rd gdd lk up rm mapv popTo St.put St.app St.imp St.fitsDst St.fresh St.held St.impFresh aval avC svC av0 dlt dltB binv ibin ishift beq2 aeq ceqk convk convS byteS idxA bnd aload ptrCells ashift rowOf astoreO AV.int AV.bool AV.cells AV.svs AV.one AV.elem AV.holds AV.holdsL
  SV.cells SV.solid SV.one SV.fits SV.withCells setAt apart crt crtA aparts afill acells zeroSV caps1 argv argS AV.arg AV.argL calle tagf R1.av RV.av RV.comps RV.flat R1.flat SV.flat SV.flatL impM impT impF R1.shared ftD ftW ftM ftH usesT usesM usesS tagsS tagsW tagsAll AV.tags AV.tagsL AV.live params resAV toR1 ownIn toR mkRV retv bodyQ_ret bodyQ_normal kx loopQ
  Op.operands Call.operands St.freeze St.rename AV.frz AV.frzL Obj'.frz AV.ren AV.renL Obj'.ren
def gval (x : Option AV) (want : Bool) : Option Bool :=
  match x with
  | some (.sv (.val (.bool b))) => some (b == want)
  | some (.sv (.val _)) => some false
  | _ => none
theorem grd_eq (ops : Array Oper) (st : St) (o : Oper) : grd ops st o = match o.guard with
    | none => some true
    | some (j, want) => match (ops[j]?).bind (·.dst) with
      | some d => gval (lk st.t d) want
      | none => none := rfl
theorem gval_bool (b want : Bool) : gval (some (.sv (.val (.bool b)))) want = some (b == want) := rfl
theorem gval_undef (want : Bool) : gval (some (.sv (.val undef))) want = some false := rfl
attribute [go_sem] grd_eq gval_bool gval_undef
theorem go_t1 {α : Type} (l : List α) (i : Nat) : l.toArray[i]? = l[i]? := List.getElem?_toArray
theorem go_t2 {α : Type} (a : α) (l : List α) : (a :: l)[0]? = some a := rfl
theorem go_t3 {α : Type} (a : α) (l : List α) (i : Nat) : (a :: l)[i + 1]? = l[i]? := rfl
attribute [go_sem] go_t1 go_t2 go_t3
attribute [go_sem] Bool.false_eq_true if_true if_false Option.map_some Option.map_none Option.bind_some Option.bind_none Option.getD_some Option.getD_none true_and and_true decide_eq_true_eq List.any_cons List.any_nil List.all_cons List.all_nil Bool.or_false Bool.false_or Bool.or_true Bool.true_or Bool.and_true Bool.true_and Bool.and_false Bool.false_and Bool.not_false Bool.not_true Option.isNone_none Option.isNone_some Nat.zero_add List.map_cons List.map_nil List.length_cons List.length_nil beq_self_eq_true List.cons_append List.nil_append List.append_nil List.take_zero List.drop_zero List.take_succ_cons List.drop_succ_cons List.take_nil List.drop_nil List.length_map List.head?_cons List.headD_cons List.filterMap_cons List.filterMap_nil List.flatMap_cons List.flatMap_nil List.reverse_cons List.reverse_nil List.contains_cons List.contains_nil Option.toList_some Option.toList_none eq_self List.length_append List.set_cons_zero List.set_cons_succ List.replicate_succ List.replicate_zero
theorem i64w (x : Int) (h0 : -9223372036854775808 ≤ x) (h1 : x ≤ 9223372036854775807) : IntKind.i64.wrap x = x := by rw [IntKind.wrap_i64]; omega
theorem i32w (x : Int) (h0 : -2147483648 ≤ x) (h1 : x ≤ 2147483647) : IntKind.i32.wrap x = x := by simp [IntKind.wrap, IntKind.bits, IntKind.signed]; omega
theorem u64w (x : Int) (h0 : 0 ≤ x) (h1 : x ≤ 18446744073709551615) : IntKind.u64.wrap x = x := by simp [IntKind.wrap, IntKind.bits, IntKind.signed]; omega
theorem u32w (x : Int) (h0 : 0 ≤ x) (h1 : x ≤ 4294967295) : IntKind.u32.wrap x = x := by simp [IntKind.wrap, IntKind.bits, IntKind.signed]; omega
theorem u16w (x : Int) (h0 : 0 ≤ x) (h1 : x ≤ 65535) : IntKind.u16.wrap x = x := by simp [IntKind.wrap, IntKind.bits, IntKind.signed]; omega
theorem u8w (x : Int) (h0 : 0 ≤ x) (h1 : x ≤ 255) : IntKind.u8.wrap x = x := by simp [IntKind.wrap, IntKind.bits, IntKind.signed]; omega
attribute [go_sem] i64w i32w u64w u32w u16w u8w
/-- What a state tells, told again. -/
def leT (st : St) : List (Nat × AV) → Prop
  | [] => True
  | (d, x) :: l => lk st.t d = some x ∧ leT st l
def leM (st : St) : List (Nat × Obj') → Prop
  | [] => True
  | (d, x) :: l => lk st.m d = some x ∧ leM st l
theorem leT_get {st : St} : ∀ {l : List (Nat × AV)} {d : Nat} {x : AV}, leT st l → lk l d = some x → lk st.t d = some x
  | [], d, x, _, h => by simp [lk] at h
  | (k, y) :: l, d, x, hl, h => by
    simp only [lk] at h
    split at h
    · rename_i e; subst e; simp only [Option.some.injEq] at h; subst h; exact hl.1
    · exact leT_get hl.2 h
theorem leM_get {st : St} : ∀ {l : List (Nat × Obj')} {d : Nat} {x : Obj'}, leM st l → lk l d = some x → lk st.m d = some x
  | [], d, x, _, h => by simp [lk] at h
  | (k, y) :: l, d, x, hl, h => by
    simp only [lk] at h
    split at h
    · rename_i e; subst e; simp only [Option.some.injEq] at h; subst h; exact hl.1
    · exact leM_get hl.2 h
theorem Ent.chk {a b : St} (h : a.n = b.n ∧ leT a b.t ∧ leM a b.m) : Ent a b := Ent.le ⟨h.1, fun _ _ => leT_get h.2.1, fun _ _ => leM_get h.2.2⟩
theorem getD_map {α β : Type} [Inhabited α] {f : α → β} {l : List α} {n : Nat} {d : β} (h : n < l.length) : (l.map f).getD n d = f (l.getD n default) := by
  simp [List.getD_eq_getElem?_getD, List.getElem?_map, List.getElem?_eq_getElem h]
attribute [go_sem] leT leM Value.oneCell'
/-- Numbers as values; lists of them. -/
def iv (n : Int) : SV := .val (.int .i64 n)
def bv (b : Bool) : SV := .val (.bool b)
def ints (l : List Int) : SV := .lst (l.map iv)
attribute [go_sem] iv bv ints
def bytesV (l : List Int) : SV := .lst (l.map b8)
attribute [go_sem] bytesV b8 byteS_map
end Go.Proofs.YtinhfnbmgmociaaGreatDoor.Ab

namespace Go.Proofs.YtinhfnbmgmociaaGreatDoor.Ab
open Go.RowKit
set_option linter.unusedVariables false
set_option linter.unusedSimpArgs false

def R1.shr : R1 → R1
  | .sv x => .sv x
  | .nil => .sv (.lst [])
  | .own _ xs => .sv (.lst xs)
def RV.shr : RV → RV
  | .one r => .one r.shr
  | .many rs => .many (rs.map R1.shr)
theorem Ent.nilS {st : St} {d : Nat} (hd : lk st.t d = some .nil) : Ent st { st with t := up st.t d (.sv (.lst [])) } := fun keep w E a hI => by
  refine ⟨E, ⟨hI.df, hI.sz, fun e x hx => ?_, hI.mm, hI.inj, hI.own, hI.okl, hI.kpl⟩, Evo.refl _ _ _⟩
  simp only [lk_up] at hx
  split at hx
  · rename_i e'; subst e'
    simp only [Option.some.injEq] at hx; subst hx
    obtain ⟨v, h1, h2⟩ := hI.tm d _ hd
    refine ⟨v, h1, ?_⟩
    simp only [RepV] at h2; subst h2
    simp only [RepV, RepS]
    exact ⟨none, 0, rfl, by simp, by simp⟩
  · exact hI.tm e x hx
theorem cst_lkt (rs : List R1) (j : Nat) : lk (cst rs).t j = (rs[j]?).map (R1.av j) := by
  have := ent1_get (f := id) rs 0 j
  simpa [cst] using this
theorem cst_lkm (rs : List R1) (t : Nat) : lk (cst rs).m t = match rs[t]? with | some (.own sz xs) => some (.row sz xs) | _ => none := by
  rcases impM_lk (f := id) (fun i j h => h) rs 0 [] t with ⟨j, sz, xs, h1, h2, h3⟩ | ⟨h1, h2⟩
  · have : t = j := by simpa using h2
    subst this
    rw [h1]; exact h3
  · show lk (impM id 0 rs []) t = _
    rw [h2]
    cases hr : rs[t]? with
    | none => rfl
    | some r => cases r with
      | own sz xs => exact (h1 t sz xs hr (by simp)).elim
      | _ => rfl
theorem Ent.shr1 (rs1 rs2 : List R1) (r : R1) : Ent (cst (rs1 ++ r :: rs2)) (cst (rs1 ++ r.shr :: rs2)) := by
  have hget : ∀ (q : R1) (j : Nat), (rs1 ++ q :: rs2)[j]? = if j = rs1.length then some q else (rs1 ++ r :: rs2)[j]? := fun q j => by
    by_cases h : j < rs1.length
    · rw [List.getElem?_append_left h, if_neg (by omega), List.getElem?_append_left h]
    · rw [List.getElem?_append_right (by omega)]
      by_cases h2 : j = rs1.length
      · subst h2; simp
      · rw [if_neg h2, List.getElem?_append_right (by omega)]
        obtain ⟨k, hk⟩ : ∃ k, j - rs1.length = k + 1 := ⟨j - rs1.length - 1, by omega⟩
        rw [hk]; rfl
  have hlen : ∀ q : R1, (rs1 ++ q :: rs2).length = (rs1 ++ r :: rs2).length := fun q => by simp
  cases r with
  | sv x => exact Ent.refl _
  | nil =>
    refine (Ent.nilS (d := rs1.length) (by rw [cst_lkt]; simp [R1.av])).trans (Ent.le ⟨(hlen _).symm, fun d x hx => ?_, fun t o ho => ?_⟩)
    · rw [cst_lkt, hget] at hx
      rw [lk_up]
      split at hx
      · rename_i e; subst e; simpa [R1.shr, R1.av] using hx
      · rename_i e; rw [if_neg (Ne.symm e), cst_lkt]; exact hx
    · rw [cst_lkm, hget] at ho
      rw [cst_lkm]
      split at ho
      · rename_i h1
        split at h1
        · simp [R1.shr] at h1
        · rw [h1]; exact ho
      · cases ho
  | own sz xs =>
    have hm : lk (cst (rs1 ++ .own sz xs :: rs2)).m rs1.length = some (.row sz xs) := by rw [cst_lkm]; simp
    refine Ent.freeze rs1.length (Ent.le ⟨?_, fun d x hx => ?_, fun t o ho => ?_⟩)
    · unfold St.freeze; rw [hm]; exact (hlen _).symm
    · unfold St.freeze; rw [hm]
      simp only [lk_mapv]
      rw [cst_lkt, hget] at hx
      rw [cst_lkt]
      split at hx
      · rename_i e; subst e
        simp only [Option.map_some, R1.shr, R1.av, Option.some.injEq] at hx; subst hx
        simp [R1.av, AV.frz]
      · rename_i e
        cases hj : (rs1 ++ R1.own sz xs :: rs2)[d]? with
        | none => rw [hj] at hx; cases hx
        | some q =>
          rw [hj] at hx
          simp only [Option.map_some, Option.some.injEq] at hx ⊢; subst hx
          cases q with
          | own sz' xs' => simp [R1.av, AV.frz, e]
          | _ => simp [R1.av, AV.frz]
    · unfold St.freeze; rw [hm]
      simp only [lk_mapv, lk_rm]
      rw [cst_lkm, hget] at ho
      split at ho
      · rename_i h1
        split at h1
        · simp [R1.shr] at h1
        · rename_i e
          rw [if_neg (Ne.symm e), cst_lkm, h1]
          simpa [Obj'.frz] using ho
      · cases ho
theorem Ent.shr (rs1 : List R1) : ∀ rs2 : List R1, Ent (cst (rs1 ++ rs2)) (cst (rs1 ++ rs2.map R1.shr))
  | [] => Ent.refl _
  | r :: rs2 => by
    refine (Ent.shr1 rs1 rs2 r).trans ?_
    have := Ent.shr (rs1 ++ [r.shr]) rs2
    simpa using this
theorem RV.shr_comps (r : RV) : r.shr.comps = r.comps.map R1.shr := by cases r <;> rfl
theorem RV.shr_val (r : RV) (vs : List Value) : r.shr.val vs = r.val vs := by cases r <;> rfl
/-- What is returned may be taken as shared. -/
theorem ACalls.shr {P : Program} {g : FuncId} {args : List SV} {R : RV → Prop} (h : ACalls P g args R) : ACalls P g args (fun r' => ∃ r, R r ∧ r' = r.shr) := by
  obtain ⟨g', h1, h2⟩ := h
  refine ⟨g', h1, fun w ok cargs k1 k2 => (h2 w ok cargs k1 k2).mono ?_⟩
  rintro e w' ⟨r, vs, E1, q1, q2, q3, q4⟩
  obtain ⟨E2, p1, p2⟩ := Ent.shr [] r.comps _ _ _ _ q3
  refine ⟨r.shr, vs, E2, ⟨r, q1, rfl⟩, by rw [RV.shr_val]; exact q2, ?_, ⟨(q4.trans p2).os, (q4.trans p2).tape, (q4.trans p2).output, (q4.trans p2).size, (q4.trans p2).kp, (q4.trans p2).oks, (q4.trans p2).new, fun _ _ => rfl⟩⟩
  rw [RV.shr_comps]; exact p1
/-- A contract, by the function's body; the results shared. -/
theorem ACalls.of_bodyS {P : Program} {g : FuncId} {fn : Func} {c : Code} {args : List SV} {R : RV → Prop} (hcall : ∀ (cargs : Array Value) (w : World), (callFunc g cargs).run P w = .ok (.enter g cargs) w) (hf : P.funcs[g]? = some fn) (hb : fn.body = some c) {n : Nat} (hn : fn.ntmps = n) (hle : args.length ≤ n)
    (h : Tr P c (bodyQ P fn fun r => R r.shr) { n := n, t := params 0 args, m := [] }) : ACalls P g args R :=
  (ACalls.of_body hcall hf hb hn hle h).shr.mono fun r' ⟨r, h1, h2⟩ => h2 ▸ h1
theorem shr_one (r : R1) : (RV.one r).shr = .one r.shr := rfl
theorem shr_many (rs : List R1) : (RV.many rs).shr = .many (rs.map R1.shr) := rfl
theorem shr_sv (x : SV) : (R1.sv x).shr = .sv x := rfl
theorem shr_nil : R1.nil.shr = .sv (.lst []) := rfl
theorem shr_own (k : Nat) (xs : List SV) : (R1.own k xs).shr = .sv (.lst xs) := rfl
attribute [go_sem] shr_one shr_many shr_sv shr_nil shr_own
/-- What held a tag is forgotten. -/
def St.dropT (st : St) (t : Nat) : St := { st with t := mapv (fun x => if AV.holds t x = true then .sv .any else x) st.t }
theorem Ent.dropT (st : St) (t : Nat) : Ent st (st.dropT t) := fun keep w E a hI => by
  refine ⟨E, ⟨hI.df, hI.sz, fun e x hx => ?_, hI.mm, hI.inj, hI.own, hI.okl, hI.kpl⟩, Evo.refl _ _ _⟩
  simp only [St.dropT, lk_mapv] at hx
  cases hl : lk st.t e with
  | none => rw [hl] at hx; cases hx
  | some y =>
    rw [hl] at hx
    simp only [Option.map_some, Option.some.injEq] at hx; subst hx
    obtain ⟨v, h1, h2⟩ := hI.tm e _ hl
    refine ⟨v, h1, ?_⟩
    split
    · simp only [RepV, RepS]
    · exact h2
theorem Ent.rename2 {a b : St} (t t' : Nat) (hf : (a.dropT t').fresh t' = true) (h : Ent ((a.dropT t').rename t t') b) : Ent a b := (Ent.dropT a t').trans (Ent.rename t t' hf h)
attribute [go_sem] St.dropT AV.holds AV.holdsL
theorem gE {α : Type} {l : List α} {k : Nat} {x : α} (h : l[k]? = some x) : ∀ hk, l[k]'hk = x := fun hk => by
  rw [List.getElem?_eq_getElem hk] at h
  exact Option.some.inj h
end Go.Proofs.YtinhfnbmgmociaaGreatDoor.Ab

namespace Go.Proofs.YtinhfnbmgmociaaGreatDoor.Ab
open Go.RowKit
set_option linter.unusedVariables false
set_option linter.unusedSimpArgs false

section
variable {kp kq : Nat → Prop} {w w' : World} {E E1 : Env} {st : St} {a : Act}
open Classical in
/-- Results that lie in the world are laid into the state. -/
theorem Inv.addRes (hI : Inv kp w E st a) {r : RV} {vs : List Value} (h1 : Inv kq w E1 (cst r.comps) ⟨vs.toArray, []⟩) (hok : ∀ b, E1.ok b → E.ok b)
    (hdis : ∀ (j sz : Nat) (xs : List SV) (g c s : Nat), r.comps[j]? = some (.own sz xs) → E1.at_ j = some (g, c, s) → ¬ E.ok g ∧ ¬ kp g ∧ ∀ (t : Nat) (o : Obj') (c' s' : Nat), lk st.m t = some o → E.at_ t ≠ some (g, c', s'))
    {dst : Option Nat} (hF : st.impFresh dst r = true) : ∃ E2, Inv kp w E2 (st.imp dst r) (a.put dst (r.val vs)) ∧ Evo kp w E w E2 := by
  have hevo : ∀ at2, (∀ t, 1000000 ≤ t → at2 t = E.at_ t) → Evo kp w E w ⟨E.ok, at2⟩ := fun at2 hat2 =>
    ⟨rfl, rfl, rfl, Nat.le_refl _, fun _ _ => rfl, fun b hb => ⟨hb, rfl⟩, fun b hb => .inl hb, hat2⟩
  cases dst with
  | none => exact ⟨E, hI, Evo.refl _ _ _⟩
  | some d =>
    simp only [St.impFresh, Bool.and_eq_true, decide_eq_true_eq] at hF
    obtain ⟨hF, hdn⟩ := hF
    have hfr := impF_get r.comps 0 hF
    let at2 : Nat → Option (Nat × Nat × Nat) := fun t => if ∃ j sz xs, r.comps[j]? = some (.own sz xs) ∧ t = tagf d (0 + j) then E1.at_ ((t - d) / 1000) else E.at_ t
    have hokold : ∀ b, E.ok b → (⟨E.ok, at2⟩ : Env).ok b ∧ w.heap[b]? = w.heap[b]? := fun b hb => ⟨hb, rfl⟩
    have hdiv : ∀ j, (tagf d (0 + j) - d) / 1000 = j := fun j => by unfold tagf; omega
    have at_new : ∀ j sz xs, r.comps[j]? = some (.own sz xs) → at2 (tagf d (0 + j)) = E1.at_ j := fun j sz xs h => by
      show (if _ then _ else _) = _
      rw [if_pos ⟨j, sz, xs, h, rfl⟩, hdiv]
    have hnone : ∀ j sz xs, r.comps[j]? = some (.own sz xs) → lk st.m (tagf d (0 + j)) = none ∧ st.held (tagf d (0 + j)) = false := fun j sz xs h => by
      have := hfr j sz xs h
      simp only [St.fresh, Bool.and_eq_true, Bool.not_eq_true', Option.isNone_iff_eq_none] at this
      exact ⟨this.2.2, this.2.1⟩
    have at_old : ∀ t, (∀ j sz xs, r.comps[j]? = some (.own sz xs) → t ≠ tagf d (0 + j)) → at2 t = E.at_ t := fun t h => by
      show (if _ then _ else _) = _
      rw [if_neg]
      rintro ⟨j, sz, xs, h9, h10⟩
      exact h j sz xs h9 h10
    have hlk := impM_lk (tagf_inj d) r.comps 0 st.m
    have hp : ∀ s, (∀ j sz xs, r.comps[j]? = some (.own sz xs) → s ≠ tagf d (0 + j)) → Pass E ⟨E.ok, at2⟩ (lk st.m) (lk (impM (tagf d) 0 r.comps st.m)) s := fun s hs => by
      unfold Pass
      rcases hlk s with ⟨j, sz, xs, h9, h10, _⟩ | ⟨_, h10⟩
      · exact (hs j sz xs h9 h10).elim
      · rw [h10]
        rcases same_tags E (lk st.m) s with h | ⟨_, h⟩
        · exact .inl h
        · exact .inr ⟨at_old s hs, h⟩
    have hlive : ∀ s, st.held s = true → ∀ j sz xs, r.comps[j]? = some (.own sz xs) → s ≠ tagf d (0 + j) := fun s hs j sz xs h e => by
      rw [e, (hnone j sz xs h).2] at hs; cases hs
    have hmem : ∀ s o, lk st.m s = some o → ∀ j sz xs, r.comps[j]? = some (.own sz xs) → s ≠ tagf d (0 + j) := fun s o hs j sz xs h e => by
      rw [e, (hnone j sz xs h).1] at hs; cases hs
    have part : ∀ (x : SV) {v : Value}, RepS w E1.ok x v → RepS w E.ok x v := fun x v hv => hv.keep fun b hb => ⟨hok b hb, rfl⟩
    have hcl : ∀ j sz xs, r.comps[j]? = some (.own sz xs) → lk (cst r.comps).m j = some (.row sz xs) := fun j sz xs hj => by rw [cst_lkm, hj]
    have hrow : ∀ j sz xs, r.comps[j]? = some (.own sz xs) → MemRep w E1 (lk (cst r.comps).m) j (.row sz xs) := fun j sz xs hj => h1.mm j _ (hcl j sz xs hj)
    have hInv : Inv kp w ⟨E.ok, at2⟩ { st with m := impM (tagf d) 0 r.comps st.m } a := by
      refine ⟨hI.df, hI.sz, fun e x hx => ?_, fun t o ho => ?_, fun t t' o o' g c s c' s' k1 k2 e1 e2 => ?_, fun t o g c s ho hg => ?_, hI.okl, hI.kpl⟩
      · obtain ⟨v, k1, k2⟩ := hI.tm e x hx
        refine ⟨v, k1, k2.keep hokold (fun t ht => hp t (hlive t ?_))⟩
        cases hh : st.held t with
        | true => rfl
        | false => rw [held_t hh hx] at ht; cases ht
      · rcases hlk t with ⟨j, sz, xs, h9, h10, h11⟩ | ⟨h9, h10⟩
        · rw [h11] at ho
          simp only [Option.some.injEq] at ho; subst ho
          obtain ⟨h0, hr⟩ := hrow j sz xs h9
          refine ⟨h0, ?_⟩
          rw [h10, show (⟨E.ok, at2⟩ : Env).at_ (tagf d (0 + j)) = E1.at_ j from at_new j sz xs h9]
          rcases hr with hr | ⟨g, c, e, cur, vs', k1, k2, k3, k4, k5, k6, k7, k8⟩
          · exact .inl hr
          · exact .inr ⟨g, c, e, cur, vs', k1, k2, k3, k4, k5, k6, RepL.of k7.len (fun i x v hx hv => part x (k7.get i x v hx hv)), k8⟩
        · rw [h10] at ho
          refine (hI.mm t o ho).keep hokold (at_old t h9) (fun g c s hg => rfl) (fun s cs hcs hs => hp s (hlive s ?_))
          subst hcs
          cases hh : st.held s with
          | true => rfl
          | false => rw [held_m hh ho] at hs; cases hs
      · rcases hlk t with ⟨j, sz, xs, h9, h10, h11⟩ | ⟨h9, h10⟩ <;> rcases hlk t' with ⟨j', sz', xs', h9', h10', h11'⟩ | ⟨h9', h10'⟩
        · rw [h10] at e1 ⊢
          rw [h10'] at e2 ⊢
          simp only at e1 e2
          rw [at_new j sz xs h9] at e1
          rw [at_new j' sz' xs' h9'] at e2
          rw [h1.inj j j' _ _ g c s c' s' (hcl j sz xs h9) (hcl j' sz' xs' h9') e1 e2]
        · rw [h10] at e1
          simp only at e1 e2
          rw [at_new j sz xs h9] at e1
          rw [at_old t' h9'] at e2
          rw [h10'] at k2
          exact ((hdis j sz xs g c s h9 e1).2.2 t' o' c' s' k2 e2).elim
        · rw [h10'] at e2
          simp only at e1 e2
          rw [at_new j' sz' xs' h9'] at e2
          rw [at_old t h9] at e1
          rw [h10] at k1
          exact ((hdis j' sz' xs' g c' s' h9' e2).2.2 t o c s k1 e1).elim
        · simp only at e1 e2
          rw [at_old t h9] at e1
          rw [at_old t' h9'] at e2
          rw [h10] at k1
          rw [h10'] at k2
          exact hI.inj t t' o o' g c s c' s' k1 k2 e1 e2
      · rcases hlk t with ⟨j, sz, xs, h9, h10, h11⟩ | ⟨h9, h10⟩
        · rw [h10] at hg
          simp only at hg
          rw [at_new j sz xs h9] at hg
          have q := hdis j sz xs g c s h9 hg
          exact ⟨(h1.own j _ g c s (hcl j sz xs h9) hg).1, q.1, q.2.1⟩
        · simp only at hg
          rw [at_old t h9] at hg
          rw [h10] at ho
          exact hI.own t o g c s ho hg
    refine ⟨⟨E.ok, at2⟩, ?_, hevo _ (fun t ht => at_old t fun j sz xs h e => by have := St.fresh_pin (hfr j sz xs h); omega)⟩
    refine hInv.put (dst := some d) (by simpa [St.fitsDst] using hdn) ?_
    have comp : ∀ (j : Nat) (c : R1), r.comps[j]? = some c → ∃ v, vs[j]? = some v ∧ RepV w ⟨E.ok, at2⟩ (lk (impM (tagf d) 0 r.comps st.m)) (c.av (tagf d (0 + j))) v := fun j c hc => by
      have hl := cst_lkt r.comps j
      rw [hc] at hl
      simp only [Option.map_some] at hl
      obtain ⟨v, k1, k2⟩ := h1.tm j (c.av j) hl
      refine ⟨v, by simpa using k1, ?_⟩
      cases c with
      | sv x =>
        simp only [R1.av, RepV] at k2 ⊢
        exact part x k2
      | nil => simpa only [R1.av, RepV] using k2
      | own sz xs =>
        simp only [R1.av, RepV] at k2 ⊢
        have l2 : lk (impM (tagf d) 0 r.comps st.m) (tagf d (0 + j)) = some (.row sz xs) := by
          rcases hlk (tagf d (0 + j)) with ⟨j', sz', xs', h9, h10, h11⟩ | ⟨h9, _⟩
          · have := tagf_inj d _ _ h10
            rw [show j' = j by omega, hc] at h9
            simp only [Option.some.injEq, R1.own.injEq] at h9
            obtain ⟨rfl, rfl⟩ := h9
            exact h11
          · exact (h9 j sz xs hc rfl).elim
        rw [hcl j sz xs hc] at k2
        rw [l2, at_new j sz xs hc]
        exact k2
    cases r with
    | one c =>
      obtain ⟨v, k1, k2⟩ := comp 0 c rfl
      simp only [RV.av, RV.val]
      cases vs with
      | nil => simp at k1
      | cons u vs => simp at k1; subst k1; exact k2
    | many rs =>
      simp only [RV.av, RV.val, RepV]
      refine ⟨vs.toArray, rfl, RepVL.of ?_ fun i x v hx hv => ?_⟩
      · have hn := h1.sz
        simp only [List.size_toArray, cst, RV.comps] at hn
        simp [impT_len, hn]
      · rw [impT_get] at hx
        obtain ⟨c, hc, rfl⟩ := Option.map_eq_some_iff.1 hx
        obtain ⟨u, k1, k2⟩ := comp i c hc
        simp only at hv
        rw [k1] at hv
        simp only [Option.some.injEq] at hv; subst hv
        exact k2
end

/-! ### The contract -/
/-- An argument of a function that changes one object of its caller's. -/
inductive XA where
  | sv (x : SV)
  | own
  | box (off : Nat)
def XA.av : XA → AV
  | .sv x => .sv x
  | .own => .own 1000000
  | .box off => .box 1000000 off
def XA.rep (w : World) (ok : Nat → Prop) (x : Option (Nat × Nat × Nat)) (o : Obj') : XA → Value → Prop
  | .sv y, v => RepS w ok y v
  | .own, v => ∃ k xs, o = .row k xs ∧ match x with
    | none => ∃ a, v = .slice a 0 0
    | some (g, c, _) => v = .slice (some ⟨g, 0, none⟩) xs.length c
  | .box off, v => ∃ cs, o = .box cs ∧ ∃ g c sz, x = some (g, c, sz) ∧ v = .pointer (some ⟨g, off, none⟩)
def XA.repL (w : World) (ok : Nat → Prop) (x : Option (Nat × Nat × Nat)) (o : Obj') : List XA → List Value → Prop
  | [], vs => vs = []
  | y :: ys, vs => ∃ v vs', vs = v :: vs' ∧ XA.rep w ok x o y v ∧ XA.repL w ok x o ys vs'
/-- All that was, but for one block. -/
def xkeep (w : World) (x : Option (Nat × Nat × Nat)) (b : Nat) : Prop := b < w.heap.size ∧ ∀ g c s, x = some (g, c, s) → b ≠ g
/-- Does an object hold shared values alone? -/
def Obj'.svOnly : Obj' → Bool
  | .row _ _ => true
  | .box cs => (AV.svs cs).isSome
def OMem (w : World) (ok : Nat → Prop) (x : Option (Nat × Nat × Nat)) (o : Obj') : Prop := MemRep w ⟨ok, fun _ => x⟩ (fun _ => none) 0 o
def ACallsI (P : Program) (g : FuncId) (args : List XA) (o : Obj') (R : RV → Obj' → Prop) : Prop :=
  ∃ g', (∀ (cargs : Array Value) (w : World), (callFunc g cargs).run P w = .ok (.enter g' cargs) w) ∧
    ∀ (w : World) (ok : Nat → Prop) (x : Option (Nat × Nat × Nat)) (cargs : Array Value), (∀ b, ok b → xkeep w x b) → GW w ok → (∀ g c s, x = some (g, c, s) → g < w.heap.size) → OMem w ok x o → XA.repL w ok x o args cargs.toList →
      Calls P g' cargs w (fun e w' => ∃ (r : RV) (vs : List Value) (E1 : Env) (o' : Obj'), R r o' ∧ e = .returned (r.val vs) ∧ Inv (xkeep w x) w' E1 (cst r.comps) ⟨vs.toArray, []⟩ ∧ Evo (xkeep w x) w ⟨ok, E1.at_⟩ w' E1 ∧ OMem w' E1.ok x o' ∧ o'.svOnly = true ∧
        ∀ g c s, x = some (g, c, s) → ¬ E1.ok g ∧ ∀ j sz xs c' s', r.comps[j]? = some (.own sz xs) → E1.at_ j ≠ some (g, c', s'))
theorem ACallsI.mono {P : Program} {g : FuncId} {args : List XA} {o : Obj'} {R R' : RV → Obj' → Prop} (h : ACallsI P g args o R) (hr : ∀ r o', R r o' → R' r o') : ACallsI P g args o R' := by
  obtain ⟨g', h1, h2⟩ := h
  refine ⟨g', h1, fun w ok x cargs k1 k0 k2 k3 k4 => (h2 w ok x cargs k1 k0 k2 k3 k4).mono ?_⟩
  rintro e w' ⟨r, vs, E1, o', q1, q2⟩
  exact ⟨r, vs, E1, o', hr _ _ q1, q2⟩

theorem svs_rep {w : World} {E E' : Env} {m m' : Mem} : ∀ {cs : List AV} {ys : List SV} {vs : List Value}, AV.svs cs = some ys → E'.ok = E.ok → RepVL w E m cs vs → RepVL w E' m' cs vs
  | [], ys, vs, _, _, h => by simpa only [RepVL] using h
  | c :: cs, ys, vs, hs, he, h => by
    cases c with
    | sv x =>
      simp only [AV.svs] at hs
      cases hq : AV.svs cs with
      | none => rw [hq] at hs; cases hs
      | some zs =>
        simp only [RepVL, RepV] at h ⊢
        obtain ⟨v, vs', rfl, h1, h2⟩ := h
        exact ⟨v, vs', rfl, by rw [he]; exact h1, svs_rep hq he h2⟩
    | nil =>
      simp only [AV.svs] at hs
      cases hq : AV.svs cs with
      | none => rw [hq] at hs; cases hs
      | some zs =>
        simp only [RepVL, RepV] at h ⊢
        obtain ⟨v, vs', rfl, h1, h2⟩ := h
        exact ⟨v, vs', rfl, h1, svs_rep hq he h2⟩
    | _ => simp [AV.svs] at hs
theorem OMem.to {w : World} {E : Env} {m : Mem} {t : Nat} {o : Obj'} (ho : o.svOnly = true) (h : OMem w E.ok (E.at_ t) o) : MemRep w E m t o := by
  unfold OMem at h
  cases o with
  | row sz xs => exact h
  | box cs =>
    obtain ⟨ys, hy⟩ := Option.isSome_iff_exists.1 ho
    obtain ⟨g, c, sz, e, cur, h1, h2, h3⟩ := h
    exact ⟨g, c, sz, e, cur, h1, h2, svs_rep (E := ⟨E.ok, fun _ => E.at_ t⟩) (E' := E) hy rfl h3⟩
theorem OMem.of {w : World} {E : Env} {m : Mem} {t : Nat} {o : Obj'} (ho : o.svOnly = true) (h : MemRep w E m t o) : OMem w E.ok (E.at_ t) o := by
  unfold OMem
  cases o with
  | row sz xs => exact h
  | box cs =>
    obtain ⟨ys, hy⟩ := Option.isSome_iff_exists.1 ho
    obtain ⟨g, c, sz, e, cur, h1, h2, h3⟩ := h
    exact ⟨g, c, sz, e, cur, h1, h2, svs_rep (E := E) (E' := ⟨E.ok, fun _ => E.at_ t⟩) hy rfl h3⟩
/-- Alike in kind, and rows in length. -/
def Obj'.like : Obj' → Obj' → Prop
  | .row k xs, .row k' ys => k = k' ∧ xs.length = ys.length
  | .box _, .box _ => True
  | _, _ => False
/-- The arguments of such a call. -/
def XA.of (t : Nat) (o : Obj') (X : AV) : Option XA :=
  match X with
  | .sv x => some (.sv x)
  | .nil => some (.sv (.lst []))
  | .own s => match o with
    | .row _ _ => if s = t then some .own else none
    | .box _ => none
  | .box s off => match o with
    | .row _ _ => none
    | .box _ => if s = t then some (.box off) else none
  | _ => none
def argX (st : St) (t : Nat) (o : Obj') : List Operand → Option (List XA)
  | [] => some []
  | x :: xs => match aval st x, argX st t o xs with
    | some X, some ys => (XA.of t o X).map (· :: ys)
    | _, _ => none
section
variable {kp : Nat → Prop} {w : World} {E : Env} {st : St} {a : Act}
theorem argX_rep (hI : Inv kp w E st a) {t : Nat} {o : Obj'} (hm : lk st.m t = some o) : ∀ {l : List Operand} {ys : List XA}, argX st t o l = some ys → XA.repL w E.ok (E.at_ t) o ys (l.map a.eval)
  | [], ys, h => by simp only [argX, Option.some.injEq] at h; subst h; simp [XA.repL]
  | x :: xs, ys, h => by
    simp only [argX] at h
    split at h
    case h_2 => cases h
    rename_i X ys' hX hys
    obtain ⟨y, hy, rfl⟩ := Option.map_eq_some_iff.1 h
    refine ⟨_, _, rfl, ?_, argX_rep hI hm hys⟩
    have hr := aval_rep hI hX
    unfold XA.of at hy
    split at hy
    · simp only [Option.some.injEq] at hy; subst hy
      simpa only [XA.rep, RepV] using hr
    · simp only [Option.some.injEq] at hy; subst hy
      simp only [RepV] at hr
      simp only [XA.rep, RepS]
      exact ⟨none, 0, by simpa using hr, by simp, by simp⟩
    · rename_i s
      cases o with
      | row k zs =>
        simp only at hy
        split at hy
        · rename_i e
          subst e
          simp only [Option.some.injEq] at hy; subst hy
          simp only [RepV, hm] at hr
          exact ⟨k, zs, rfl, hr⟩
        · cases hy
      | box cs => cases hy
    · rename_i s off
      cases o with
      | row k zs => cases hy
      | box cs =>
        simp only at hy
        split at hy
        · rename_i e
          subst e
          simp only [Option.some.injEq] at hy; subst hy
          simp only [RepV, hm] at hr
          exact ⟨cs, rfl, hr⟩
        · cases hy
    · cases hy

variable {P : Program} {ops : Array Oper} {l : List Oper} {K : St → Prop} {o : Oper}
theorem Rn.callI {f : FuncId} {xs : Array Operand} {ts : Array TypeId} {args : List XA} {t : Nat} {ob : Obj'} {R : RV → Obj' → Prop} (hg : grd ops st o = some true) (ho : o.op = .call { callee := .value (.func f), args := xs, argTypes := ts })
    (hm : lk st.m t = some ob) (hs : ob.svOnly = true) (ha : argX st t ob xs.toList = some args) (hc : ACallsI P f args ob R)
    (h : ∀ r o', R r o' → ob.like o' ∧ ({ st with m := up st.m t o' } : St).impFresh o.dst r = true ∧ Rn P ops l K (({ st with m := up st.m t o' } : St).imp o.dst r)) : Rn P ops (o :: l) K st := fun keep w E a hI => by
  unfold wpList
  rw [if_pos (grd_run hI hg)]
  refine .inl ?_
  obtain ⟨g', hc1, hc2⟩ := hc
  have hown : ∀ g c s, E.at_ t = some (g, c, s) → g < w.heap.size ∧ ¬ E.ok g ∧ ¬ keep g := fun g c s hx => hI.own t ob g c s hm hx
  have hok0 : ∀ b, E.ok b → xkeep w (E.at_ t) b := fun b hb => ⟨hI.okl b hb, fun g c s hx e => (hown g c s hx).2.1 (e ▸ hb)⟩
  have hcall := hc2 w E.ok (E.at_ t) (xs.map a.eval) hok0 hI.okl.gw (fun g c s hx => (hown g c s hx).1) (OMem.of hs (hI.mm t ob hm)) (by simpa using argX_rep hI hm ha)
  have hrun : (execOp a.eval o).run P w = .ok (.enter g' (xs.map a.eval)) w := by
    unfold execOp
    rw [ho]
    simp [resolve, Deferred.ofValue, Act.eval, invoke, hc1]
  unfold Oper.wp
  rw [hrun, Oper.upon_enter]
  refine hcall.mono ?_
  rintro e w' ⟨r, vs, E1, o', hR, rfl, h1, h2, h3, h4, h5⟩
  obtain ⟨hlike, hF, hk⟩ := h r o' hR
  have hkeep : ∀ b, xkeep w (E.at_ t) b → w'.heap[b]? = w.heap[b]? := h2.kp
  have hoks : ∀ b, E.ok b → (⟨E1.ok, E.at_⟩ : Env).ok b ∧ w'.heap[b]? = w.heap[b]? := h2.oks
  have hat : ∀ s o1, lk (up st.m t o') s = some o1 → (s = t ∧ o1 = o') ∨ (s ≠ t ∧ lk st.m s = some o1) := fun s o1 hs => by
    rw [lk_up] at hs
    split at hs
    · simp at hs; exact .inl ⟨by omega, hs.symm⟩
    · exact .inr ⟨by omega, hs⟩
  have hex : ∀ s o1, lk (up st.m t o') s = some o1 → ∃ o2, lk st.m s = some o2 := fun s o1 hs => by
    rcases hat s o1 hs with ⟨rfl, _⟩ | ⟨_, h1⟩
    · exact ⟨ob, hm⟩
    · exact ⟨o1, h1⟩
  have hother : ∀ s o1 g c z, s ≠ t → lk st.m s = some o1 → E.at_ s = some (g, c, z) → xkeep w (E.at_ t) g := fun s o1 g c z hne hs hg' =>
    ⟨(hI.own s o1 g c z hs hg').1, fun g2 c2 s2 hx e => hne (hI.inj s t o1 ob g c z c2 s2 hs hm hg' (e ▸ hx))⟩
  have hpass : ∀ s, Pass E ⟨E1.ok, E.at_⟩ (lk st.m) (lk (up st.m t o')) s := fun s => by
    unfold Pass
    rw [lk_up]
    split
    · rename_i e; subst e
      refine .inr ⟨rfl, ?_⟩
      cases ob with
      | row k xs => cases o' with
        | row k' ys => obtain ⟨rfl, hl⟩ := hlike; exact .inl ⟨k, xs, ys, hm, rfl, hl⟩
        | box ds => exact hlike.elim
      | box cs => cases o' with
        | row k' ys => exact hlike.elim
        | box ds => exact .inr ⟨cs, ds, hm, rfl⟩
    · exact same_tags E (lk st.m) s
  have hA : Inv keep w' ⟨E1.ok, E.at_⟩ { st with m := up st.m t o' } a := by
    refine hI.turn h2.size hoks (fun s _ => hpass s) ?_ ?_ ?_ h1.okl
    · intro s o1 hs1
      rcases hat s o1 hs1 with ⟨rfl, rfl⟩ | ⟨hne, hs1⟩
      · exact OMem.to (E := ⟨E1.ok, E.at_⟩) h4 h3
      · exact (hI.mm s o1 hs1).keep hoks rfl (fun g2 c2 s2 hg2 => hkeep g2 (hother s o1 g2 c2 s2 hne hs1 hg2)) fun u cs _ _ => hpass u
    · intro s s' o1 o2 g2 c1 z1 c2 z2 k1 k2 e1 e2
      obtain ⟨p1, k1⟩ := hex s o1 k1
      obtain ⟨p2, k2⟩ := hex s' o2 k2
      exact hI.inj s s' p1 p2 g2 c1 z1 c2 z2 k1 k2 e1 e2
    · intro s o1 g2 c2 s2 hs1 hg2
      rcases hat s o1 hs1 with ⟨rfl, rfl⟩ | ⟨hne, hs1⟩
      · have q := hown g2 c2 s2 hg2
        exact ⟨Nat.lt_of_lt_of_le q.1 h2.size, (h5 g2 c2 s2 hg2).1, q.2.2⟩
      · have q := hI.own s o1 g2 c2 s2 hs1 hg2
        exact ⟨Nat.lt_of_lt_of_le q.1 h2.size, fun hk => (h2.new g2 hk).elim q.2.1 (fun hx => hx (hother s o1 g2 c2 s2 hne hs1 hg2)), q.2.2⟩
  have hkx : ∀ b, keep b → xkeep w (E.at_ t) b := fun b hb => ⟨hI.kpl b hb, fun g c s hx e => (hown g c s hx).2.2 (e ▸ hb)⟩
  have hEA : Evo keep w E w' ⟨E1.ok, E.at_⟩ :=
    ⟨h2.os, h2.tape, h2.output, h2.size, fun b hb => hkeep b (hkx b hb), hoks, fun b hb => (h2.new b hb).imp (fun h => h) (fun hx hk => hx (hkx b hk)), fun _ _ => rfl⟩
  obtain ⟨E2, q1, q2⟩ := hA.addRes h1 (fun b hb => hb) (fun j sz ys g2 c2 s2 hj hg2 => by
    have hl : lk (cst r.comps).m j = some (.row sz ys) := by rw [cst_lkm, hj]
    have q := h1.own j _ g2 c2 s2 hl hg2
    have hge : ¬ xkeep w (E.at_ t) g2 := q.2.2
    have hng : ∀ g c s, E.at_ t = some (g, c, s) → g2 ≠ g := fun g c s hx e => (h5 g c s hx).2 j sz ys c2 s2 hj (e ▸ hg2)
    have hsz : ¬ g2 < w.heap.size := fun hlt => hge ⟨hlt, hng⟩
    refine ⟨q.2.1, fun hk => hsz (hI.kpl g2 hk), fun s o1 c' s' hs1 hx => ?_⟩
    rcases hat s o1 hs1 with ⟨rfl, rfl⟩ | ⟨hne, hs1⟩
    · exact hng _ _ _ hx rfl
    · exact hsz (hI.own s o1 g2 c' s' hs1 hx).1) hF
  refine Rn.freeze.wpList_mono' ?_ (hk keep w' E2 _ q1)
  rintro e a2 w2 ⟨st2, E3, k1, k2, k3⟩
  exact ⟨st2, E3, k1, (hEA.trans q2).trans k2, k3⟩
end

section
variable {kp : Nat → Prop} {w w' : World} {E E' : Env} {st st' : St} {a a' : Act} {P : Program} {fn : Func}
theorem Inv.results (hI : Inv kp w' E' st' a') {xs : List AV} {rs : List R1} {vs : List Value} (h2 : toR st' xs = some rs) (hr : RepVL w' E' (lk st'.m) xs vs) :
    Inv kp w' ⟨E'.ok, fun i => match xs[i]? with | some (.own t) => E'.at_ t | _ => none⟩ (cst (mkRV rs).comps) ⟨vs.toArray, []⟩ := by
      obtain ⟨hlen, hget⟩ := toR_get h2
      have htag := toR_tags h2
      have hcomps : (mkRV rs).comps = rs := by
        unfold mkRV
        split <;> rfl
      rw [hcomps]
      have hl3 := hr.len
      -- each of the results' rows
      have own : ∀ (i sz : Nat) (ys : List SV), rs[i]? = some (R1.own sz ys) → ∃ t, xs[i]? = some (AV.own t) ∧ lk st'.m t = some (.row sz ys) := fun i sz ys hi => by
        have hlt : i < xs.length := by rw [hlen]; exact (List.getElem?_eq_some_iff.1 hi).1
        have hx := List.getElem?_eq_getElem hlt
        have hc := hget i _ _ hx hi
        rw [hx]
        unfold toR1 at hc
        split at hc
        · cases hc
        · cases hc
        · rename_i t he
          split at hc
          · rename_i sz' xs' hm
            simp only [Option.some.injEq, R1.own.injEq] at hc
            obtain ⟨rfl, rfl⟩ := hc
            exact ⟨t, by rw [he], hm⟩
          · cases hc
        · cases hc
      have hcl : ∀ (i sz : Nat) (ys : List SV), rs[i]? = some (R1.own sz ys) → lk (cst rs).m i = some (.row sz ys) := fun i sz ys hi => by
        rcases impM_lk (f := id) (fun _ _ h => h) rs 0 [] i with ⟨j', sz', xs', h1', h2', h3'⟩ | ⟨h1', _⟩
        · simp only [id, Nat.zero_add] at h2'; subst h2'
          rw [hi] at h1'; simp only [Option.some.injEq, R1.own.injEq] at h1'; obtain ⟨rfl, rfl⟩ := h1'
          exact h3'
        · exact (h1' i sz ys hi (by simp)).elim
      refine ⟨rfl, by simp [cst]; omega, fun d x hx => ?_, fun t o ho => ?_, fun t t' o o' g c s c' s' k1 k2 e1 e2 => ?_, fun t o g c s ho hg => ?_, hI.okl, hI.kpl⟩
      · have hg := ent1_get (f := id) rs 0 d
        simp only [Nat.zero_add, id] at hg
        rw [show lk (cst rs).t d = lk (ent1 id 0 rs) d from rfl, hg] at hx
        obtain ⟨c, hc, rfl⟩ := Option.map_eq_some_iff.1 hx
        have hlt : d < xs.length := by rw [hlen]; exact (List.getElem?_eq_some_iff.1 hc).1
        have hX := List.getElem?_eq_getElem hlt
        have hV : vs[d]? = some vs[d] := List.getElem?_eq_getElem (by omega)
        have hrep := hr.get d _ _ hX hV
        refine ⟨vs[d], by simp, ?_⟩
        have hc1 := hget d _ _ hX hc
        cases c with
        | sv y =>
          unfold toR1 at hc1
          split at hc1 <;> first | (simp only [Option.some.injEq, R1.sv.injEq] at hc1; subst hc1; rename_i he; rw [he] at hrep; simpa only [R1.av, RepV] using hrep) | (split at hc1 <;> cases hc1) | cases hc1
        | nil =>
          unfold toR1 at hc1
          split at hc1 <;> first | (rename_i he; rw [he] at hrep; simpa only [R1.av, RepV] using hrep) | (split at hc1 <;> cases hc1) | cases hc1
        | own sz ys =>
          obtain ⟨t, ht, hm⟩ := own d sz ys hc
          rw [hX] at ht
          simp only [Option.some.injEq] at ht
          rw [ht] at hrep
          simp only [R1.av, RepV] at hrep ⊢
          rw [hm] at hrep
          rw [hcl d sz ys hc, hX, ht]
          exact hrep
      · obtain ⟨sz, ys, hi, rfl⟩ := cst_mem rs t o ho
        obtain ⟨t', ht, hm⟩ := own t sz ys hi
        obtain ⟨h0, h⟩ := hI.mm t' _ hm
        refine ⟨h0, ?_⟩
        simp only [ht]
        exact h
      · obtain ⟨sz, ys, hi, rfl⟩ := cst_mem rs t o k1
        obtain ⟨sz', ys', hi', rfl⟩ := cst_mem rs t' o' k2
        obtain ⟨u, hu, hm⟩ := own t sz ys hi
        obtain ⟨u', hu', hm'⟩ := own t' sz' ys' hi'
        simp only [hu] at e1
        simp only [hu'] at e2
        have := hI.inj u u' _ _ g c s c' s' hm hm' e1 e2
        subst this
        exact htag t t' u hu hu'
      · obtain ⟨sz, ys, hi, rfl⟩ := cst_mem rs t o ho
        obtain ⟨u, hu, hm⟩ := own t sz ys hi
        simp only [hu] at hg
        exact hI.own u _ g c s hm hg

theorem run_results (hI : Inv kp w' E' st' a') {xs : List AV} {rs : List R1} (h1 : resAV P st' fn.results.toList = some xs) (h2 : toR st' xs = some rs) : ∃ vs, RepVL w' E' (lk st'.m) xs vs ∧ (results fn a'.tmps).run P w' = .ok ((mkRV rs).val vs) w' := by
    obtain ⟨vs, hrun, hr⟩ := resAV_run (P := P) hI h1
    obtain ⟨hlen, hget⟩ := toR_get h2
    have hres : (results fn a'.tmps).run P w' = .ok ((mkRV rs).val vs) w' := by
      have h3 : (fn.results.mapM (resOne a'.tmps)).run P w' = .ok vs.toArray w' := by
        rw [Array.mapM_eq_mapM_toList]
        simp [hrun]
      have h4 : results fn a'.tmps = (do let vs ← fn.results.mapM (resOne a'.tmps); pure (if h : vs.size = 1 then vs[0] else .tuple vs)) := by
        unfold results
        congr 2
      rw [h4, Sem.run_bind, h3]
      have hl3 := hr.len
      match rs, hlen with
      | [r], hlen =>
        have : ∃ u, vs = [u] := List.length_eq_one_iff.1 (by simp at hlen; omega)
        obtain ⟨u, rfl⟩ := this
        simp [mkRV, RV.val]
      | [], hlen =>
        have : vs = [] := List.eq_nil_of_length_eq_zero (by simp at hlen; simp [hlen] at hl3; omega)
        subst this
        simp [mkRV, RV.val]
      | r1 :: r2 :: rs', hlen =>
        simp only [mkRV, RV.val]
        have : vs.length ≠ 1 := by simp at hlen; omega
        simp [this]
    exact ⟨vs, hr, hres⟩

/-- What such a function leaves. -/
def retI (P : Program) (fn : Func) (st : St) : Option (RV × Obj') :=
  match resAV P st fn.results.toList, lk st.m 1000000 with
  | some xs, some o' => if AV.holdsL 1000000 xs = false ∧ o'.svOnly = true then (toR st xs).map fun rs => (mkRV rs, o') else none
  | _, _ => none
def bodyQI (P : Program) (fn : Func) (R : RV → Obj' → Prop) (e : Exit) (st : St) : Prop := (e = .ret ∨ e = .normal) ∧ ∃ p, retI P fn st = some p ∧ R p.1 p.2
theorem bodyQI_ret {R : RV → Obj' → Prop} {st : St} : bodyQI P fn R .ret st ↔ match retI P fn st with | some p => R p.1 p.2 | none => False := by
  unfold bodyQI
  cases retI P fn st with
  | none => simp
  | some r => simp
theorem bodyQI_normal {R : RV → Obj' → Prop} {st : St} : bodyQI P fn R .normal st ↔ match retI P fn st with | some p => R p.1 p.2 | none => False := by
  unfold bodyQI
  cases retI P fn st with
  | none => simp
  | some r => simp
def xparams : Nat → List XA → List (Nat × AV)
  | _, [] => []
  | i, x :: xs => (i, x.av) :: xparams (i + 1) xs
theorem xparams_get : ∀ (xs : List XA) (i d : Nat) (x : AV), lk (xparams i xs) d = some x → ∃ j y, d = i + j ∧ xs[j]? = some y ∧ x = y.av
  | [], i, d, x, h => by simp [xparams, lk] at h
  | y :: xs, i, d, x, h => by
    simp only [xparams, lk] at h
    split at h
    · rename_i e; simp only [Option.some.injEq] at h; exact ⟨0, y, by omega, rfl, h.symm⟩
    · obtain ⟨j, z, h1, h2, h3⟩ := xparams_get xs (i + 1) d x h
      exact ⟨j + 1, z, by omega, by simpa using h2, h3⟩
theorem XA.repL_get {ok : Nat → Prop} {x : Option (Nat × Nat × Nat)} {o : Obj'} : ∀ {ys : List XA} {vs : List Value}, XA.repL w ok x o ys vs → ys.length = vs.length ∧ ∀ (j : Nat) (y : XA), ys[j]? = some y → ∃ v, vs[j]? = some v ∧ XA.rep w ok x o y v
  | [], vs, h => by simp only [XA.repL] at h; subst h; exact ⟨rfl, fun j y hj => by simp at hj⟩
  | y :: ys, vs, h => by
    simp only [XA.repL] at h
    obtain ⟨v, vs', rfl, h1, h2⟩ := h
    obtain ⟨q1, q2⟩ := XA.repL_get h2
    refine ⟨by simp [q1], fun j z hj => ?_⟩
    cases j with
    | zero => simp at hj; subst hj; exact ⟨v, rfl, h1⟩
    | succ j => simpa using q2 j z (by simpa using hj)
theorem holdsL_own {t : Nat} : ∀ {xs : List AV}, AV.own t ∈ xs → AV.holdsL t xs = true
  | [], h => by cases h
  | y :: ys, h => by
    simp only [AV.holdsL, Bool.or_eq_true]
    cases h with
    | head => exact .inl (by simp [AV.holds])
    | tail _ hm => exact .inr (holdsL_own hm)
theorem ACallsI.of_body {g : FuncId} {c : Code} {args : List XA} {o : Obj'} {R : RV → Obj' → Prop} (hcall : ∀ (cargs : Array Value) (w : World), (callFunc g cargs).run P w = .ok (.enter g cargs) w) (hf : P.funcs[g]? = some fn) (hb : fn.body = some c) {n : Nat} (hn : fn.ntmps = n) (hle : args.length ≤ n) (hs : o.svOnly = true)
    (h : Tr P c (bodyQI P fn R) { n := n, t := xparams 0 args, m := [(1000000, o)] }) : ACallsI P g args o R := by
  refine ⟨g, hcall, fun w ok x cargs hok hgw hx ho hargs => calls_of_wp hf hb (Code.wp_mono ?_ (h (xkeep w x) w ⟨ok, fun s => if s = 1000000 then x else none⟩ _ ?_))⟩
  · rintro e a' w' ⟨st', E', hI, hev, he, ⟨r, o'⟩, hret, hR⟩
    unfold retI at hret
    split at hret
    case h_2 => cases hret
    rename_i xs ob h1 hm
    split at hret
    case isFalse => cases hret
    rename_i hc
    obtain ⟨rs, h2, he2⟩ := Option.map_eq_some_iff.1 hret
    simp only [Prod.mk.injEq] at he2
    obtain ⟨rfl, rfl⟩ := he2
    obtain ⟨vs, hr, hres⟩ := run_results hI h1 h2
    have hpin : E'.at_ 1000000 = x := by rw [hev.pin 1000000 (Nat.le_refl _)]; simp
    have hfin : ∃ (r : RV) (us : List Value) (E1 : Env) (o2 : Obj'), R r o2 ∧ Ending.returned ((mkRV rs).val vs) = .returned (r.val us) ∧ Inv (xkeep w x) w' E1 (cst r.comps) ⟨us.toArray, []⟩ ∧ Evo (xkeep w x) w ⟨ok, E1.at_⟩ w' E1 ∧ OMem w' E1.ok x o2 ∧ o2.svOnly = true ∧
        ∀ g c s, x = some (g, c, s) → ¬ E1.ok g ∧ ∀ j sz xs c' s', r.comps[j]? = some (.own sz xs) → E1.at_ j ≠ some (g, c', s') := by
      refine ⟨mkRV rs, vs, _, ob, hR, rfl, hI.results h2 hr, ⟨hev.os, hev.tape, hev.output, hev.size, hev.kp, hev.oks, hev.new, fun _ _ => rfl⟩, ?_, hc.2, fun g c s hg => ⟨?_, fun j sz ys c' s' hj hat => ?_⟩⟩
      · have := OMem.of hc.2 (hI.mm 1000000 ob hm)
        rw [hpin] at this
        exact this
      · exact (hI.own 1000000 ob g c s hm (by rw [hpin]; exact hg)).2.1
      · have hcomps : (mkRV rs).comps = rs := by
          unfold mkRV
          split <;> rfl
        rw [hcomps] at hj
        obtain ⟨hlen, hget⟩ := toR_get h2
        have hlt : j < xs.length := by rw [hlen]; exact (List.getElem?_eq_some_iff.1 hj).1
        have hX := List.getElem?_eq_getElem hlt
        have hc1 := hget j _ _ hX hj
        simp only [hX] at hat
        cases hq : xs[j] with
        | own u =>
          rw [hq] at hat hc1
          simp only at hat
          simp only [toR1] at hc1
          split at hc1
          · rename_i sz' ys' hmu
            have : u = 1000000 := hI.inj u 1000000 _ ob g c' s' c s hmu hm hat (by rw [hpin]; exact hg)
            subst this
            have hh := holdsL_own (hq ▸ List.getElem_mem hlt : AV.own 1000000 ∈ xs)
            rw [hc.1] at hh; cases hh
          · cases hc1
        | _ => rw [hq] at hat; simp at hat
    rcases he with rfl | rfl
    · exact ⟨hI.df, _, hres, hfin⟩
    · exact ⟨hI.df, _, hres, hfin⟩
  · obtain ⟨hal, hag⟩ := XA.repL_get hargs
    simp only [Array.length_toList] at hal
    have hl1 : ∀ t ob, lk [((1000000 : Nat), o)] t = some ob → t = 1000000 ∧ ob = o := fun t ob ht => by
      simp only [lk] at ht
      split at ht
      · rename_i e; simp only [Option.some.injEq] at ht; exact ⟨e.symm, ht.symm⟩
      · cases ht
    refine ⟨rfl, by simp [hn]; omega, fun d y hy => ?_, fun t ob ht => ?_, fun t t' o1 o2 g c s c' s' k1 k2 _ _ => ?_, fun t ob g c s ht hat => ?_, ⟨fun b hb => (hok b hb).1, hgw⟩, fun b hb => hb.1⟩
    · obtain ⟨j, z, rfl, hj, rfl⟩ := xparams_get args 0 d y hy
      obtain ⟨v, hv, hr⟩ := hag j z hj
      have hlt : j < cargs.size := by rw [← hal]; exact (List.getElem?_eq_some_iff.1 hj).1
      refine ⟨v, ?_, ?_⟩
      · rw [Nat.zero_add, Array.getElem?_append_left hlt]
        simpa using hv
      · cases z with
        | sv q => simpa only [XA.av, RepV, XA.rep] using hr
        | own =>
          obtain ⟨k, zs, rfl, hr⟩ := hr
          simp only [XA.av, RepV, lk, if_true]
          exact hr
        | box off =>
          obtain ⟨zs, rfl, hr⟩ := hr
          simp only [XA.av, RepV, lk, if_true]
          exact hr
    · obtain ⟨rfl, rfl⟩ := hl1 t ob ht
      exact OMem.to (E := ⟨ok, fun s => if s = 1000000 then x else none⟩) hs (by simpa using ho)
    · rw [(hl1 t o1 k1).1, (hl1 t' o2 k2).1]
    · obtain ⟨rfl, rfl⟩ := hl1 t ob ht
      simp only [if_true] at hat
      exact ⟨hx g c s hat, fun hk => (hok g hk).2 g c s hat rfl, fun hk => hk.2 g c s hat rfl⟩
end
theorem OpW.callI {P : Program} {Q : Exit → St → Prop} {ops : Array Oper} {o : Oper} {l : List Oper} {k : List Fr} {st : St} {f : FuncId} {xs : Array Operand} {ts : Array TypeId} {args : List XA} {ob : Obj'} {R : RV → Obj' → Prop} (t : Nat)
    (hc : ACallsI P f args ob R) (ho : o.op = .call { callee := .value (.func f), args := xs, argTypes := ts }) (hg : grd ops st o = some true)
    (hm : lk st.m t = some ob) (hs : ob.svOnly = true) (ha : argX st t ob xs.toList = some args)
    (h : ∀ r o', R r o' → ob.like o' ∧ ({ st with m := up st.m t o' } : St).impFresh o.dst r = true ∧ Ab.rn P Q ops l k (({ st with m := up st.m t o' } : St).imp o.dst r)) : OpW P Q ops o l k st :=
  Rn.callI hg ho hm hs ha hc fun r o' hR => ⟨(h r o' hR).1, (h r o' hR).2.1, RnK.rn (h r o' hR).2.2⟩
attribute [go_sem] XA.av XA.of argX xparams retI bodyQI_ret bodyQI_normal Obj'.svOnly Obj'.like AV.svs
end Go.Proofs.YtinhfnbmgmociaaGreatDoor.Ab

namespace Go.Proofs.YtinhfnbmgmociaaGreatDoor.Ab
open Go.RowKit Go.ChangeShapes Go.WideShapes
set_option linter.unusedVariables false
set_option linter.unusedSimpArgs false

/-- Cells that are a value of so many cells. -/
def RepC (W : World) (x : SV) (cs : List Value) : Prop := ∃ u : Value, u.cells.toList = cs ∧ RepS W (· < W.heap.size) x u
/-- Reading a value of type t (cells cs) gives f y, for a y of which G holds. -/
def Opens (P : Program) (t : TypeId) {α : Type} (f : α → SV) (G : α → Prop) : Prop :=
  0 < P.cellsOf t ∧ ∀ {H : Type} (enc : TypeId × Value → H) (W : World) (held : Bool) (fuel : Nat) (cs : List Value) (x : DataW H × List MemPlace),
    DataW.trod enc P W 0 (fun _ => true) held fuel t cs = some x → (∀ n ∈ x.1.weights P t, n ≤ reachBytes) → ∃ y, cs.length = P.cellsOf t ∧ RepC W (f y) cs ∧ G y

theorem opens_int {P : Program} {t : TypeId} {k : IntKind} (ht : P.underlying t = some (.int k)) (hc : P.cellsOf t = 1) : Opens P t (fun n => .val (.int k n)) (fun x => (Lit.int k x).wf = true) :=
  ⟨by omega, fun enc W held fuel cs x h _ => by
    obtain ⟨n, rfl, _, hw⟩ := DataW.trod_int ht h
    exact ⟨n, by simp [hc], ⟨.int k n, by simp [Value.cells], by simp only [RepS]⟩, hw⟩⟩
theorem opens_bool {P : Program} {t : TypeId} (ht : P.underlying t = some .bool) (hc : P.cellsOf t = 1) : Opens P t bv (fun _ => True) :=
  ⟨by omega, fun enc W held fuel cs x h _ => by
    obtain ⟨b, rfl, _⟩ := DataW.trod_bool ht h
    exact ⟨b, by simp [hc], ⟨.bool b, by simp [Value.cells], by simp only [bv, RepS]⟩, trivial⟩⟩
/-- A string as a value. -/
def sv' (s : ByteArray) : SV := .val (.string s)
theorem opens_string {P : Program} {t : TypeId} (ht : P.underlying t = some .string) (hc : P.cellsOf t = 1) : Opens P t sv' (fun s => s.size ≤ 140737488351232) :=
  ⟨by omega, fun enc W held fuel cs x h hz => by
    obtain ⟨s, rfl, rfl, _⟩ := DataW.trod_string ht h
    refine ⟨s, by simp [hc], ⟨.string s, by simp [Value.cells], by simp only [sv', RepS]⟩, ?_⟩
    have := hz s.data.toList.length (by simp [DataW.weights])
    rw [Array.length_toList] at this
    exact this⟩
theorem weightsAll_mem {H : Type} {P : Program} {e : TypeId} : ∀ {l : List (DataW H)} {d : DataW H}, d ∈ l → ∀ n ∈ d.weights P e, n ∈ DataW.weightsAll P e l
  | [], _, h, _, _ => by cases h
  | a :: l, d, h, n, hn => by
    simp only [DataW.weightsAll, List.mem_append]
    rcases List.mem_cons.1 h with rfl | h
    · exact .inl hn
    · exact .inr (weightsAll_mem h n hn)
theorem pick {α : Type} {R : Nat → α → Prop} : ∀ (n : Nat), (∀ i, i < n → ∃ y, R i y) → ∃ l : List α, l.length = n ∧ ∀ i y, l[i]? = some y → R i y
  | 0, _ => ⟨[], rfl, fun i y h => by simp at h⟩
  | n + 1, h => by
    obtain ⟨l, hl, hr⟩ := pick n (fun i hi => h i (by omega))
    obtain ⟨y, hy⟩ := h n (by omega)
    refine ⟨l ++ [y], by simp [hl], fun i z hz => ?_⟩
    rcases Nat.lt_or_ge i l.length with hi | hi
    · rw [List.getElem?_append_left hi] at hz
      exact hr i z hz
    · rw [List.getElem?_append_right hi] at hz
      have : i - l.length = 0 := by
        rcases Nat.eq_zero_or_pos (i - l.length) with h0 | h0
        · exact h0
        · rw [List.getElem?_eq_none (by simp; omega)] at hz; cases hz
      rw [this] at hz
      simp only [List.getElem?_cons_zero, Option.some.injEq] at hz
      subst hz
      rw [show i = n by omega]
      exact hy
/-- Two lists beside each other. -/
theorem pick2 {α β : Type} {R : Nat → α → β → Prop} (n : Nat) (h : ∀ i, i < n → ∃ y z, R i y z) : ∃ (l : List α) (m : List β), l.length = n ∧ m.length = n ∧ ∀ i y z, l[i]? = some y → m[i]? = some z → R i y z := by
  obtain ⟨p, hp, hr⟩ := pick (R := fun i (q : α × β) => R i q.1 q.2) n (fun i hi => let ⟨y, z, h⟩ := h i hi; ⟨(y, z), h⟩)
  refine ⟨p.map (·.1), p.map (·.2), by simp [hp], by simp [hp], fun i y z hy hz => ?_⟩
  rw [List.getElem?_map] at hy hz
  obtain ⟨q, hq, rfl⟩ := Option.map_eq_some_iff.1 hy
  rw [hq] at hz
  simp at hz; subst hz
  exact hr i q hq

theorem opens_slice {P : Program} {t e : TypeId} {α : Type} {f : α → SV} {G : α → Prop} (B : Nat) (ht : P.underlying t = some (.slice e)) (hc : P.cellsOf t = 1) (hB : P.bytesOf e = B) (he : Opens P e f G) :
    Opens P t (fun l : List α => .lst (l.map f)) (fun xs => xs.length * B ≤ 140737488351232 ∧ xs.length ≤ maxLen ∧ ∀ x ∈ xs, G x) :=
  ⟨by omega, fun enc W held fuel cs x h hz => by
    rcases DataW.trod_slice ht h with ⟨rfl, rfl⟩ | ⟨a, len, cap, elems, rest, n, _, rfl, rfl, hb, hl, hm, hlen, hel, hsp, hns⟩
    · exact ⟨[], by simp [hc], ⟨.slice none 0 0, by simp [Value.cells], by simp [RepS]⟩, by simp, by simp, by simp⟩
    have wz : (elems.length + rest.length) * P.bytesOf e ≤ reachBytes := by
      have := hz ((elems.length + rest.length) * P.bytesOf e) (by simp [DataW.weights, ht])
      exact this
    have key : ∀ i, i < len → ∃ (y : α) (u : Value), (RepS W (· < W.heap.size) (f y) u ∧ u.cells.size = P.cellsOf e ∧ ∀ j z, u.cells[j]? = some z → W.cell? (a.add (i * P.cellsOf e + j)) = some z) ∧ G y := by
      intro i hi
      have h1 := hel i hi
      have hi2 : i < elems.length := by omega
      rw [List.getElem?_eq_getElem hi2] at h1
      obtain ⟨c, hc1, hc2⟩ := Option.bind_eq_some_iff.1 h1
      obtain ⟨_, hcl, hcell⟩ := World.cells?_some hc1
      obtain ⟨y, hy0, ⟨u, hu, hr⟩, hg⟩ := he.2 enc W held n c _ hc2 (fun m hm2 => hz m (by
        simp only [DataW.weights, ht]
        refine List.mem_cons_of_mem _ (List.mem_append_left _ (weightsAll_mem (d := elems[i].1) ?_ m hm2))
        exact List.mem_map.2 ⟨_, List.getElem_mem hi2, rfl⟩))
      refine ⟨y, u, ⟨hr, by rw [← Array.length_toList, hu, hy0], fun j z hz' => ?_⟩, hg⟩
      have hj : j < c.length := by rw [← hu, Array.length_toList]; exact (Array.getElem?_eq_some_iff.1 hz').1
      rw [← Go.Deep.add_add a, hcell j (by omega)]
      have : c[j]? = some z := by rw [← hu]; simpa using hz'
      exact this
    obtain ⟨l, us, hll, hul, hlr⟩ := pick2 len key
    have hsz : (a.block < W.heap.size) ∨ len = 0 := by
      rcases Nat.eq_zero_or_pos len with h0 | h0
      · exact .inr h0
      · left
        obtain ⟨⟨_, h2, h3⟩, _⟩ := hlr 0 l[0] us[0] (List.getElem?_eq_getElem (by omega)) (List.getElem?_eq_getElem (by omega))
        have hpos := he.1
        have := h3 0 _ (Array.getElem?_eq_getElem (by omega))
        have h4 := World.block_lt_of_cell? W _ this
        rwa [add_block] at h4
    refine ⟨l, by simp [hc], ⟨.slice (some a) len cap, by simp [Value.cells], ?_⟩, ?_, by rw [hll]; omega, fun y hy => ?_⟩
    · simp only [RepS]
      refine ⟨some a, cap, by simp [hll], by simp [hll]; omega, ?_⟩
      rcases hsz with hsz | h0
      · refine .inr ⟨a, P.cellsOf e, us, rfl, hsz, RepL.of (by simp [hll, hul]) (fun i x v hx hv => ?_), fun i u hu => ?_⟩
        · rw [List.getElem?_map] at hx
          obtain ⟨y, hy, rfl⟩ := Option.map_eq_some_iff.1 hx
          exact (hlr i y v hy hv).1.1
        · have hi : i < l.length := by rw [hll, ← hul]; exact (List.getElem?_eq_some_iff.1 hu).1
          obtain ⟨⟨_, h2, h3⟩, _⟩ := hlr i _ u (List.getElem?_eq_getElem hi) hu
          refine ⟨h2, fun j y hy => ?_⟩
          rw [Go.Deep.add_add]
          exact h3 j y hy
      · left; simp; exact List.eq_nil_of_length_eq_zero (by omega)
    · rw [hll, ← hlen]
      rw [hB] at wz
      exact Nat.le_trans (Nat.mul_le_mul_right _ (Nat.le_add_right _ _)) wz
    · obtain ⟨i, hi⟩ := List.getElem?_of_mem hy
      have hi2 : i < us.length := by rw [hul, ← hll]; exact (List.getElem?_eq_some_iff.1 hi).1
      exact (hlr i y _ hi (List.getElem?_eq_getElem hi2)).2⟩

/-- Fields one behind the other, from a place on: their leaves. -/
def OpensF (P : Program) (fs : List Field) (off : Nat) {α : Type} (f : α → List SV) (G : α → Prop) : Prop :=
  ∀ (H : Type) (enc : TypeId × Value → H) (W : World) (held : Bool) (fuel : Nat) (cs : List Value) (xs : List (DataW H × List MemPlace)),
    xs.length = fs.length → (∀ (i : Nat) (f : Field), fs[i]? = some f → DataW.trod enc P W 0 (fun _ => true) held fuel f.type ((cs.drop f.offset).take (P.cellsOf f.type)) = xs[i]?) →
    (∀ n ∈ DataW.weightsEach P (fs.map (·.type)) (xs.map (·.1)), n ≤ reachBytes) → ∃ y us, us = (cs.drop off).take us.length ∧ us.length = (fs.map (fun f => P.cellsOf f.type)).sum ∧ RepL W (· < W.heap.size) (f y) us ∧ G y
theorem opensF_nil {P : Program} {off : Nat} : OpensF P [] off (fun _ : Unit => []) (fun _ => True) := fun H enc W held fuel cs xs hx hr hz => ⟨(), [], by simp, rfl, RepL.nil, trivial⟩
theorem opensF_cons {P : Program} {f : Field} {fs : List Field} {off off' : Nat} {α β : Type} {g : α → SV} {h : β → List SV} {G : α → Prop} {G' : β → Prop} (ho : f.offset = off) (hs : ∀ y, (g y).solid = true) (h1 : Opens P f.type g G) (ho' : off' = off + P.cellsOf f.type) (h2 : OpensF P fs off' h G') :
    OpensF P (f :: fs) off (fun p : α × β => (g p.1).cells ++ h p.2) (fun p => G p.1 ∧ G' p.2) := by
  intro H enc W held fuel cs xs hx hr hz
  match xs, hx with
  | x :: xs, hx =>
    have h0 := hr 0 f rfl
    rw [ho] at h0
    obtain ⟨y, hl, ⟨u, hu, hrep⟩, hg⟩ := h1.2 enc W held fuel _ x h0 (fun n hn => hz n (by simp [DataW.weightsEach, hn]))
    obtain ⟨z, us, hus, hul, hru, hg'⟩ := h2 H enc W held fuel cs xs (by simpa using hx) (fun i f' hf => hr (i + 1) f' (by simpa using hf)) (fun n hn => hz n (by simp only [List.map_cons, DataW.weightsEach, List.mem_append]; exact .inr hn))
    subst ho'
    refine ⟨(y, z), u.cells.toList ++ us, ?_, ?_, (RepS.cells (hs y) hrep).append hru, hg, hg'⟩
    · have hlu : u.cells.toList.length = P.cellsOf f.type := by rw [hu]; exact hl
      rw [List.length_append, hlu, List.take_add, List.drop_drop, ← hus, ← hu]
    · have hlu : u.cells.toList.length = P.cellsOf f.type := by rw [hu]; exact hl
      rw [List.length_append, hlu, hul]
      simp
theorem opens_struct {P : Program} {t : TypeId} {fs : List Field} {α β : Type} {h : α → List SV} {G : α → Prop} {f : β → SV} (g : α → β) (hfg : ∀ x, f (g x) = .agg (h x)) (G' : β → Prop) (hG : ∀ x, G x → G' (g x)) (ht : P.underlying t = some (.struct fs.toArray)) (hsum : (fs.map (fun f => P.cellsOf f.type)).sum = P.cellsOf t) (hpos : 0 < P.cellsOf t) (hF : OpensF P fs 0 h G) :
    Opens P t f G' :=
  ⟨hpos, fun enc W held fuel cs x hx hz => by
    obtain ⟨xs, n, _, rfl, hl, hxl, hr⟩ := DataW.trod_struct ht hx
    obtain ⟨y, us, hus, hul, hrep, hg⟩ := hF _ enc W held n cs xs (by simpa using hxl) (fun i f hf => hr i f (by simpa using hf)) (fun m hm => hz m (by simp only [DataW.weights, ht, List.toList_toArray]; exact hm))
    rw [List.drop_zero, hul, hsum, List.take_of_length_le (by omega)] at hus
    subst hus
    exact ⟨g y, hl, ⟨.agg us.toArray, by simp [Value.cells], by rw [hfg]; simp only [RepS]; exact ⟨_, rfl, hrep⟩⟩, hG y hg⟩⟩

/-- A law's parameter. -/
theorem open_param {P : Program} {t : TypeId} {α : Type} {f : α → SV} {G : α → Prop} (ho : Opens P t f G) {H : Type} {enc : TypeId × Value → H} {W : World} {held : Bool} {v : Value} {x : DataW H} {ps : List MemPlace} {ts : List TypeId} {ds : List (DataW H)} {j : Nat}
    (hv : v.oneCell' = true ∨ ∃ cs, v = .agg cs) (hagg : ∀ y, (∃ xs, f y = .agg xs) ↔ ∃ cs, v = .agg cs) (hsol : ∀ y, (f y).solid = true)
    (hsz : (DataW.weightsEach P ts ds).all (· ≤ reachBytes) = true) (ht : ts[j]? = some t) (hd : ds[j]? = some x) (h : DataW.Trod enc P W 0 (fun _ => true) held t v x ps) : ∃ y, RepS W (· < W.heap.size) (f y) v ∧ G y := by
  obtain ⟨fuel, hf⟩ := h
  obtain ⟨y, hl, ⟨u, hu, hr⟩, hg⟩ := ho.2 enc W held fuel _ _ hf (fun n hn => by
    have := List.all_eq_true.1 hsz _ (DataW.weights_mem_each ht hd n hn)
    simpa using this)
  refine ⟨y, ?_, hg⟩
  have hu' : u.cells = v.cells := by
    apply Array.toList_inj.1
    rw [hu]
  have : u = v := by
    rcases hv with hv | ⟨cs, rfl⟩
    · rw [cells_one hv] at hu'
      have hna : ¬ ∃ cs, v = .agg cs := by rintro ⟨cs, rfl⟩; cases hv
      have h1 : u.oneCell' = true := by
        have hnx := mt (hagg y).1 hna
        cases hfy : f y with
        | any => have := hsol y; rw [hfy] at this; cases this
        | val w => rw [hfy] at hr; simp only [RepS] at hr; subst hr; have := hsol y; rw [hfy] at this; exact this
        | agg xs => exact (hnx ⟨xs, hfy⟩).elim
        | lst xs => rw [hfy] at hr; simp only [RepS] at hr; obtain ⟨_, _, rfl, _⟩ := hr; rfl
        | ref x o => rw [hfy] at hr; simp only [RepS] at hr; obtain ⟨_, _, rfl, _⟩ := hr; rfl
        | fn g xs => rw [hfy] at hr; simp only [RepS] at hr; obtain ⟨_, rfl, _⟩ := hr; rfl
      rw [cells_one h1] at hu'
      simpa using hu'
    · obtain ⟨xs, hxs⟩ := (hagg y).2 ⟨cs, rfl⟩
      rw [hxs] at hr
      simp only [RepS] at hr
      obtain ⟨ds, rfl, _⟩ := hr
      simp only [Value.cells] at hu'
      rw [hu']
  exact this ▸ hr

/-- From the contract of a law to the machine's words. -/
theorem law_calls {P : Program} {g : FuncId} {args : List SV} {R : RV → Prop} (h : ACalls P g args R) (hg : ∀ (cargs : Array Value) (w : World), (callFunc g cargs).run P w = .ok (.enter g cargs) w) (hR : ∀ r, R r → r = .one (.sv (bv true))) {W : World} {cargs : Array Value} (hW : GW W (· < W.heap.size)) (hargs : RepL W (· < W.heap.size) args cargs.toList) :
    Calls P g cargs W fun e W' => e = .returned (.bool true) ∧ Below W.heap.size W W' := by
  obtain ⟨g', h1, h2⟩ := h
  have e : g' = g := by
    have := (h1 #[] W).symm.trans (hg #[] W)
    simp only [Result.ok.injEq, Next.enter.injEq] at this
    exact this.1.1
  subst e
  refine (h2 W (· < W.heap.size) cargs ⟨fun b h => h, hW⟩ hargs).mono ?_
  rintro e W' ⟨r, vs, E1, hr, rfl, hI, hE⟩
  have := hR r hr
  subst this
  refine ⟨?_, ⟨hE.os, hE.tape, hE.output, hE.size, hE.kp⟩⟩
  obtain ⟨v, k1, k2⟩ := hI.tm 0 (.sv (bv true)) rfl
  have hv : v = .bool true := by simpa only [RepV, bv, RepS] using k2
  subst hv
  cases vs with
  | nil => simp at k1
  | cons u us => simp at k1; subst k1; rfl
end Go.Proofs.YtinhfnbmgmociaaGreatDoor.Ab

namespace Go.Proofs.YtinhfnbmgmociaaGreatDoor.Ab
open Go.RowKit
set_option linter.unusedVariables false
set_option linter.unusedSimpArgs false

/-- A slice held against nil: where it has no elements, either way. -/
theorem Rn.isnil {P : Program} {ops : Array Oper} {l : List Oper} {K : St → Prop} {o : Oper} {st : St} {t rt : TypeId} {x : Operand} {op : BinOp} {X : AV} {xs : List SV} {e : TypeId} (hop : op = .eql ∨ op = .neq) (hg : grd ops st o = some true) (ho : o.op = .binOp op t x (.const (.slice none 0 0)) rt)
    (hx : aval st x = some X) (hr : rowOf st X = some xs) (he : selem P t = some e) (hd : st.fitsDst o.dst = true) (h : ∀ b : Bool, (b = true → xs = []) → Rn P ops l K (st.put o.dst (.sv (.val (.bool (if op = .eql then b else !b)))))) : Rn P ops (o :: l) K st := fun keep w E a hI => by
  unfold wpList
  rw [if_pos (grd_run hI hg)]
  refine .inl ?_
  obtain ⟨b, c, hv, hc, hor⟩ := src_rep hI hr (aval_rep hI hx)
  have hb : b.isNone = true → xs = [] := fun hn => by
    rcases hor with h | ⟨ad, sz, vs, rfl, _⟩
    · exact h
    · simp at hn
  have hrun : (execOp a.eval o).run P w = .ok (.value (.bool (if op = .eql then b.isNone else !b.isNone))) w := by
    have hq := run_equal_slice_nil w t e b xs.length c (selem_eq he).1
    unfold execOp
    rw [ho]
    have hc2 : a.eval (.const (.slice none 0 0)) = .slice none 0 0 := rfl
    rcases hop with rfl | rfl <;> simp [hv, hc2, eqGuard, binOp, hq]
  unfold Oper.wp
  rw [hrun]
  refine Rn.freeze.wpList_mono' ?_ (h b.isNone hb keep w E _ (hI.put hd (RepV.val_mk _)))
  rintro e a2 w2 ⟨st2, E2, k1, k2, k3⟩
  exact ⟨st2, E2, k1, k2, k3⟩
theorem OpW.isnil {P : Program} {Q : Exit → St → Prop} {ops : Array Oper} {l : List Oper} {k : List Fr} {o : Oper} {st : St} {t rt : TypeId} {x : Operand} {op : BinOp} {X : AV} {xs : List SV} {e : TypeId} (hop : op = .eql ∨ op = .neq) (ho : o.op = .binOp op t x (.const (.slice none 0 0)) rt) (hg : grd ops st o = some true)
    (hx : aval st x = some X) (hr : rowOf st X = some xs) (he : selem P t = some e) (hd : st.fitsDst o.dst = true) (h : ∀ b : Bool, (b = true → xs = []) → Ab.rn P Q ops l k (st.put o.dst (.sv (.val (.bool (if op = .eql then b else !b)))))) : OpW P Q ops o l k st :=
  Rn.isnil hop hg ho hx hr he hd fun b hb => RnK.rn (h b hb)
/-- What is owned is shared from here on. -/
theorem OpW.frz {P : Program} {Q : Exit → St → Prop} {ops : Array Oper} {l : List Oper} {k : List Fr} {o : Oper} {st : St} (t : Nat) (h : OpW P Q ops o l k (st.freeze t)) : OpW P Q ops o l k st := Rn.freeze t h
theorem OpW.ent {P : Program} {Q : Exit → St → Prop} {ops : Array Oper} {l : List Oper} {k : List Fr} {o : Oper} {st st' : St} (h : Ent st st') (hk : OpW P Q ops o l k st') : OpW P Q ops o l k st := Rn.ent h hk
theorem DrawW.ent {P : Program} {Q : Exit → St → Prop} {id : Nat} {ops : Array Oper} {k : List Fr} {st st' : St} (h : Ent st st') (hk : DrawW P Q id ops k st') : DrawW P Q id ops k st := Tr.ent h hk
theorem LoopW.ent {P : Program} {Q : Exit → St → Prop} {c : Code} {k : List Fr} {st st' : St} (h : Ent st st') (hk : LoopW P Q c k st') : LoopW P Q c k st := Tr.ent h hk
/-- A call of a function value that is shared, in a region that draws. -/
theorem loc_callF {P : Program} {ops : Array Oper} {st : St} {o : Oper} {f : Operand} {g : FuncId} {caps : List SV} {xs : Array Operand} {ts : Array TypeId} {ys : List SV} {r : RV} (lent : Bool) (hg : grd ops st o = some true) (ho : o.op = .call { callee := .value f, args := xs, argTypes := ts }) (hfn : aval st f = some (.sv (.fn g caps)))
    (ha : (if lent = true then argv st xs.toList else argS st xs.toList) = some ys) (hc : ACalls P g (ys ++ caps) (· = r)) (hl : lent = true → r.flat) (hs : r.comps.all R1.shared = true) (hf : st.fitsDst o.dst = true) :
    LocT P ops o st ⟨usesT ops o, usesM st o, [], ftW o.dst (some (r.av (tagf (o.dst.getD 0)))), [], none, false, []⟩ := ⟨⟨fun _ t x hw => (by cases hw), fun t cs hw => (by cases hw)⟩, fun s hn hT hM hL _ keep w E a hI N Q hN => by
  have hg' : grd ops s o = some true := by rw [grd_agr hT]; exact hg
  have hv := aval_agr hT
  have hm := agr_of (s := s) (st := st) (o := o) (by rw [ho]; simpa only [usesM, ho] using hM)
  have hops : ∀ x ∈ xs.toList, x ∈ o.op.operands := fun x hx => by
    simp only [ho, Op.operands, Call.operands, Array.mem_append]; exact .inr (by simpa using hx)
  have ha' : (if lent = true then argv s xs.toList else argS s xs.toList) = some ys := by
    rw [argv_agr xs.toList (fun x hx => hv x (hops x hx)) (fun x hx => hm x (hops x hx)), argS_agr xs.toList (fun x hx => hv x (hops x hx))]
    exact ha
  have hfs : aval s f = some (.sv (.fn g caps)) := by
    rw [hv f (by simp only [ho, Op.operands, Call.operands, Array.mem_append]; exact .inl (by simp))]; exact hfn
  have hclo := aval_rep hI hfs
  simp only [RepV, RepS] at hclo
  obtain ⟨cs, hfe, hcs⟩ := hclo
  -- through the call by hand: what is behind it is N
  rw [if_pos (grd_run hI hg')]
  have key : ∀ N' : Act → World → Prop, (∀ a' w' E', Inv keep w' E' (s.imp o.dst r) a' → Evo keep w E w' E' → N' a' w') → o.wp P a w N' Q := fun N' hN' => by
    obtain ⟨g', hc1, hc2⟩ := hc
    cases lent with
    | true =>
      have hcall := hc2 w (· < w.heap.size) (xs.map a.eval ++ cs) ⟨fun b h => h, hI.okl.gw.keep fun b hb => ⟨hI.okl b hb, rfl⟩⟩ (by simpa using (argv_rep hI (by simpa using ha')).append (hcs.keep fun b hb => ⟨hI.okl b hb, rfl⟩))
      have hrun : (execOp a.eval o).run P w = .ok (.enter g' (xs.map a.eval ++ cs)) w := by
        unfold execOp
        rw [ho]
        simp [resolve, Deferred.ofValue, hfe, invoke, hc1]
      unfold Oper.wp
      rw [hrun, Oper.upon_enter]
      refine hcall.mono ?_
      rintro e w' ⟨r', vs, E1, rfl, rfl, h1, h2⟩
      obtain ⟨E2, q1, q2⟩ := hI.import h1 h2 (dst := o.dst) (by
        cases hdst : o.dst with
        | none => rfl
        | some d =>
          rw [hdst] at hf
          simp only [St.fitsDst, decide_eq_true_eq] at hf
          simp [St.impFresh, impF_shared _ _ hs, hn, hf]) (.inr (hl rfl))
      exact hN' _ _ E2 q1 q2
    | false =>
      have hcall := hc2 w E.ok (xs.map a.eval ++ cs) hI.okl (by simpa using (argS_rep hI (by simpa using ha')).append hcs)
      have hrun : (execOp a.eval o).run P w = .ok (.enter g' (xs.map a.eval ++ cs)) w := by
        unfold execOp
        rw [ho]
        simp [resolve, Deferred.ofValue, hfe, invoke, hc1]
      unfold Oper.wp
      rw [hrun, Oper.upon_enter]
      refine hcall.mono ?_
      rintro e w' ⟨r', vs, E1, rfl, rfl, h1, h2⟩
      obtain ⟨E2, q1, q2⟩ := hI.import h1 h2 (dst := o.dst) (by
        cases hdst : o.dst with
        | none => rfl
        | some d =>
          rw [hdst] at hf
          simp only [St.fitsDst, decide_eq_true_eq] at hf
          simp [St.impFresh, impF_shared _ _ hs, hn, hf]) (.inl fun b h => h)
      exact hN' _ _ E2 q1 q2
  refine key N fun a' w' E' h1 h2 => hN a' w' E' ?_ h2
  have e : s.imp o.dst r = s.upd ⟨usesT ops o, usesM st o, [], ftW o.dst (some (r.av (tagf (o.dst.getD 0)))), [], none, false, []⟩ := by
    unfold St.imp St.upd ftW upo upm
    cases o.dst with
    | none => rfl
    | some d => simp [impM_shared _ _ _ hs]
  rwa [e] at h1⟩
theorem OpD.callF {P : Program} {Q : Exit → St → Prop} {D : List Nat} {ops : Array Oper} {o : Oper} {l : List Oper} {fs : List Ft} {k : List Fr} {st : St} {f : Operand} {g : FuncId} {caps : List SV} {xs : Array Operand} {ts : Array TypeId} {ys : List SV} {r : RV} (lent : Bool)
    (hc : ACalls P g (ys ++ caps) (· = r)) (ho : o.op = .call { callee := .value f, args := xs, argTypes := ts }) (hg : grd ops st o = some true) (hfn : aval st f = some (.sv (.fn g caps)))
    (ha : (if lent = true then argv st xs.toList else argS st xs.toList) = some ys) (hl : lent = true → r.flat) (hs : r.comps.all R1.shared = true) (hf : st.fitsDst o.dst = true)
    (h : Ab.rd P Q D ops l (⟨usesT ops o, usesM st o, [], ftW o.dst (some (r.av (tagf (o.dst.getD 0)))), [], none, false, []⟩ :: fs) k (st.put o.dst (r.av (tagf (o.dst.getD 0))))) : OpD P Q D ops o l fs k st := by
  obtain ⟨fs', st', h1, h2, h3⟩ := rd_sound _ _ _ h
  have e : st.put o.dst (r.av (tagf (o.dst.getD 0))) = st.upd ⟨usesT ops o, usesM st o, [], ftW o.dst (some (r.av (tagf (o.dst.getD 0)))), [], none, false, []⟩ := by
    unfold St.put St.upd ftW upo upm
    cases o.dst <;> rfl
  rw [e] at h1
  exact ⟨_ :: fs', st', .cons (loc_callF lent hg ho hfn ha hc hl hs hf) h1, by simpa using h2, h3⟩
theorem does_buildA {P : Program} {o : Oper} {st : St} {ty e : TypeId} {n : Nat} {ps : Array (Nat × Operand)} {xs : List SV} (ho : o.op = .build ty ps) {z : Value} (hz : tzero P ty = some z) (ha : aelem P ty = some (n, e)) (hxs : afill st (fun i => some (i * tsz P e, tsz P e)) (z.cells.toList.map svC) ps.toList = some xs)
    (hd : st.fitsDst o.dst = true) : Does P o st (st.put o.dst (.sv (.agg xs))) := by
  refine Does.puts hd fun keep w E a hI => ?_
  obtain ⟨us, h1, h2⟩ := fill_run hI ps.toList (vs := z.cells) hxs (svC_repL w E.ok _)
  refine ⟨.agg us, ?_, by simp only [RepV, RepS]; exact ⟨us, rfl, h2⟩⟩
  obtain ⟨hu, hi⟩ := aelem_eq ha
  unfold execOp
  rw [ho]
  dsimp only
  simp [Instr.build, run_underlying hu, run_zeroValue hz, run_sizeOf hi, h1]
/-- An operation, by what it does. -/
theorem OpW.does {P : Program} {Q : Exit → St → Prop} {ops : Array Oper} {l : List Oper} {k : List Fr} {o : Oper} {st st' : St} (hd : Does P o st st') (hg : grd ops st o = some true) (h : Ab.rn P Q ops l k st') : OpW P Q ops o l k st := Rn.step hg hd (RnK.rn h)
theorem OpW.buildA {P : Program} {Q : Exit → St → Prop} {ops : Array Oper} {l : List Oper} {k : List Fr} {o : Oper} {st : St} {ty e : TypeId} {n : Nat} {ps : Array (Nat × Operand)} {xs : List SV} {z : Value} (ho : o.op = .build ty ps) (hg : grd ops st o = some true) (hz : tzero P ty = some z) (ha : aelem P ty = some (n, e)) (hxs : afill st (fun i => some (i * tsz P e, tsz P e)) (z.cells.toList.map svC) ps.toList = some xs)
    (hd : st.fitsDst o.dst = true) (h : Ab.rn P Q ops l k (st.put o.dst (.sv (.agg xs)))) : OpW P Q ops o l k st := OpW.does (does_buildA ho hz ha hxs hd) hg h
/-! ### Bytes that are marked as a string's -/
section
variable {w w' : World} {ok : Nat → Prop}
theorem RepS.cellsEq (h : ∀ a, w'.cell? a = w.cell? a) : ∀ {x : SV} {v : Value}, RepS w ok x v → RepS w' ok x v := by
  intro x
  refine SV.rec (motive_1 := fun x => ∀ {v : Value}, RepS w ok x v → RepS w' ok x v) (motive_2 := fun xs => ∀ {vs : List Value}, RepL w ok xs vs → RepL w' ok xs vs) ?_ ?_ ?_ ?_ ?_ ?_ ?_ ?_ x
  · intro v _; simp only [RepS]
  · intro u v h; simpa only [RepS] using h
  · intro xs ih v h
    simp only [RepS] at h ⊢
    obtain ⟨cs, rfl, h⟩ := h
    exact ⟨cs, rfl, ih h⟩
  · intro xs ih v k
    simp only [RepS] at k ⊢
    obtain ⟨a, c, rfl, hc, k⟩ := k
    refine ⟨a, c, rfl, hc, ?_⟩
    rcases k with k | ⟨ad, sz, vs, rfl, ho, hr, hat⟩
    · exact .inl k
    · exact .inr ⟨ad, sz, vs, rfl, ho, ih hr, fun i u hu => ⟨(hat i u hu).1, fun j y hy => (h _).trans ((hat i u hu).2 j y hy)⟩⟩
  · intro x off ih v k
    simp only [RepS] at k ⊢
    obtain ⟨a, u, rfl, ho, hx, hat⟩ := k
    exact ⟨a, u, rfl, ho, ih hx, fun j y hy => (h _).trans (hat j y hy)⟩
  · intro f caps ih v h
    simp only [RepS] at h ⊢
    obtain ⟨cs, rfl, h⟩ := h
    exact ⟨cs, rfl, ih h⟩
  · intro vs h; simpa only [RepL] using h
  · intro x xs ihx ihs vs h
    simp only [RepL] at h ⊢
    obtain ⟨v, vs', rfl, hx, hs⟩ := h
    exact ⟨v, vs', rfl, ihx hx, ihs hs⟩
theorem RepL.cellsEq (h : ∀ a, w'.cell? a = w.cell? a) : ∀ {xs : List SV} {vs : List Value}, RepL w ok xs vs → RepL w' ok xs vs
  | [], _, k => by simpa only [RepL] using k
  | x :: xs, vs, k => by
    simp only [RepL] at k ⊢
    obtain ⟨v, vs', rfl, hx, hs⟩ := k
    exact ⟨v, vs', rfl, hx.cellsEq h, hs.cellsEq h⟩
theorem RepV.cellsEq {E : Env} {m : Mem} (h : ∀ a, w'.cell? a = w.cell? a) : ∀ {x : AV} {v : Value}, RepV w E m x v → RepV w' E m x v := by
  intro x
  refine AV.rec (motive_1 := fun x => ∀ {v : Value}, RepV w E m x v → RepV w' E m x v) (motive_2 := fun l => ∀ {vs : List Value}, RepVL w E m l vs → RepVL w' E m l vs) ?_ ?_ ?_ ?_ ?_ ?_ ?_ ?_ ?_ ?_ ?_ x
  · intro x v k; simp only [RepV] at k ⊢; exact k.cellsEq h
  · intro v k; simpa only [RepV] using k
  · intro t v k; simpa only [RepV] using k
  · intro t o v k; simpa only [RepV] using k
  · intro t i o v k; simpa only [RepV] using k
  · intro xs ih v k
    simp only [RepV] at k ⊢
    obtain ⟨cs, rfl, k⟩ := k
    exact ⟨cs, rfl, ih k⟩
  · intro f xs ih v k
    simp only [RepV] at k ⊢
    obtain ⟨cs, rfl, k⟩ := k
    exact ⟨cs, rfl, ih k⟩
  · intro xs ih v k
    simp only [RepV] at k ⊢
    obtain ⟨cs, rfl, k⟩ := k
    exact ⟨cs, rfl, ih k⟩
  · intro t n v k; simpa only [RepV] using k
  · intro vs k; simpa only [RepVL] using k
  · intro x xs ihx ihs vs k
    simp only [RepVL] at k ⊢
    obtain ⟨v, vs', rfl, hx, hs⟩ := k
    exact ⟨v, vs', rfl, ihx hx, ihs hs⟩
theorem RepVL.cellsEq {E : Env} {m : Mem} (h : ∀ a, w'.cell? a = w.cell? a) : ∀ {xs : List AV} {vs : List Value}, RepVL w E m xs vs → RepVL w' E m xs vs
  | [], _, k => by simpa only [RepVL] using k
  | x :: xs, vs, k => by
    simp only [RepVL] at k ⊢
    obtain ⟨v, vs', rfl, hx, hs⟩ := k
    exact ⟨v, vs', rfl, hx.cellsEq h, hs.cellsEq h⟩
end
theorem cell_freeze (w : World) (a : Addr) (n : Nat) (b : Addr) : (w.freeze a n).cell? b = w.cell? b := by
  unfold World.freeze
  split
  · rfl
  · unfold World.cell?
    simp only [Array.getElem?_modify]
    by_cases hbk : a.block = b.block
    · rw [if_pos hbk, ← hbk]
      cases w.heap[a.block]? with
      | none => rfl
      | some o => cases o <;> rfl
    · rw [if_neg hbk]
theorem heap_freeze (w : World) (a : Addr) (n b : Nat) (h : a.block ≠ b) : (w.freeze a n).heap[b]? = w.heap[b]? := by
  unfold World.freeze
  split
  · rfl
  · simp [Array.getElem?_modify, h]
theorem does_mark {P : Program} {o : Oper} {st : St} {ty e : TypeId} {x : Operand} {t : Nat} {xs : List SV} (ho : o.op = .convert ty ty x) (hx : aval st x = some (.own t)) (hm : lk st.m t = some (.row 1 xs)) (hne : xs ≠ []) (he : selem P ty = some e) (hu : P.underlying e = some (.int .u8)) (hd : st.fitsDst o.dst = true) :
    Does P o st ((st.freeze t).put o.dst (.sv (.lst xs))) := by
  intro keep w E a hI
  have hv := aval_rep hI hx
  have hmm := hI.mm t _ hm
  simp only [RepV, hm] at hv
  obtain ⟨h0, hmm'⟩ := hmm
  rcases hmm' with ⟨_, h⟩ | ⟨g, c, ee, cur, vs, h1, h2, h3, h4, h5, h6, h7, h8⟩
  · exact absurd h hne
  rw [h1] at hv
  have hg := hI.own t _ g c 1 hm h1
  obtain ⟨E', k1, k2⟩ := freeze_inv hI t
  have hsh : RepV w E' (lk (st.freeze t).m) (.sv (.lst xs)) (a.eval x) := by
    cases x with
    | tmp d =>
      have h := k1.tm d (.sv (.lst xs)) (by unfold St.freeze; rw [hm]; simp only [lk_mapv]; rw [show lk st.t d = some (.own t) from hx]; simp [AV.frz])
      obtain ⟨v, e1, e2⟩ := h
      simp only [Act.eval]
      rw [Array.getD_eq_getD_getElem?, e1]
      exact e2
    | const v =>
      simp only [aval, Option.some.injEq] at hx
      unfold avC at hx
      split at hx <;> cases hx
    | func f => simp [aval] at hx
    | global g =>
      simp only [aval] at hx
      obtain ⟨_, _, h⟩ := Option.map_eq_some_iff.1 hx
      cases h
  rw [hv] at hsh
  have hgok : E'.ok g := by
    simp only [RepV, RepS] at hsh
    obtain ⟨b, c', e1, _, hor⟩ := hsh
    rcases hor with h | ⟨ad, sz, vs', rfl, hk, _⟩
    · exact absurd h hne
    · simp only [Value.slice.injEq, Option.some.injEq] at e1
      rw [← e1.1] at hk; exact hk
  obtain ⟨hus, hui⟩ := selem_eq he
  have hshape : w.shape? g = some (ee, cur.size) := by unfold World.shape?; rw [h2]
  have hrun : (execOp a.eval o).run P w = .ok (.value (.slice (some ⟨g, 0, none⟩) xs.length c)) (w.freeze ⟨g, cur.size, none⟩ 1) := by
    unfold execOp
    rw [ho]
    simp [hv, convert, run_underlying hus, run_underlying hu, markStringish, hshape]
  have hsz : (w.freeze ⟨g, cur.size, none⟩ 1).heap.size = w.heap.size := by unfold World.freeze; simp
  have hce := cell_freeze w ⟨g, cur.size, none⟩ 1
  have hhe : ∀ b, g ≠ b → (w.freeze ⟨g, cur.size, none⟩ 1).heap[b]? = w.heap[b]? := fun b hb => heap_freeze w ⟨g, cur.size, none⟩ 1 b hb
  generalize hw2 : w.freeze ⟨g, cur.size, none⟩ 1 = w2 at hrun hsz hce hhe
  have hos : w2.os = w.os ∧ w2.tape = w.tape ∧ w2.output = w.output := by rw [← hw2]; exact ⟨rfl, rfl, rfl⟩
  have hmem : ∀ s o, lk (st.freeze t).m s = some o → MemRep w2 E' (lk (st.freeze t).m) s o := fun s o hs => by
    have hM := k1.mm s o hs
    cases o with
    | row sz ys =>
      obtain ⟨q0, q⟩ := hM
      refine ⟨q0, ?_⟩
      rcases q with q | ⟨g', c', e', cur', vs', q1, q2, q3, q4, q5, q6, q7, q8⟩
      · exact .inl q
      · refine .inr ⟨g', c', e', cur', vs', q1, ?_, q3, q4, q5, q6, q7.cellsEq hce, q8⟩
        rw [hhe g' (fun h => (k1.own s _ g' c' sz hs q1).2.1 (h ▸ hgok))]; exact q2
    | box cs =>
      obtain ⟨g', c', sz', e', cur', q1, q2, q3⟩ := hM
      refine ⟨g', c', sz', e', cur', q1, ?_, q3.cellsEq hce⟩
      rw [hhe g' (fun h => (k1.own s _ g' c' sz' hs q1).2.1 (h ▸ hgok))]; exact q2
  have hI2 : Inv keep w2 E' (st.freeze t) a := ⟨k1.df, k1.sz, fun d x hx => let ⟨v, e1, e2⟩ := k1.tm d x hx; ⟨v, e1, e2.cellsEq hce⟩, hmem, k1.inj,
    fun s o g' c' s' q1 q2 => by rw [hsz]; exact k1.own s o g' c' s' q1 q2, ⟨fun b hb => by rw [hsz]; exact k1.okl.lt b hb, fun g' x hx => (k1.okl.gw g' x hx).cellsEq hce⟩, fun b hb => by rw [hsz]; exact k1.kpl b hb⟩
  refine ⟨_, w2, E', .inl hrun, hI2.put (by
    have : (st.freeze t).n = st.n := by unfold St.freeze; rw [hm]
    cases hdst : o.dst with
    | none => rfl
    | some k => rw [hdst] at hd; simpa [St.fitsDst, this] using hd) (hsh.cellsEq hce), ⟨hos.1, hos.2.1, hos.2.2, by rw [hsz]; exact Nat.le_refl _, fun b hb => ?_, fun b hb => ⟨(k2.oks b hb).1, ?_⟩, k2.new, k2.pin⟩⟩
  · exact hhe b (fun h => hg.2.2 (h ▸ hb))
  · exact hhe b (fun h => hg.2.1 (h ▸ hb))
theorem OpW.mark {P : Program} {Q : Exit → St → Prop} {ops : Array Oper} {l : List Oper} {k : List Fr} {o : Oper} {st : St} {ty e : TypeId} {x : Operand} {t : Nat} {xs : List SV} (ho : o.op = .convert ty ty x) (hg : grd ops st o = some true) (hx : aval st x = some (.own t)) (hm : lk st.m t = some (.row 1 xs)) (hne : xs ≠ []) (he : selem P ty = some e) (hu : P.underlying e = some (.int .u8)) (hd : st.fitsDst o.dst = true)
    (h : Ab.rn P Q ops l k ((st.freeze t).put o.dst (.sv (.lst xs)))) : OpW P Q ops o l k st := OpW.does (does_mark ho hx hm hne he hu hd) hg h
end Go.Proofs.YtinhfnbmgmociaaGreatDoor.Ab

namespace Go.Proofs.YtinhfnbmgmociaaGreatDoor.Ab
open Go.RowKit
set_option linter.unusedVariables false
set_option linter.unusedSimpArgs false

/-- What is to be done behind a region, not looked into. -/
def HaltW (P : Program) (Q : Exit → St → Prop) (y : Code) (k : List Fr) (st : St) : Prop := TrK P Q y k st
def haltQ (P : Program) (Q : Exit → St → Prop) (y : Code) (k : List Fr) : Exit → St → Prop
  | .normal, st => HaltW P Q y k st
  | _, _ => False
theorem haltQ_normal (P : Program) (Q : Exit → St → Prop) (y : Code) (k : List Fr) (st : St) : haltQ P Q y k .normal st = HaltW P Q y k st := rfl
attribute [go_sem] haltQ_normal
theorem RnK.halt {P : Program} {Q : Exit → St → Prop} {ops : Array Oper} {l : List Oper} {y : Code} {k : List Fr} {st : St} (h : Ab.rn P (haltQ P Q y k) ops l [] st) : RnK P Q ops l (.seq y :: k) st := Rn.mono (RnK.rn h) fun st' hst => hst
theorem OpW.fnH {P : Program} {Q : Exit → St → Prop} {ops : Array Oper} {o : Oper} {l : List Oper} {y : Code} {k : List Fr} {st : St} {f : FuncId} {xs : Array Operand} {ts : Array TypeId} {ys : List SV} {R : RV → Prop} (lent : Bool)
    (hc : ACalls P f ys R) (ho : o.op = .call { callee := .value (.func f), args := xs, argTypes := ts }) (hg : grd ops st o = some true)
    (ha : (if lent = true then argv st xs.toList else argS st xs.toList) = some ys) (hl : lent = true → ∀ r, R r → r.flat) (h : ∀ r, R r → st.impFresh o.dst r = true ∧ Ab.rn P (haltQ P Q y k) ops l [] (st.imp o.dst r)) : OpW P Q ops o l (.seq y :: k) st :=
  Rn.call (caps := []) lent hg ho rfl ha (by simpa using hc) hl fun r hr => ⟨(h r hr).1, RnK.halt (h r hr).2⟩
theorem HaltW.go {P : Program} {Q : Exit → St → Prop} {y : Code} {k : List Fr} {st : St} (h : Ab.ex P Q y k st) : HaltW P Q y k st := (run_sound _).1 y k st (Nat.lt_succ_self _) h
theorem HaltW.ent {P : Program} {Q : Exit → St → Prop} {y : Code} {k : List Fr} {st st' : St} (h : Ent st st') (hk : HaltW P Q y k st') : HaltW P Q y k st := Tr.ent h hk
/-- A loop, what is behind it not looked into. -/
theorem LoopW.halt {P : Program} {Q : Exit → St → Prop} {c : Code} {id : Nat} {y : Code} {k : List Fr} {st : St} (h : LoopW P (haltQ P Q y k) c [.blk id] st) : LoopW P Q c (.blk id :: .seq y :: k) st := by
  refine Tr.mono h fun e s hs => ?_
  cases e with
  | exit i =>
    simp only [kq, blockQ] at hs ⊢
    split at hs
    · rename_i hi; rw [if_pos hi]; exact hs
    · exact hs.elim
  | normal => exact hs
  | _ => exact hs.elim
/-- A slice that is owned, told by its value alone. -/
theorem HaltW.fix {P : Program} {Q : Exit → St → Prop} {y : Code} {k : List Fr} {st : St} {d t sz : Nat} {xs : List SV} (hd : lk st.t d = some (.own t)) (hm : lk st.m t = some (.row sz xs)) (h : ∀ a c, HaltW P Q y k { st with t := up st.t d (.sv (.val (.slice a xs.length c))) }) : HaltW P Q y k st := fun keep w E a hI => by
  obtain ⟨v, e1, e2⟩ := hI.tm d _ hd
  have hv : ∃ b c, v = .slice b xs.length c := by
    simp only [RepV, hm] at e2
    cases hE : E.at_ t with
    | none =>
      rw [hE] at e2
      obtain ⟨b, rfl⟩ := e2
      obtain ⟨_, hmm⟩ := hI.mm t _ hm
      rcases hmm with ⟨_, rfl⟩ | ⟨g, c, e, cur, vs, h1, _⟩
      · exact ⟨b, 0, rfl⟩
      · rw [hE] at h1; cases h1
    | some p => rw [hE] at e2; exact ⟨_, _, e2⟩
  obtain ⟨b, c, rfl⟩ := hv
  refine h b c keep w E a ⟨hI.df, hI.sz, fun e x hx => ?_, hI.mm, hI.inj, hI.own, hI.okl, hI.kpl⟩
  simp only [lk_up] at hx
  split at hx
  · rename_i e'; subst e'
    simp only [Option.some.injEq] at hx; subst hx
    exact ⟨_, e1, RepV.val_mk _⟩
  · exact hI.tm e x hx
theorem RnK.fix {P : Program} {Q : Exit → St → Prop} {ops : Array Oper} {l : List Oper} {k : List Fr} {st : St} {d t sz : Nat} {xs : List SV} (hd : lk st.t d = some (.own t)) (hm : lk st.m t = some (.row sz xs)) (h : ∀ a c, Ab.rn P Q ops l k { st with t := up st.t d (.sv (.val (.slice a xs.length c))) }) : RnK P Q ops l k st := fun keep w E a hI => by
  obtain ⟨v, e1, e2⟩ := hI.tm d _ hd
  have hv : ∃ b c, v = .slice b xs.length c := by
    simp only [RepV, hm] at e2
    cases hE : E.at_ t with
    | none =>
      rw [hE] at e2
      obtain ⟨b, rfl⟩ := e2
      obtain ⟨_, hmm⟩ := hI.mm t _ hm
      rcases hmm with ⟨_, rfl⟩ | ⟨g, c, e, cur, vs, h1, _⟩
      · exact ⟨b, 0, rfl⟩
      · rw [hE] at h1; cases h1
    | some p => rw [hE] at e2; exact ⟨_, _, e2⟩
  obtain ⟨b, c, rfl⟩ := hv
  refine RnK.rn (h b c) keep w E a ⟨hI.df, hI.sz, fun e x hx => ?_, hI.mm, hI.inj, hI.own, hI.okl, hI.kpl⟩
  simp only [lk_up] at hx
  split at hx
  · rename_i e'; subst e'
    simp only [Option.some.injEq] at hx; subst hx
    exact ⟨_, e1, RepV.val_mk _⟩
  · exact hI.tm e x hx
/-- The first operation of a region, by itself. -/
theorem HaltW.one {P : Program} {Q : Exit → St → Prop} {id : Nat} {o : Oper} {l : List Oper} {z : Code} {k : List Fr} {st : St} {d : Dl} (hg : grd (o :: l).toArray st o = some true) (hd : dlt P o st = some d) (hc : d.c) (hf : st.fitsDst o.dst = true) (h : RnK P Q (o :: l).toArray l (.seq z :: k) (st.app o.dst d)) : HaltW P Q (.seq (.region id (o :: l).toArray false) z) k st :=
  Tr.seq (Tr.region (Rn.step hg (dlt_does hd hc hf) h))
theorem does_len_val {P : Program} {o : Oper} {st : St} {ty e : TypeId} {x : Operand} {a : Option Addr} {n c : Nat} (ho : o.op = .call { callee := .builtin .len, args := #[x], argTypes := #[ty] }) (hx : aval st x = some (.sv (.val (.slice a n c)))) (he : selem P ty = some e) (hd : st.fitsDst o.dst = true) : Does P o st (st.put o.dst (.sv (.val (.int .i64 n)))) := by
  refine Does.puts hd fun keep w E a hI => ⟨.int .i64 n, ?_, RepV.val_mk _⟩
  have h1 := (aval_rep hI hx).val
  obtain ⟨hu, _⟩ := selem_eq he
  unfold execOp
  rw [ho]
  simp [resolve, invoke, builtin, h1, Builtin.len_, run_underlying hu, goInt]
theorem OpW.lenv {P : Program} {Q : Exit → St → Prop} {ops : Array Oper} {l : List Oper} {k : List Fr} {o : Oper} {st : St} {ty e : TypeId} {x : Operand} {a : Option Addr} {n c : Nat} (ho : o.op = .call { callee := .builtin .len, args := #[x], argTypes := #[ty] }) (hg : grd ops st o = some true) (hx : aval st x = some (.sv (.val (.slice a n c)))) (he : selem P ty = some e) (hd : st.fitsDst o.dst = true)
    (h : Ab.rn P Q ops l k (st.put o.dst (.sv (.val (.int .i64 n))))) : OpW P Q ops o l k st := OpW.does (does_len_val ho hx he hd) hg h
end Go.Proofs.YtinhfnbmgmociaaGreatDoor.Ab

namespace Go.Proofs.YtinhfnbmgmociaaGreatDoor.Ab
open Go.RowKit
set_option linter.unusedVariables false
set_option linter.unusedSimpArgs false

/-! ### Tags that are made -/
/-- A list without what is hidden. -/
def nd {α : Type} : List (Nat × α) → List (Nat × α)
  | [] => []
  | (k, x) :: l => (k, x) :: rm (nd l) k
theorem lk_nd {α : Type} : ∀ (l : List (Nat × α)) (d : Nat), lk (nd l) d = lk l d
  | [], d => rfl
  | (k, x) :: l, d => by
    simp only [nd, lk]
    by_cases h : k = d
    · rw [if_pos h, if_pos h]
    · rw [if_neg h, if_neg h, lk_rm, if_neg h, lk_nd l d]
theorem rm_mem {α : Type} : ∀ {l : List (Nat × α)} {d k : Nat} {x : α}, (k, x) ∈ rm l d → (k, x) ∈ l ∧ k ≠ d
  | [], d, k, x, h => by cases h
  | (j, y) :: l, d, k, x, h => by
    simp only [rm] at h
    split at h
    · exact ⟨List.mem_cons_of_mem _ (rm_mem h).1, (rm_mem h).2⟩
    · rename_i hne
      rcases List.mem_cons.1 h with h | h
      · simp only [Prod.mk.injEq] at h
        obtain ⟨rfl, rfl⟩ := h
        exact ⟨List.mem_cons_self, hne⟩
      · exact ⟨List.mem_cons_of_mem _ (rm_mem h).1, (rm_mem h).2⟩
theorem nd_mem {α : Type} : ∀ {l : List (Nat × α)} {k : Nat} {x : α}, (k, x) ∈ nd l → lk l k = some x
  | [], k, x, h => by cases h
  | (j, y) :: l, k, x, h => by
    simp only [nd] at h
    simp only [lk]
    rcases List.mem_cons.1 h with h | h
    · simp only [Prod.mk.injEq] at h
      obtain ⟨rfl, rfl⟩ := h
      rw [if_pos rfl]
    · obtain ⟨h1, h2⟩ := rm_mem h
      rw [if_neg (Ne.symm h2)]
      exact nd_mem h1
theorem Fresh.list {s : St} {d : Nat} (h : Fresh s d) : ∃ s2 : St, s2.n = s.n ∧ (∀ e, lk s2.t e = lk s.t e) ∧ (∀ e, lk s2.m e = lk s.m e) ∧ s2.fresh d = true := by
  obtain ⟨h1, h2, h3, h4⟩ := h
  refine ⟨⟨s.n, nd s.t, nd s.m⟩, rfl, lk_nd _, lk_nd _, ?_⟩
  have hh : (⟨s.n, nd s.t, nd s.m⟩ : St).held d = false := by
    simp only [St.held, Bool.or_eq_false_iff, List.any_eq_false]
    refine ⟨fun p hp => ?_, fun p hp => ?_⟩
    · rw [h3 p.1 p.2 (nd_mem hp)]; simp
    · have hm := nd_mem (k := p.1) (x := p.2) hp
      split
      · rename_i cs hc
        rw [hc] at hm
        rw [h4 _ cs hm]; simp
      · simp
  simp only [St.fresh, hh, lk_nd, h2, h1, decide_true, Bool.not_false, Option.isNone_none, Bool.and_self]
theorem Fresh.of {st : St} {d : Nat} (h : st.fresh d = true) : Fresh st d := by
  have hp := St.fresh_pin h
  simp only [St.fresh, Bool.and_eq_true, Bool.not_eq_true', Option.isNone_iff_eq_none] at h
  exact ⟨hp, h.2.2, fun e x hx => held_t h.2.1 hx, fun t cs hx => held_m h.2.1 hx⟩
section
variable {P : Program} {Q : Exit → St → Prop} {D : List Nat} {ops : Array Oper} {o : Oper} {l : List Oper} {fs : List Ft} {k : List Fr} {st : St}
theorem upd_lk {s s2 : St} (f : Ft) (ht : ∀ e, lk s2.t e = lk s.t e) (hm : ∀ e, lk s2.m e = lk s.m e) : (∀ e, lk (s2.upd f).t e = lk (s.upd f).t e) ∧ ∀ e, lk (s2.upd f).m e = lk (s.upd f).m e :=
  ⟨fun e => by simp only [St.upd, lk_upo, ht], fun e => by simp only [St.upd, lk_upm, hm]⟩
theorem locH {f : Ft} {d : Nat} (hg : grd ops st o = some true) (hnw : f.nw = some d) (hhv : f.hv = true) (hrT : f.rT = usesT ops o) (hhs : ∀ t cs, lk f.wM t = some (some (.box cs)) → ∀ d, AV.holdsL d cs = true → d ∈ f.hs)
    (h : ∀ s : St, s.n = st.n → (∀ e ∈ f.rT, lk s.t e = lk st.t e) → (∀ t ∈ f.rM, lk s.m t = lk st.m t) → s.fresh d = true → Does P o s (s.upd f)) : LocT P ops o st f :=
  ⟨⟨fun hv => (by rw [hhv] at hv; cases hv), hhs⟩, fun s hn hT hM _ hF keep w E a hI N Q hN => by
    obtain ⟨s2, e1, e2, e3, e4⟩ := (hF d hnw).list
    have hg' : grd ops s2 o = some true := by rw [grd_agr (st := st) (fun e he => by rw [e2]; exact hT e (hrT ▸ he))]; exact hg
    have hI2 : Inv keep w E s2 a := hI.le ⟨e1.symm, fun e x hx => by rw [← e2]; exact hx, fun e x hx => by rw [← e3]; exact hx⟩
    rw [if_pos (grd_run hI2 hg')]
    have hd := h s2 (e1.trans hn) (fun e he => by rw [e2]; exact hT e he) (fun t ht => by rw [e3]; exact hM t ht) e4
    obtain ⟨u1, u2⟩ := upd_lk f e2 e3
    exact hd.wp hI2 fun a' w' E' k1 k2 => hN a' w' E' (k1.le ⟨e1, fun e x hx => by rw [u1]; exact hx, fun e x hx => by rw [u2]; exact hx⟩) k2⟩
theorem OpD.heavy {f : Ft} (hl : LocT P ops o st f) (h : Ab.rd P Q D ops l (f :: fs) k (st.upd f)) : OpD P Q D ops o l fs k st := by
  obtain ⟨fs', st', h1, h2, h3⟩ := rd_sound _ _ _ h
  exact ⟨_ :: fs', st', .cons hl h1, by simpa using h2, h3⟩
/-- A region that draws, and makes tags. -/
theorem DrawW.rdN {id : Nat} (D : List Nat) (hD : D.all st.fresh = true) (hm : P.follows .mixedOrders = true) (h : Ab.rd P Q D ops ops.toList [] k st) : DrawW P Q id ops k st := by
  obtain ⟨fs', st', h1, h2, h3⟩ := rd_sound _ _ _ h
  exact Tr.draw (Ds := D) (fun d hd => Fresh.of (List.all_eq_true.1 hD d hd)) hm h1 (by simpa using h2) h3

theorem aparts_agr {s : St} (sz : Nat) : ∀ (ps : List (Nat × Operand)) (xs : List SV), (∀ p ∈ ps, aval s p.2 = aval st p.2) → aparts s sz xs ps = aparts st sz xs ps
  | [], xs, _ => rfl
  | (i, x) :: rest, xs, h => by
    have e : aval s x = aval st x := h (i, x) List.mem_cons_self
    simp only [aparts]
    rw [e]
    cases (aval st x).bind AV.elem with
    | none => rfl
    | some z =>
      simp only
      split
      · exact aparts_agr sz rest _ fun p hp => h p (List.mem_cons_of_mem _ hp)
      · rfl
def ftN (ops : Array Oper) (o : Oper) (rM : List Nat) (d : Nat) (X : AV) (ob : Obj') (hs : List Nat) : Ft := ⟨usesT ops o, rM, [], some (d, X), [(d, some ob)], some d, true, hs⟩
theorem ftN_row {ops : Array Oper} {o : Oper} {rM hs : List Nat} {d sz : Nat} {X : AV} {xs : List SV} : ∀ t cs, lk (ftN ops o rM d X (.row sz xs) hs).wM t = some (some (.box cs)) → ∀ d', AV.holdsL d' cs = true → d' ∈ (ftN ops o rM d X (.row sz xs) hs).hs := fun t cs h => by
  simp only [ftN, lk] at h
  split at h <;> cases h
theorem ftN_box {ops : Array Oper} {o : Oper} {rM hs : List Nat} {d : Nat} {X : AV} {cs : List AV} (hh : ∀ d', AV.holdsL d' cs = true → d' ∈ hs) : ∀ t ds, lk (ftN ops o rM d X (.box cs) hs).wM t = some (some (.box ds)) → ∀ d', AV.holdsL d' ds = true → d' ∈ (ftN ops o rM d X (.box cs) hs).hs := fun t ds h => by
  simp only [ftN, lk] at h
  split at h
  · cases h; exact hh
  · cases h
theorem holdsL_nils (t n : Nat) : AV.holdsL t (List.replicate n AV.nil) = false := by
  induction n with
  | zero => rfl
  | succ n ih => simp [List.replicate_succ, AV.holdsL, AV.holds, ih]
theorem OpD.make {ty e : TypeId} {x y : Operand} {d : Nat} {k1 k2 : IntKind} {n : Int} {z : Value} (ho : o.op = .makeSlice ty x y) (hd : o.dst = some d) (hg : grd ops st o = some true) (hn : d < st.n) (hx : aval st x = some (.sv (.val (.int k1 n)))) (hy : aval st y = some (.sv (.val (.int k2 n))))
    (he : selem P ty = some e) (hz : tzero P e = some z) (h0 : 0 ≤ n) (hm : n.toNat * (tby P e + 1) ≤ 140737488355328) (hfit : (zeroSV z).fits (tsz P e) = true) (hp : tsz P e ≠ 0)
    (h : Ab.rd P Q D ops l (ftN ops o [] d (.own d) (.row (tsz P e) (List.replicate n.toNat (zeroSV z))) [] :: fs) k { st with t := up st.t d (.own d), m := up st.m d (.row (tsz P e) (List.replicate n.toNat (zeroSV z))) }) : OpD P Q D ops o l fs k st :=
  OpD.heavy (locH (d := d) hg rfl rfl rfl ftN_row fun s hs hT _ hf => by
    have hv := aval_agr (s := s) (st := st) (o := o) hT
    exact does_make ho hd hf (by omega) ((hv x (by simp [ho, Op.operands])).trans hx) ((hv y (by simp [ho, Op.operands])).trans hy) he hz h0 hm hfit hp) h
/-- A row of slices, all nil: a box of so many cells, and a slice over it. -/
theorem does_makeB {ty e : TypeId} {x y : Operand} {d : Nat} {k1 k2 : IntKind} {n : Int} (ho : o.op = .makeSlice ty x y) (hd : o.dst = some d) (hf : st.fresh d = true) (hn : d < st.n) (hx : aval st x = some (.sv (.val (.int k1 n)))) (hy : aval st y = some (.sv (.val (.int k2 n))))
    (he : selem P ty = some e) (hz : tzero P e = some (.slice none 0 0)) (h1 : tsz P e = 1) (h0 : 0 ≤ n) (hm : n.toNat * (tby P e + 1) ≤ 140737488355328) :
    Does P o st { st with t := up st.t d (.sl d n.toNat), m := up st.m d (.box (List.replicate n.toNat .nil)) } := by
  intro keep w E a hI
  obtain ⟨hu, hi⟩ := selem_eq he
  obtain ⟨i, hi⟩ := Option.isSome_iff_exists.1 hi
  have hz' : i.zero = some (.slice none 0 0) := by simpa [tzero, hi] using hz
  have hsz : i.size = tsz P e := by simp [tsz, Program.cellsOf, hi]
  have hby : i.bytes = tby P e := by simp [tby, Program.bytesOf, hi]
  have rx := (aval_rep hI hx).val
  have ry := (aval_rep hI hy).val
  rw [Nat.mul_add, Nat.mul_one] at hm
  have hrun := run_make (P := P) w ty e i (.slice none 0 0) hu hi hz' k1 k2 n n h0 (Int.le_refl _) (by
    rw [hby]
    have : ((n.toNat * tby P e : Nat) : Int) ≤ 140737488355328 := by omega
    rw [Int.natCast_mul, Int.toNat_of_nonneg h0, Int.mul_comm] at this
    omega) (by omega)
  have hcells : (madeCells (Value.slice none 0 0).cells (n.toNat * i.size)).toList = List.replicate n.toNat (.slice none 0 0) := by
    have hsize : (madeCells (Value.slice none 0 0).cells (n.toNat * i.size)).size = n.toNat := by rw [size_madeCells, hsz, h1, Nat.mul_one]
    apply List.ext_getElem?
    intro j
    by_cases hj : j < n.toNat
    · have hg := made_get (Value.slice none 0 0).cells (n.toNat * i.size) j (by rw [hsz, h1]; omega)
      rw [Array.getElem?_toList, hg, List.getElem?_replicate, if_pos hj]
      simp [Value.cells, Nat.mod_one]
    · rw [List.getElem?_eq_none (by rw [Array.length_toList, hsize]; omega), List.getElem?_eq_none (by simp; omega)]
  refine ⟨.slice (some ⟨w.heap.size, 0, none⟩) n.toNat n.toNat, w.alloc (.cells (madeCells (Value.slice none 0 0).cells (n.toNat * i.size)) e), E.set d (some (w.heap.size, 0, 0)), .inl ?_, ?_, Evo.grow hI ⟨rfl, rfl, rfl⟩ (by simp) (fun j hj => Go.heap_alloc_old w _ hj) rfl (Env.set_pin (St.fresh_pin hf))⟩
  · unfold execOp
    rw [ho]
    simp only [rx, ry]
    rw [Sem.run_bind, hrun]
    rfl
  · rw [hd]
    have hh : ∀ t, AV.holdsL t (List.replicate n.toNat AV.nil) = true → t ≠ d := fun t ht => by
      exfalso
      have : ∀ j, AV.holdsL t (List.replicate j AV.nil) = false := fun j => by
        induction j with
        | zero => rfl
        | succ j ih => simp [List.replicate_succ, AV.holdsL, AV.holds, ih]
      rw [this] at ht; cases ht
    have h2 := box_new (e := e) hI hf hn (List.replicate n.toNat .nil) (madeCells (Value.slice none 0 0).cells (n.toNat * i.size)) (by
      rw [hcells]
      refine RepVL.of (by simp) fun i x v hx hv => ?_
      rw [List.getElem?_replicate] at hx hv
      split at hx
      · rename_i hi
        rw [if_pos hi] at hv
        simp only [Option.some.injEq] at hx hv; subst hx; subst hv
        simp only [RepV]
      · cases hx) hh
    have h3 := h2.put (dst := some d) (x := .sl d n.toNat) (v := .slice (some ⟨w.heap.size, 0, none⟩) n.toNat n.toNat) (by simpa [St.fitsDst] using hn) (by
      simp only [RepV]
      rw [lk_up, if_pos rfl]
      exact ⟨w.heap.size, 0, 0, by simp [Env.set], rfl⟩)
    have e1 : (a.put (some d) (.pointer (some ⟨w.heap.size, 0, none⟩))).put (some d) (.slice (some ⟨w.heap.size, 0, none⟩) n.toNat n.toNat) = a.put (some d) (.slice (some ⟨w.heap.size, 0, none⟩) n.toNat n.toNat) := by
      simp [Act.put]
    rw [e1] at h3
    exact h3.le ⟨rfl, fun e x hx => by
      simp only [St.put, lk_up] at hx ⊢
      split at hx
      · rename_i he; rw [if_pos he]; exact hx
      · rename_i he; rw [if_neg he, if_neg he]; exact hx, fun t o ho => ho⟩
theorem OpD.makeB {ty e : TypeId} {x y : Operand} {d : Nat} {k1 k2 : IntKind} {n : Int} (ho : o.op = .makeSlice ty x y) (hd : o.dst = some d) (hg : grd ops st o = some true) (hn : d < st.n) (hx : aval st x = some (.sv (.val (.int k1 n)))) (hy : aval st y = some (.sv (.val (.int k2 n))))
    (he : selem P ty = some e) (hz : tzero P e = some (.slice none 0 0)) (h1 : tsz P e = 1) (h0 : 0 ≤ n) (hm : n.toNat * (tby P e + 1) ≤ 140737488355328)
    (h : Ab.rd P Q D ops l (ftN ops o [] d (.sl d n.toNat) (.box (List.replicate n.toNat .nil)) [] :: fs) k { st with t := up st.t d (.sl d n.toNat), m := up st.m d (.box (List.replicate n.toNat .nil)) }) : OpD P Q D ops o l fs k st :=
  OpD.heavy (locH (d := d) hg rfl rfl rfl (ftN_box fun d' hh => by rw [holdsL_nils] at hh; cases hh) fun s hs hT _ hf => by
    have hv := aval_agr (s := s) (st := st) (o := o) hT
    exact does_makeB ho hd hf (by omega) ((hv x (by simp [ho, Op.operands])).trans hx) ((hv y (by simp [ho, Op.operands])).trans hy) he hz h1 h0 hm) h
theorem OpD.bslice {ty e : TypeId} {len d : Nat} {ps : Array (Nat × Operand)} {xs : List SV} {z : Value} (ho : o.op = .buildSlice ty len ps) (hd : o.dst = some d) (hg : grd ops st o = some true) (hn : d < st.n) (he : selem P ty = some e) (hz : tzero P e = some z)
    (hfit : (zeroSV z).fits (tsz P e) = true) (hp : tsz P e ≠ 0) (hl : len ≠ 0) (hm : len * tsz P e ≤ 65536) (hxs : aparts st (tsz P e) (List.replicate len (zeroSV z)) ps.toList = some xs)
    (h : Ab.rd P Q D ops l (ftN ops o [] d (.own d) (.row (tsz P e) xs) [] :: fs) k { st with t := up st.t d (.own d), m := up st.m d (.row (tsz P e) xs) }) : OpD P Q D ops o l fs k st :=
  OpD.heavy (locH (d := d) hg rfl rfl rfl ftN_row fun s hs hT _ hf => by
    have hv := aval_agr (s := s) (st := st) (o := o) hT
    refine does_buildSlice ho hd hf (by omega) he hz hfit hp hl hm ?_
    rw [aparts_agr (st := st) _ _ _ fun p hp => hv p.2 (by simp only [ho, Op.operands, List.mem_toArray]; exact List.mem_map.2 ⟨p, hp, rfl⟩)]
    exact hxs) h
theorem OpD.box {e : TypeId} {x : Operand} {d : Nat} {X : AV} {cs : List AV} (ho : o.op = .box e x) (hd : o.dst = some d) (hg : grd ops st o = some true) (hn : d < st.n) (hx : aval st x = some X) (hc : X.cells (lk st.m) = some cs)
    (h : Ab.rd P Q D ops l (ftN ops o X.tags d (.box d 0) (.box cs) (AV.tagsL cs) :: fs) k { st with t := up st.t d (.box d 0), m := up st.m d (.box cs) }) : OpD P Q D ops o l fs k st :=
  OpD.heavy (locH (d := d) hg rfl rfl rfl (ftN_box fun d' hh => holdsL_tags hh) fun s hs hT hM hf => by
    have hv := aval_agr (s := s) (st := st) (o := o) hT
    refine does_box ho hd hf (by omega) ((hv x (by simp [ho, Op.operands])).trans hx) ?_
    rw [cells_agr (s := s) (st := st) fun t ht => hM t (holds_tags ht)]
    exact hc) h
/-- What is appended to a row that is owned: a new tag; the old one ends. -/
def ftA (ops : Array Oper) (o : Oper) (rM : List Nat) (d t : Nat) (ob : Obj') : Ft := ⟨usesT ops o, rM, [], some (d, .own d), [(d, some ob), (t, none)], some d, true, []⟩
theorem OpD.append {ty e : TypeId} {x y : Operand} {d t : Nat} {Y : AV} {xs ys : List SV} {z : Value} (ho : o.op = .call { callee := .builtin .append, args := #[x, y], argTypes := #[ty, ty] }) (hd : o.dst = some d) (hg : grd ops st o = some true) (hn : d < st.n) (he : selem P ty = some e) (hz : tzero P e = some z) (hzs : z.cells.size = tsz P e) (hp : 0 < tsz P e)
    (hx : aval st x = some (.own t)) (hm : lk st.m t = some (.row (tsz P e) xs)) (hy : aval st y = some Y) (hys : rowOf st Y = some ys) (hfit : ∀ u ∈ ys, u.fits (tsz P e) = true) (hb : (xs.length + ys.length) * (tby P e + 1) ≤ 140737488355328)
    (h : Ab.rd P Q D ops l (ftA ops o (t :: Y.tags) d t (.row (tsz P e) (xs ++ ys)) :: fs) k { st with t := up st.t d (.own d), m := up (rm st.m t) d (.row (tsz P e) (xs ++ ys)) }) : OpD P Q D ops o l fs k st :=
  OpD.heavy (f := ftA ops o (t :: Y.tags) d t (.row (tsz P e) (xs ++ ys))) (locH (d := d) hg rfl rfl rfl (fun t' cs h => (by
    simp only [ftA, lk] at h
    split at h
    · cases h
    · split at h <;> cases h)) fun s hs hT hM hf => by
    have hv := aval_agr (s := s) (st := st) (o := o) hT
    refine does_append_own ho hd hf (by omega) he hz hzs hp ((hv x (by simp [ho, Op.operands, Call.operands])).trans hx) ?_ ((hv y (by simp [ho, Op.operands, Call.operands])).trans hy) ?_ hfit hb
    · rw [hM t List.mem_cons_self]; exact hm
    · rw [rowOf_agr (s := s) (st := st) fun t' ht => hM t' (List.mem_cons_of_mem _ (holds_tags ht))]; exact hys) h
end

/-! ### Structs that hold what is owned -/
/-- The parts of a struct, one behind the other, its cells known. -/
def vfill (st : St) (place : Nat → Option (Nat × Nat)) : List AV → List (Nat × Operand) → Option (List AV)
  | xs, [] => some xs
  | xs, (i, x) :: rest => match place i, (aval st x).bind (AV.cells (lk st.m)) with
    | some (off, size), some zs => if zs.length = size ∧ off + size ≤ xs.length then vfill st place (setAt xs off zs) rest else none
    | _, _ => none
theorem vfill_run {st : St} {keep : Nat → Prop} {w : World} {E : Env} {a : Act} (hI : Inv keep w E st a) {place : Nat → Option (Nat × Nat)} : ∀ (l : List (Nat × Operand)) {xs ys : List AV} {vs : Array Value}, vfill st place xs l = some ys → RepVL w E (lk st.m) xs vs.toList →
    ∃ us, Instr.fill place vs (l.map fun p => (p.1, a.eval p.2)) = some us ∧ RepVL w E (lk st.m) ys us.toList
  | [], xs, ys, vs, h, hr => by
    simp only [vfill, Option.some.injEq] at h; subst h
    exact ⟨vs, by simp [Instr.fill], hr⟩
  | (i, x) :: rest, xs, ys, vs, h, hr => by
    simp only [vfill] at h
    split at h
    case h_2 => cases h
    rename_i off size zs hp hz
    split at h
    case isFalse => cases h
    rename_i hc
    obtain ⟨X, hX, hz1⟩ := Option.bind_eq_some_iff.1 hz
    have hrz := (RepV.cells hz1 (aval_rep hI hX)).1
    have hl1 := hrz.len
    have hl2 := hr.len
    simp only [Array.length_toList] at hl1 hl2
    obtain ⟨us, h1, h2⟩ := vfill_run hI rest (vs := (setAt vs.toList off (a.eval x).cells.toList).toArray) h (by simpa using hr.setAt hrz off)
    refine ⟨us, ?_, h2⟩
    exact (fill_step place vs i (a.eval x) _ off size hp (by omega) (by omega)).trans h1
theorem does_buildV {P : Program} {o : Oper} {st : St} {ty : TypeId} {ps : Array (Nat × Operand)} {xs : List AV} {pl : List (Nat × Nat)} (ho : o.op = .build ty ps) {z : Value} (hz : tzero P ty = some z) (hpl : splaces P ty = some pl) (hxs : vfill st (fun i => pl[i]?) (z.cells.toList.map fun v => .sv (svC v)) ps.toList = some xs)
    (hd : st.fitsDst o.dst = true) : Does P o st (st.put o.dst (.agg xs)) := by
  refine Does.puts hd fun keep w E a hI => ?_
  obtain ⟨us, h1, h2⟩ := vfill_run hI ps.toList (vs := z.cells) hxs (RepVL.of (by simp) fun i x v hx hv => by
    rw [List.getElem?_map, hv] at hx
    simp only [Option.map_some, Option.some.injEq] at hx; subst hx
    simp only [RepV]
    exact svC_rep _ _ _)
  refine ⟨.agg us, ?_, by simp only [RepV]; exact ⟨us, rfl, h2⟩⟩
  unfold splaces at hpl
  split at hpl
  case h_2 => cases hpl
  rename_i fs hu
  unfold execOp
  rw [ho]
  dsimp only
  have hplaces := run_places (P := P) w fs.toList pl hpl
  simp [Instr.build, run_underlying hu, run_zeroValue hz, Array.mapM_eq_mapM_toList, hplaces, h1]
theorem vfill_agr {s st : St} {place : Nat → Option (Nat × Nat)} : ∀ (ps : List (Nat × Operand)) (xs : List AV), (∀ p ∈ ps, aval s p.2 = aval st p.2) → (∀ p ∈ ps, ∀ X, aval st p.2 = some X → Agr s st X) → vfill s place xs ps = vfill st place xs ps
  | [], xs, _, _ => rfl
  | (i, x) :: rest, xs, h, k => by
    have e0 : aval s x = aval st x := h (i, x) List.mem_cons_self
    simp only [vfill]
    rw [e0]
    have e : (aval st x).bind (AV.cells (lk s.m)) = (aval st x).bind (AV.cells (lk st.m)) := by
      cases hX : aval st x with
      | none => rfl
      | some X => simp only [Option.bind_some]; exact cells_agr (k (i, x) List.mem_cons_self X hX)
    rw [e]
    cases place i with
    | none => rfl
    | some q => cases (aval st x).bind (AV.cells (lk st.m)) with
      | none => rfl
      | some zs =>
        simp only
        split
        · exact vfill_agr rest _ (fun p hp => h p (List.mem_cons_of_mem _ hp)) fun p hp => k p (List.mem_cons_of_mem _ hp)
        · rfl
theorem OpD.buildV {P : Program} {Q : Exit → St → Prop} {D : List Nat} {ops : Array Oper} {o : Oper} {l : List Oper} {fs : List Ft} {k : List Fr} {st : St} {ty : TypeId} {d : Nat} {ps : Array (Nat × Operand)} {xs : List AV} {pl : List (Nat × Nat)} {z : Value} (ho : o.op = .build ty ps) (hd : o.dst = some d) (hg : grd ops st o = some true) (hz : tzero P ty = some z) (hpl : splaces P ty = some pl) (hxs : vfill st (fun i => pl[i]?) (z.cells.toList.map fun v => .sv (svC v)) ps.toList = some xs)
    (hn : d < st.n) (h : Ab.rd P Q D ops l (⟨usesT ops o, usesM st o, [], some (d, .agg xs), [], none, false, []⟩ :: fs) k { st with t := up st.t d (.agg xs) }) : OpD P Q D ops o l fs k st :=
  OpD.heavy (f := ⟨usesT ops o, usesM st o, [], some (d, .agg xs), [], none, false, []⟩) ⟨⟨fun _ t x hw => (by cases hw), fun t cs hw => (by cases hw)⟩, fun s hs hT hM _ _ keep w E a hI N Q hN => by
    have hv := aval_agr (s := s) (st := st) (o := o) hT
    have hm := agr_of (s := s) (st := st) (o := o) (by rw [ho]; simpa only [usesM, ho] using hM)
    have hg' : grd ops s o = some true := by rw [grd_agr (st := st) hT]; exact hg
    rw [if_pos (grd_run hI hg')]
    have hops : ∀ p ∈ ps.toList, p.2 ∈ o.op.operands := fun p hp => by
      simp only [ho, Op.operands, List.mem_toArray]; exact List.mem_map.2 ⟨p, hp, rfl⟩
    have := does_buildV (P := P) (st := s) ho hz hpl (by rw [vfill_agr _ _ (fun p hp => hv p.2 (hops p hp)) fun p hp => hm p.2 (hops p hp)]; exact hxs) (by rw [hd]; simp [St.fitsDst, hs, hn])
    rw [hd] at this
    exact this.wp hI hN⟩ h
attribute [go_sem] ftN ftA upm
end Go.Proofs.YtinhfnbmgmociaaGreatDoor.Ab

namespace Go.Proofs.YtinhfnbmgmociaaGreatDoor.Ab
open Go.RowKit
set_option linter.unusedVariables false
set_option linter.unusedSimpArgs false

/-- Tags of rows, one for each place. -/
def dyn (n : Nat) (K : Nat → Obj') : List (Nat × Obj') := (List.range n).map fun i => (2000 + i, K i)
theorem lk_app {α : Type} : ∀ (l r : List (Nat × α)) (t : Nat), lk (l ++ r) t = match lk l t with | some x => some x | none => lk r t
  | [], r, t => rfl
  | (k, x) :: l, r, t => by
    simp only [List.cons_append, lk]
    split
    · rfl
    · exact lk_app l r t
theorem lk_dyn (n : Nat) (K : Nat → Obj') (t : Nat) : lk (dyn n K) t = if 2000 ≤ t ∧ t < 2000 + n then some (K (t - 2000)) else none := by
  unfold dyn
  induction n with
  | zero => rw [if_neg (by omega)]; rfl
  | succ n ih =>
    rw [List.range_succ, List.map_append, lk_app, ih]
    by_cases h1 : 2000 ≤ t ∧ t < 2000 + n
    · rw [if_pos h1, if_pos (by omega)]
    · rw [if_neg h1]
      simp only [List.map_cons, List.map_nil, lk]
      by_cases h2 : 2000 + n = t
      · subst h2; rw [if_pos rfl, if_pos (by omega)]; simp
      · rw [if_neg h2, if_neg (by omega)]
theorem lk_dynU {n u : Nat} (K : Nat → Obj') (h : u < n) : lk (dyn n K) (2000 + u) = some (K u) := by
  rw [lk_dyn, if_pos (by omega)]; simp
/-- The cells that hold them. -/
def ownsL (n : Nat) : List AV := (List.range n).map fun j => .own (2000 + j)
theorem holdsL_map {α : Type} (f : α → AV) (t : Nat) : ∀ l : List α, AV.holdsL t (l.map f) = l.any fun x => (f x).holds t
  | [] => rfl
  | x :: l => by simp only [List.map_cons, AV.holdsL, List.any_cons, holdsL_map f t l]
theorem holdsL_owns {n t : Nat} (h : t < 2000) : AV.holdsL t (ownsL n) = false := by
  unfold ownsL
  rw [holdsL_map]
  simp only [AV.holds, List.any_eq_false, beq_iff_eq]
  intro x _; omega
/-- All slices of a row that are nil are rows that are owned, of nothing. -/
theorem Ent.thawAll {st : St} {t n sz : Nat} (hm : lk st.m t = some (.box (List.replicate n .nil))) (ht : t < 2000) (hn : n ≤ 900000) (hf : ∀ j, j < n → st.fresh (2000 + j) = true) (hs : 0 < sz) :
    Ent st { st with m := dyn n (fun _ => .row sz []) ++ up st.m t (.box (ownsL n)) } := fun keep w E a hI => by
  have hlk : ∀ s, lk (dyn n (fun _ => Obj'.row sz []) ++ up st.m t (.box (ownsL n))) s = if 2000 ≤ s ∧ s < 2000 + n then some (.row sz []) else if t = s then some (.box (ownsL n)) else lk st.m s := fun s => by
    rw [lk_app, lk_dyn, lk_up]
    by_cases hd : 2000 ≤ s ∧ s < 2000 + n
    · rw [if_pos hd, if_pos hd]
    · rw [if_neg hd, if_neg hd]
  have hnone : ∀ j, j < n → lk st.m (2000 + j) = none ∧ st.held (2000 + j) = false := fun j hj => by
    have := hf j hj
    simp only [St.fresh, Bool.and_eq_true, Bool.not_eq_true', Option.isNone_iff_eq_none] at this
    exact ⟨this.2.2, this.2.1⟩
  let E' : Env := ⟨E.ok, fun s => if 2000 ≤ s ∧ s < 2000 + n then none else E.at_ s⟩
  have hat : ∀ s, ¬ (2000 ≤ s ∧ s < 2000 + n) → E'.at_ s = E.at_ s := fun s hs => if_neg hs
  have hold : ∀ s o, lk st.m s = some o → ¬ (2000 ≤ s ∧ s < 2000 + n) := fun s o ho hd => by
    have := (hnone (s - 2000) (by omega)).1
    rw [show 2000 + (s - 2000) = s by omega, ho] at this; cases this
  have hheld : ∀ s, st.held s = true → ¬ (2000 ≤ s ∧ s < 2000 + n) := fun s hs hd => by
    have := (hnone (s - 2000) (by omega)).2
    rw [show 2000 + (s - 2000) = s by omega, hs] at this; cases this
  have hok : ∀ b, E.ok b → E'.ok b ∧ w.heap[b]? = w.heap[b]? := fun b hb => ⟨hb, rfl⟩
  have hp : ∀ s, ¬ (2000 ≤ s ∧ s < 2000 + n) → Pass E E' (lk st.m) (lk (dyn n (fun _ => Obj'.row sz []) ++ up st.m t (.box (ownsL n)))) s := fun s hs => by
    unfold Pass
    rw [hlk, if_neg hs, hat s hs]
    by_cases hts : t = s
    · subst hts
      rw [if_pos rfl]
      exact .inr ⟨rfl, .inr ⟨_, _, hm, rfl⟩⟩
    · rw [if_neg hts]
      exact same_tags E (lk st.m) s
  refine ⟨E', ⟨hI.df, hI.sz, fun d x hx => ?_, fun s o ho => ?_, fun s s' o o' g c z c' z' k1 k2 e1 e2 => ?_, fun s o g c z ho hg => ?_, hI.okl, hI.kpl⟩, ⟨rfl, rfl, rfl, Nat.le_refl _, fun _ _ => rfl, hok, fun b hb => .inl hb, fun s hs => hat s (by omega)⟩⟩
  · obtain ⟨v, k1, k2⟩ := hI.tm d x hx
    refine ⟨v, k1, k2.keep hok fun s hs => hp s (hheld s ?_)⟩
    cases hh : st.held s with
    | true => rfl
    | false => rw [held_t hh hx] at hs; cases hs
  · rw [hlk] at ho
    split at ho
    · rename_i hd
      simp only [Option.some.injEq] at ho; subst ho
      exact ⟨hs, .inl ⟨if_pos hd, rfl⟩⟩
    · rename_i hd
      split at ho
      · rename_i hts
        subst hts
        simp only [Option.some.injEq] at ho; subst ho
        obtain ⟨g, c, z, e, cur, h1, h2, h3⟩ := hI.mm t _ hm
        refine ⟨g, c, z, e, cur, by rw [hat t hd]; exact h1, h2, ?_⟩
        have hl := h3.len
        simp only [List.length_replicate] at hl
        refine RepVL.of (by simp [ownsL, hl]) fun i x v hx hv => ?_
        have hi : i < n := by have := (List.getElem?_eq_some_iff.1 hx).1; simpa [ownsL] using this
        have hx' : x = .own (2000 + i) := by
          simp only [ownsL, List.getElem?_map, List.getElem?_range hi, Option.map_some, Option.some.injEq] at hx
          exact hx.symm
        subst hx'
        have := h3.get i .nil v (by rw [List.getElem?_replicate, if_pos hi]) hv
        simp only [RepV] at this; subst this
        simp only [RepV]
        rw [hlk, if_pos (by omega), show E'.at_ (2000 + i) = none from if_pos (by omega)]
        exact ⟨none, rfl⟩
      · rename_i hts
        refine (hI.mm s o ho).keep hok (hat s hd) (fun g c z hg => rfl) fun s' cs hcs hs' => hp s' (hheld s' ?_)
        subst hcs
        cases hh : st.held s' with
        | true => rfl
        | false => rw [held_m hh ho] at hs'; cases hs'
  · have q : ∀ s o, lk (dyn n (fun _ => Obj'.row sz []) ++ up st.m t (.box (ownsL n))) s = some o → E'.at_ s ≠ none → ∃ o2, lk st.m s = some o2 ∧ E'.at_ s = E.at_ s := fun s o hs hne => by
      rw [hlk] at hs
      split at hs
      · rename_i hd; exact absurd (if_pos hd) hne
      · rename_i hd
        split at hs
        · rename_i hts; subst hts; exact ⟨_, hm, hat _ hd⟩
        · exact ⟨o, hs, hat _ hd⟩
    obtain ⟨p1, h1, h2⟩ := q s o k1 (by rw [e1]; simp)
    obtain ⟨p2, h3, h4⟩ := q s' o' k2 (by rw [e2]; simp)
    exact hI.inj s s' p1 p2 g c z c' z' h1 h3 (h2 ▸ e1) (h4 ▸ e2)
  · rw [hlk] at ho
    split at ho
    · rename_i hd
      rw [show E'.at_ s = none from if_pos hd] at hg; cases hg
    · rename_i hd
      rw [hat s hd] at hg
      split at ho
      · rename_i hts; subst hts; exact hI.own t _ g c z hm hg
      · exact hI.own s o g c z ho hg

/-! ### Small tags beside them -/
theorem lk_dynS {n : Nat} {K : Nat → Obj'} {r : List (Nat × Obj')} {t : Nat} (h : t < 2000) : lk (dyn n K ++ r) t = lk r t := by
  rw [lk_app, lk_dyn, if_neg (by omega)]
theorem up_app {α : Type} : ∀ (l r : List (Nat × α)) (t : Nat) (x : α), lk l t = none → up (l ++ r) t x = l ++ up r t x
  | [], r, t, x, _ => rfl
  | (k, y) :: l, r, t, x, h => by
    simp only [lk] at h
    split at h
    · cases h
    · rename_i hk
      simp only [List.cons_append, up, if_neg hk]
      rw [up_app l r t x h]
theorem rm_app {α : Type} : ∀ (l r : List (Nat × α)) (t : Nat), rm (l ++ r) t = rm l t ++ rm r t
  | [], r, t => rfl
  | (k, y) :: l, r, t => by
    simp only [List.cons_append, rm]
    split
    · exact rm_app l r t
    · rw [rm_app l r t]; rfl
theorem rm_none' {α : Type} : ∀ (l : List (Nat × α)) (t : Nat), lk l t = none → rm l t = l
  | [], t, _ => rfl
  | (k, y) :: l, t, h => by
    simp only [lk] at h
    split at h
    · cases h
    · rename_i hk
      simp only [rm, if_neg hk]
      rw [rm_none' l t h]
theorem up_dynS {n : Nat} {K : Nat → Obj'} {r : List (Nat × Obj')} {t : Nat} {x : Obj'} (h : t < 2000) : up (dyn n K ++ r) t x = dyn n K ++ up r t x :=
  up_app _ _ _ _ (by rw [lk_dyn, if_neg (by omega)])
theorem rm_dynS {n : Nat} {K : Nat → Obj'} {r : List (Nat × Obj')} {t : Nat} (h : t < 2000) : rm (dyn n K ++ r) t = dyn n K ++ rm r t := by
  rw [rm_app, rm_none' _ _ (by rw [lk_dyn, if_neg (by omega)])]
theorem Ent.chkD {a b : St} {n : Nat} {K : Nat → Obj'} {r r' : List (Nat × Obj')} (ha : a.m = dyn n K ++ r) (hb : b.m = dyn n K ++ r') (h : a.n = b.n ∧ leT a b.t ∧ leM { a with m := r } r') : Ent a b :=
  Ent.le ⟨h.1, fun _ _ => leT_get h.2.1, fun t o ho => by
    rw [hb, lk_app] at ho
    rw [ha, lk_app]
    cases hd : lk (dyn n K) t with
    | some x => rw [hd] at ho; exact ho
    | none => rw [hd] at ho; exact leM_get h.2.2 ho⟩
theorem any_dyn {n : Nat} {K : Nat → Obj'} {f : Nat × Obj' → Bool} (hf : ∀ i, f (2000 + i, K i) = false) : (dyn n K).any f = false := by
  unfold dyn
  rw [List.any_map, List.any_eq_false]
  intro i _
  simp [hf]

/-! ### One row is taken out, and laid back -/
def dynX (n : Nat) (K : Nat → Obj') (u : Nat) : List (Nat × Obj') := rm (dyn n K) (2000 + u)
theorem lk_dynX (n : Nat) (K : Nat → Obj') (u t : Nat) : lk (dynX n K u) t = if 2000 + u = t then none else lk (dyn n K) t := by
  unfold dynX; rw [lk_rm]
theorem lk_dynXS {n u : Nat} {K : Nat → Obj'} {r : List (Nat × Obj')} {t : Nat} (h : t < 2000) : lk (dynX n K u ++ r) t = lk r t := by
  rw [lk_app, lk_dynX, if_neg (by omega), lk_dyn, if_neg (by omega)]
theorem up_dynXS {n u : Nat} {K : Nat → Obj'} {r : List (Nat × Obj')} {t : Nat} {x : Obj'} (h : t < 2000) : up (dynX n K u ++ r) t x = dynX n K u ++ up r t x :=
  up_app _ _ _ _ (by rw [lk_dynX, if_neg (by omega), lk_dyn, if_neg (by omega)])
theorem rm_dynXS {n u : Nat} {K : Nat → Obj'} {r : List (Nat × Obj')} {t : Nat} (h : t < 2000) : rm (dynX n K u ++ r) t = dynX n K u ++ rm r t := by
  rw [rm_app, rm_none' _ _ (by rw [lk_dynX, if_neg (by omega), lk_dyn, if_neg (by omega)])]
theorem any_rm {α : Type} {f : Nat × α → Bool} : ∀ {l : List (Nat × α)} {t : Nat}, l.any f = false → (rm l t).any f = false
  | [], t, h => h
  | (k, y) :: l, t, h => by
    simp only [List.any_cons, Bool.or_eq_false_iff] at h
    simp only [rm]
    split
    · exact any_rm h.2
    · simp only [List.any_cons, h.1, any_rm h.2, Bool.or_self]
theorem any_dynX {n u : Nat} {K : Nat → Obj'} {f : Nat × Obj' → Bool} (hf : ∀ i, f (2000 + i, K i) = false) : (dynX n K u).any f = false := any_rm (any_dyn hf)
theorem ren_id {t t' : Nat} : ∀ {x : AV}, x.holds t = false → x.ren t t' = x := by
  intro x
  refine AV.rec (motive_1 := fun x => x.holds t = false → x.ren t t' = x) (motive_2 := fun l => AV.holdsL t l = false → AV.renL t t' l = l) ?_ ?_ ?_ ?_ ?_ ?_ ?_ ?_ ?_ ?_ ?_ x
  · intro y _; rfl
  · intro _; rfl
  · intro s h; simp only [AV.holds, beq_eq_false_iff_ne, ne_eq] at h; simp [AV.ren, h]
  · intro s o h; simp only [AV.holds, beq_eq_false_iff_ne, ne_eq] at h; simp [AV.ren, h]
  · intro s i o h; simp only [AV.holds, beq_eq_false_iff_ne, ne_eq] at h; simp [AV.ren, h]
  · intro xs ih h; simp only [AV.holds] at h; simp only [AV.ren, ih h]
  · intro f xs ih h; simp only [AV.holds] at h; simp only [AV.ren, ih h]
  · intro xs ih h; simp only [AV.holds] at h; simp only [AV.ren, ih h]
  · intro s n h; simp only [AV.holds, beq_eq_false_iff_ne, ne_eq] at h; simp [AV.ren, h]
  · intro _; rfl
  · intro y ys ihx ihs h
    simp only [AV.holdsL, Bool.or_eq_false_iff] at h
    simp only [AV.renL, ihx h.1, ihs h.2]
theorem renL_map {α : Type} (f : α → AV) (t t' : Nat) : ∀ l : List α, AV.renL t t' (l.map f) = l.map fun x => (f x).ren t t'
  | [] => rfl
  | x :: l => by simp only [List.map_cons, AV.renL, renL_map f t t' l]
theorem renL_owns {n u t' : Nat} (h : u < n) : AV.renL (2000 + u) t' (ownsL n) = (ownsL n).set u (.own t') := by
  unfold ownsL
  rw [renL_map]
  apply List.ext_getElem?
  intro j
  rw [List.getElem?_set]
  by_cases hj : j < n
  · simp only [List.getElem?_map, List.getElem?_range hj, Option.map_some, List.length_map, List.length_range, AV.ren]
    by_cases hx : u = j
    · subst hx; simp [h]
    · have h2 : ¬ j = u := by omega
      simp [hx, h2]
  · have : ¬ u = j := by omega
    rw [if_neg this, List.getElem?_eq_none (by simp; omega), List.getElem?_eq_none (by simp; omega)]
theorem Ent.pull {st : St} {n u sz : Nat} {f : Nat → List SV} {r r' : List (Nat × Obj')} (hu : u < n) (hm : st.m = dyn n (fun j => .row sz (f j)) ++ r) (hs : ∀ t o, lk r' t = some o → t < 2000 ∧ t ≠ 900) (hf : st.fresh 900 = true)
    (hT : ∀ d x, lk st.t d = some x → x.holds (2000 + u) = false) (hR : ∀ t o, lk r' t = some o → ∃ o0, lk r t = some o0 ∧ o = Obj'.ren (2000 + u) 900 o0) :
    Ent st { st with m := dynX n (fun j => .row sz (f j)) u ++ (r' ++ [(900, .row sz (f u))]) } := by
  have hl : lk st.m (2000 + u) = some (.row sz (f u)) := by rw [hm, lk_app, lk_dynU _ hu]
  refine Ent.rename (2000 + u) 900 hf (Ent.le ⟨?_, fun d x hx => ?_, fun t o ho => ?_⟩)
  · unfold St.rename; rw [hl]
  · unfold St.rename; rw [hl]
    simp only [lk_mapv]
    rw [show lk st.t d = some x from hx]
    simp only [Option.map_some, Option.some.injEq]
    exact ren_id (hT d x hx)
  · unfold St.rename; rw [hl]
    simp only [lk_up, lk_mapv, lk_rm]
    rw [lk_app, lk_dynX] at ho
    by_cases h9 : 900 = t
    · subst h9
      rw [if_pos rfl]
      rw [if_neg (by omega), lk_dyn, if_neg (by omega)] at ho
      simp only at ho
      rw [lk_app] at ho
      cases hq : lk r' 900 with
      | some y => exact absurd rfl (hs 900 y hq).2
      | none => rw [hq] at ho; simpa [lk, Obj'.ren] using ho
    · rw [if_neg h9]
      by_cases h2 : 2000 + u = t
      · subst h2
        rw [if_pos rfl] at ho
        simp only at ho
        rw [lk_app] at ho
        cases hq : lk r' (2000 + u) with
        | some y => have := (hs _ y hq).1; omega
        | none => rw [hq] at ho; simp [lk] at ho; omega
      · rw [if_neg h2] at ho ⊢
        rw [hm, lk_app]
        cases hd : lk (dyn n (fun j => Obj'.row sz (f j))) t with
        | some y =>
          rw [hd] at ho
          simp only [Option.some.injEq] at ho; subst ho
          rw [lk_dyn] at hd
          split at hd
          · simp only [Option.some.injEq] at hd; subst hd; rfl
          · cases hd
        | none =>
          rw [hd] at ho
          simp only at ho ⊢
          rw [lk_app] at ho
          cases hq : lk r' t with
          | some y =>
            rw [hq] at ho
            simp only [Option.some.injEq] at ho; subst ho
            obtain ⟨o0, h1, rfl⟩ := hR t y hq
            rw [h1]; rfl
          | none =>
            rw [hq] at ho
            simp only [lk] at ho
            rw [if_neg h9] at ho
            cases ho
theorem DrawW.pull {P : Program} {Q : Exit → St → Prop} {id : Nat} {ops : Array Oper} {k : List Fr} {N n sz : Nat} {ts : List (Nat × AV)} {f : Nat → List SV} {r : List (Nat × Obj')} (u : Nat) (hu : u < n) (hs : (r.any fun p => decide (2000 ≤ p.1) || p.1 == 900) = false) (hf : (⟨N, ts, dyn n (fun j => .row sz (f j)) ++ r⟩ : St).fresh 900 = true)
    (hT : (ts.any fun p => p.2.holds (2000 + u)) = false) (h : DrawW P Q id ops k ⟨N, ts, dynX n (fun j => .row sz (f j)) u ++ (mapv (Obj'.ren (2000 + u) 900) r ++ [(900, .row sz (f u))])⟩) : DrawW P Q id ops k ⟨N, ts, dyn n (fun j => .row sz (f j)) ++ r⟩ :=
  DrawW.ent (Ent.pull hu rfl (fun t o ho => by
    rw [lk_mapv] at ho
    obtain ⟨o0, h1, _⟩ := Option.map_eq_some_iff.1 ho
    rw [List.any_eq_false] at hs
    have := hs _ (lk_mem h1)
    simp only [Bool.or_eq_true, decide_eq_true_eq, beq_iff_eq, not_or] at this
    exact ⟨by omega, this.2⟩) hf (fun d x hx => by
    rw [List.any_eq_false] at hT
    simpa using hT _ (lk_mem hx)) (fun t o ho => by
    rw [lk_mapv] at ho
    obtain ⟨o0, h1, h2⟩ := Option.map_eq_some_iff.1 ho
    exact ⟨o0, h1, h2.symm⟩)) h
theorem Ent.push {a b : St} {n u sz t : Nat} {f f' : Nat → List SV} {r r' : List (Nat × Obj')} (hu : u < n) (ha : a.m = dynX n (fun j => .row sz (f j)) u ++ r) (hb : b.m = dyn n (fun j => .row sz (f' j)) ++ r') (ht : t < 2000) (hrow : lk r t = some (.row sz (f' u)))
    (hf : ∀ j, j ≠ u → f' j = f j) (hfr : a.fresh (2000 + u) = true) (h : a.n = b.n ∧ leT { a with t := mapv (AV.ren t (2000 + u)) a.t } b.t ∧ leM { a with m := mapv (Obj'.ren t (2000 + u)) (rm r t) } r') : Ent a b := by
  have hl : lk a.m t = some (.row sz (f' u)) := by rw [ha, lk_dynXS ht]; exact hrow
  refine Ent.rename t (2000 + u) hfr (Ent.le ⟨?_, fun d x hx => ?_, fun s o ho => ?_⟩)
  · unfold St.rename; rw [hl]; exact h.1
  · unfold St.rename; rw [hl]
    have q := leT_get h.2.1 hx
    exact q
  · unfold St.rename; rw [hl]
    simp only [lk_up, lk_mapv, lk_rm]
    rw [hb, lk_app, lk_dyn] at ho
    by_cases hd : 2000 ≤ s ∧ s < 2000 + n
    · rw [if_pos hd] at ho
      simp only [Option.some.injEq] at ho; subst ho
      by_cases hs : 2000 + u = s
      · subst hs
        rw [if_pos rfl]
        simp [Obj'.ren]
      · rw [if_neg hs, if_neg (by omega), ha, lk_app, lk_dynX, if_neg hs, lk_dyn, if_pos hd]
        simp only [Option.map_some, Obj'.ren]
        rw [hf _ (by omega)]
    · rw [if_neg hd] at ho
      simp only at ho
      rw [if_neg (by omega)]
      have hk := leM_get h.2.2 ho
      simp only [lk_mapv, lk_rm] at hk
      rw [ha, lk_app, lk_dynX, lk_dyn, if_neg hd]
      simpa using hk
theorem lk_dynXU (n u : Nat) (K : Nat → Obj') (r : List (Nat × Obj')) : lk (dynX n K u ++ r) (2000 + u) = lk r (2000 + u) := by
  rw [lk_app, lk_dynX, if_pos rfl]
theorem holdsL_any (t : Nat) : ∀ l : List AV, AV.holdsL t l = l.any fun x => x.holds t
  | [] => rfl
  | x :: l => by simp only [AV.holdsL, List.any_cons, holdsL_any t l]
theorem owns_get {n u j : Nat} {y x : AV} (h : ((ownsL n).set u y)[j]? = some x) : (j = u ∧ x = y) ∨ (j ≠ u ∧ x = .own (2000 + j)) := by
  rw [List.getElem?_set] at h
  split at h
  · rename_i e
    split at h
    · simp only [Option.some.injEq] at h; exact .inl ⟨e.symm, h.symm⟩
    · cases h
  · rename_i e
    right
    refine ⟨Ne.symm e, ?_⟩
    have hj : j < n := by have := (List.getElem?_eq_some_iff.1 h).1; simpa [ownsL] using this
    simp only [ownsL, List.getElem?_map, List.getElem?_range hj, Option.map_some, Option.some.injEq] at h
    exact h.symm
theorem holdsL_set {n u t s : Nat} (h1 : t ≠ s) (h2 : ∀ j, j ≠ u → 2000 + j ≠ t) : AV.holdsL t ((ownsL n).set u (.own s)) = false := by
  rw [holdsL_any, List.any_eq_false]
  intro x hx
  obtain ⟨j, hj⟩ := List.getElem?_of_mem hx
  rcases owns_get hj with ⟨_, rfl⟩ | ⟨hne, rfl⟩
  · simp [AV.holds]; omega
  · have := h2 j hne
    simp [AV.holds, this]
theorem renL_back {n u s : Nat} (h : u < n) (hs : s < 2000) : AV.renL s (2000 + u) ((ownsL n).set u (.own s)) = ownsL n := by
  have e : (ownsL n).set u (.own s) = (List.range n).map fun j => if j = u then AV.own s else AV.own (2000 + j) := by
    apply List.ext_getElem?
    intro j
    rw [List.getElem?_set]
    by_cases hj : j < n
    · simp only [ownsL, List.getElem?_map, List.getElem?_range hj, Option.map_some, List.length_map, List.length_range]
      by_cases hx : u = j
      · subst hx; simp [h]
      · have : ¬ j = u := by omega
        simp [hx, this]
    · have : ¬ u = j := by omega
      rw [if_neg this, List.getElem?_eq_none (by simp [ownsL]; omega), List.getElem?_eq_none (by simp; omega)]
  rw [e, renL_map]
  unfold ownsL
  apply List.map_congr_left
  intro j hj
  by_cases hx : j = u
  · subst hx; simp [AV.ren]
  · have : ¬ 2000 + j = s := by omega
    simp [hx, AV.ren, this]

/-! ### All rows are shared from now on -/
theorem frz_id {t : Nat} {o : Obj'} : ∀ {x : AV}, x.holds t = false → x.frz t o = x := by
  intro x
  refine AV.rec (motive_1 := fun x => x.holds t = false → x.frz t o = x) (motive_2 := fun l => AV.holdsL t l = false → AV.frzL t o l = l) ?_ ?_ ?_ ?_ ?_ ?_ ?_ ?_ ?_ ?_ ?_ x
  · intro y _; rfl
  · intro _; rfl
  · intro s h; simp only [AV.holds, beq_eq_false_iff_ne, ne_eq] at h; simp [AV.frz, h]
  · intro s o h; simp only [AV.holds, beq_eq_false_iff_ne, ne_eq] at h; simp [AV.frz, h]
  · intro s i o h; simp only [AV.holds, beq_eq_false_iff_ne, ne_eq] at h; simp [AV.frz, h]
  · intro xs ih h; simp only [AV.holds] at h; simp only [AV.frz, ih h]
  · intro f xs ih h; simp only [AV.holds] at h; simp only [AV.frz, ih h]
  · intro xs ih h; simp only [AV.holds] at h; simp only [AV.frz, ih h]
  · intro s n h; simp only [AV.holds, beq_eq_false_iff_ne, ne_eq] at h; simp [AV.frz, h]
  · intro _; rfl
  · intro y ys ihx ihs h
    simp only [AV.holdsL, Bool.or_eq_false_iff] at h
    simp only [AV.frzL, ihx h.1, ihs h.2]
theorem frzL_map {α : Type} (f : α → AV) (t : Nat) (o : Obj') : ∀ l : List α, AV.frzL t o (l.map f) = l.map fun x => (f x).frz t o
  | [] => rfl
  | x :: l => by simp only [List.map_cons, AV.frzL, frzL_map f t o l]
theorem frzL_id {t : Nat} {o : Obj'} : ∀ {l : List AV}, AV.holdsL t l = false → AV.frzL t o l = l
  | [], _ => rfl
  | x :: l, h => by
    simp only [AV.holdsL, Bool.or_eq_false_iff] at h
    simp only [AV.frzL, frz_id h.1, frzL_id h.2]
/-- Those before j are shared already. -/
def cellsF (j n : Nat) (f : Nat → List SV) : List AV := (List.range n).map fun i => if i < j then .sv (.lst (f i)) else .own (2000 + i)
theorem cellsF_step {j n sz : Nat} {f : Nat → List SV} : AV.frzL (2000 + j) (.row sz (f j)) (cellsF j n f) = cellsF (j + 1) n f := by
  unfold cellsF
  rw [frzL_map]
  apply List.map_congr_left
  intro i _
  by_cases h1 : i < j
  · rw [if_pos h1, if_pos (by omega)]; rfl
  · rw [if_neg h1]
    by_cases h2 : i = j
    · subst h2; rw [if_pos (by omega)]; simp [AV.frz]
    · have : ¬ 2000 + i = 2000 + j := by omega
      rw [if_neg (by omega)]; simp [AV.frz, h2]
def dynF (j n : Nat) (K : Nat → Obj') : List (Nat × Obj') := (dyn n K).filter fun p => decide (2000 + j ≤ p.1)
theorem lk_filter {α : Type} (q : Nat → Bool) : ∀ (l : List (Nat × α)) (t : Nat), lk (l.filter fun p => q p.1) t = if q t = true then lk l t else none
  | [], t => by simp [lk]
  | (k, x) :: l, t => by
    simp only [List.filter_cons]
    by_cases hk : k = t
    · subst hk
      by_cases hq : q k = true
      · rw [if_pos hq]; simp [lk, hq]
      · rw [if_neg hq, lk_filter q l k, if_neg hq, if_neg hq]
    · by_cases hq : q k = true
      · rw [if_pos hq]; simp only [lk, if_neg hk]; exact lk_filter q l t
      · rw [if_neg hq]; simp only [lk, if_neg hk]; exact lk_filter q l t
theorem lk_dynF (j n : Nat) (K : Nat → Obj') (t : Nat) : lk (dynF j n K) t = if 2000 + j ≤ t ∧ t < 2000 + n then some (K (t - 2000)) else none := by
  unfold dynF
  rw [lk_filter (fun k => decide (2000 + j ≤ k)), lk_dyn]
  by_cases h1 : 2000 + j ≤ t
  · by_cases h2 : t < 2000 + n
    · rw [if_pos (by simpa using h1), if_pos (by omega), if_pos ⟨h1, h2⟩]
    · rw [if_pos (by simpa using h1), if_neg (by omega), if_neg (by omega)]
  · rw [if_neg (by simpa using h1), if_neg (by omega)]
theorem Ent.frzStep {N j n sz b : Nat} {ts : List (Nat × AV)} {f : Nat → List SV} {r : List (Nat × Obj')} (hj : j < n) (hb : b < 2000) (hT : (ts.any fun p => p.2.holds (2000 + j)) = false)
    (hr : ∀ t o, lk r t = some o → t < 2000 ∧ Obj'.frz (2000 + j) (.row sz (f j)) o = o) :
    Ent ⟨N, ts, dynF j n (fun i => .row sz (f i)) ++ (b, .box (cellsF j n f)) :: r⟩ ⟨N, ts, dynF (j + 1) n (fun i => .row sz (f i)) ++ (b, .box (cellsF (j + 1) n f)) :: r⟩ := by
  have hl : lk (dynF j n (fun i => Obj'.row sz (f i)) ++ (b, .box (cellsF j n f)) :: r) (2000 + j) = some (.row sz (f j)) := by
    rw [lk_app, lk_dynF, if_pos (by omega)]; simp
  refine Ent.freeze (2000 + j) (Ent.le ⟨?_, fun d x hx => ?_, fun t o ho => ?_⟩)
  · unfold St.freeze; rw [hl]
  · unfold St.freeze; rw [hl]
    simp only [lk_mapv]
    rw [show lk ts d = some x from hx]
    rw [List.any_eq_false] at hT
    simp only [Option.map_some, Option.some.injEq]
    exact frz_id (by simpa using hT _ (lk_mem hx))
  · unfold St.freeze; rw [hl]
    simp only [lk_mapv, lk_rm]
    rw [lk_app, lk_dynF] at ho
    by_cases hd : 2000 + (j + 1) ≤ t ∧ t < 2000 + n
    · rw [if_pos hd] at ho
      simp only [Option.some.injEq] at ho; subst ho
      rw [if_neg (by omega), lk_app, lk_dynF, if_pos (by omega)]
      simp [Obj'.frz]
    · rw [if_neg hd] at ho
      simp only [lk] at ho
      by_cases hbt : b = t
      · subst hbt
        rw [if_pos rfl] at ho
        simp only [Option.some.injEq] at ho; subst ho
        rw [if_neg (by omega), lk_app, lk_dynF, if_neg (by omega)]
        simp only [lk, if_true, Option.map_some, Obj'.frz, cellsF_step]
      · rw [if_neg hbt] at ho
        obtain ⟨h1, h2⟩ := hr t o ho
        rw [if_neg (by omega), lk_app, lk_dynF, if_neg (by omega)]
        simp only [lk, if_neg hbt, ho, Option.map_some, h2]
theorem Ent.frzAll {N n sz b : Nat} {ts : List (Nat × AV)} {f : Nat → List SV} {r : List (Nat × Obj')} (hb : b < 2000) (hT : ∀ j, j < n → (ts.any fun p => p.2.holds (2000 + j)) = false)
    (hr : ∀ j, j < n → ∀ t o, lk r t = some o → t < 2000 ∧ Obj'.frz (2000 + j) (.row sz (f j)) o = o) :
    ∀ j, j ≤ n → Ent ⟨N, ts, dynF 0 n (fun i => .row sz (f i)) ++ (b, .box (cellsF 0 n f)) :: r⟩ ⟨N, ts, dynF j n (fun i => .row sz (f i)) ++ (b, .box (cellsF j n f)) :: r⟩
  | 0, _ => Ent.refl _
  | j + 1, h => (Ent.frzAll hb hT hr j (by omega)).trans (Ent.frzStep (by omega) hb (hT j (by omega)) (hr j (by omega)))
theorem svs_map {α : Type} (f : α → SV) : ∀ l : List α, AV.svs (l.map fun x => .sv (f x)) = some (l.map f)
  | [] => rfl
  | x :: l => by simp only [List.map_cons, AV.svs, svs_map f l, Option.map_some]
theorem cellsF_all (n : Nat) (f : Nat → List SV) : cellsF n n f = (List.range n).map fun i => .sv (.lst (f i)) := by
  unfold cellsF
  apply List.map_congr_left
  intro i hi
  rw [if_pos (List.mem_range.1 hi)]
theorem cellsF_none (n : Nat) (f : Nat → List SV) : cellsF 0 n f = ownsL n := by
  unfold cellsF ownsL
  apply List.map_congr_left
  intro i _
  rw [if_neg (by omega)]
theorem dynF_end (n : Nat) (K : Nat → Obj') : dynF n n K = [] := by
  unfold dynF dyn
  rw [List.filter_eq_nil_iff]
  intro p hp
  obtain ⟨i, hi, rfl⟩ := List.mem_map.1 hp
  have := List.mem_range.1 hi
  simp; omega
/-- All rows of a box of rows are shared from now on. -/
theorem Ent.rows {N n sz b : Nat} {ts : List (Nat × AV)} {f : Nat → List SV} {r r' : List (Nat × Obj')} (hb : b < 2000) (hT : ∀ j, j < n → (ts.any fun p => p.2.holds (2000 + j)) = false)
    (hr : ∀ j, j < n → ∀ t o, lk r' t = some o → t < 2000 ∧ Obj'.frz (2000 + j) (.row sz (f j)) o = o) (hrr : ∀ t o, lk ((b, Obj'.box (ownsL n)) :: r') t = some o → lk r t = some o) :
    Ent ⟨N, ts, dyn n (fun i => .row sz (f i)) ++ r⟩ ⟨N, ts, (b, .box ((List.range n).map fun i => .sv (.lst (f i)))) :: r'⟩ := by
  have h1 := Ent.frzAll (N := N) (sz := sz) (f := f) (r := r') hb hT hr n (Nat.le_refl _)
  rw [dynF_end, cellsF_all, List.nil_append] at h1
  have h0 : Ent ⟨N, ts, dyn n (fun i => .row sz (f i)) ++ r⟩ ⟨N, ts, dynF 0 n (fun i => .row sz (f i)) ++ (b, .box (cellsF 0 n f)) :: r'⟩ := Ent.le ⟨rfl, fun _ _ h => h, fun t o ho => by
    simp only at ho ⊢
    rw [cellsF_none, lk_app, lk_dynF] at ho
    rw [lk_app, lk_dyn]
    by_cases hd : 2000 ≤ t ∧ t < 2000 + n
    · rw [if_pos (by omega)] at ho
      rw [if_pos hd]; exact ho
    · rw [if_neg (by omega)] at ho
      rw [if_neg hd]
      exact hrr t o ho⟩
  exact h0.trans h1
end Go.Proofs.YtinhfnbmgmociaaGreatDoor.Ab
