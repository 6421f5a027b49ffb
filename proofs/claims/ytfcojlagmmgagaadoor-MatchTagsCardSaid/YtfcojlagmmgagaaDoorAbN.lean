/- The abstract layer, part N: regions that draw their order: any order comes to what the text's comes to. -/
import Derived.Test.YtfcojlagmmgagaaDoorAbM
import Derived.Orders
namespace Go.Proofs.YtfcojlagmmgagaaDoor.Ab
open Go.RowKit
set_option linter.unusedVariables false
set_option linter.unusedSimpArgs false

/-- The footprint of one operation: temporaries and tags that it reads; tags whose kind and size it reads; what it writes; the tag that it makes; whether it makes or ends tags; the tags that its boxes hold. -/
structure Ft where
  rT : List Nat
  rM : List Nat
  sM : List Nat
  wT : Option (Nat × AV)
  wM : List (Nat × Option Obj')
  nw : Option Nat
  hv : Bool
  hs : List Nat
def upo {α : Type} (l : List (Nat × α)) (w : Option (Nat × α)) : List (Nat × α) := match w with
  | some (k, x) => up l k x
  | none => l
def upm (l : List (Nat × Obj')) : List (Nat × Option Obj') → List (Nat × Obj')
  | [] => l
  | (k, some o) :: r => up (upm l r) k o
  | (k, none) :: r => rm (upm l r) k
theorem lk_upo {α : Type} (l : List (Nat × α)) (w : Option (Nat × α)) (d : Nat) : lk (upo l w) d = match lk w.toList d with | some x => some x | none => lk l d := by
  unfold upo
  cases w with
  | none => rfl
  | some p =>
    obtain ⟨k, x⟩ := p
    simp only [Option.toList_some, lk]
    rw [lk_up]
    split <;> rfl
theorem lk_upm (l : List (Nat × Obj')) (d : Nat) : ∀ (w : List (Nat × Option Obj')), lk (upm l w) d = match lk w d with | some x => x | none => lk l d
  | [] => rfl
  | (k, some o) :: r => by
    simp only [upm, lk, lk_up]
    split
    · rfl
    · exact lk_upm l d r
  | (k, none) :: r => by
    simp only [upm, lk, lk_rm]
    split
    · rfl
    · exact lk_upm l d r
def St.upd (st : St) (f : Ft) : St := { st with t := upo st.t f.wT, m := upm st.m f.wM }
/-- Nothing holds a tag. -/
def Fresh (s : St) (d : Nat) : Prop := d < 1000000 ∧ lk s.m d = none ∧ (∀ e x, lk s.t e = some x → x.holds d = false) ∧ ∀ t cs, lk s.m t = some (.box cs) → AV.holdsL d cs = false

def OStep (P : Program) (ops : Array Oper) (o : Oper) (st st' : St) : Prop :=
  ∀ (keep : Nat → Prop) (w : World) (E : Env) (a : Act), Inv keep w E st a → ∀ (N : Act → World → Prop) (Q : Exit → Act → World → Prop), (∀ a' w' E', Inv keep w' E' st' a' → Evo keep w E w' E' → N a' w') →
    if Region.wanted o (yielded ops a.tmps) = true then o.wp P a w N Q else N (a.put o.dst undef) w
/-- Alike in kind and in size. -/
def OLk : Option Obj' → Option Obj' → Prop
  | none, none => True
  | some (.row k xs), some (.row k' ys) => k = k' ∧ xs.length = ys.length
  | some (.box cs), some (.box ds) => cs.length = ds.length
  | _, _ => False
theorem OLk.refl (o : Option Obj') : OLk o o := by
  cases o with
  | none => trivial
  | some o => cases o with
    | row k xs => exact ⟨rfl, rfl⟩
    | box cs => exact rfl
theorem OLk.trans {a b c : Option Obj'} (h : OLk a b) (k : OLk b c) : OLk a c := by
  cases a with
  | none => cases b with
    | none => exact k
    | some b => exact h.elim
  | some a => cases b with
    | none => cases a <;> exact h.elim
    | some b => cases c with
      | none => cases b <;> exact k.elim
      | some c => cases a with
        | row _ _ => cases b with
          | row _ _ => cases c with
            | row _ _ => exact ⟨h.1.trans k.1, h.2.trans k.2⟩
            | box _ => exact k.elim
          | box _ => exact h.elim
        | box _ => cases b with
          | row _ _ => exact h.elim
          | box _ => cases c with
            | row _ _ => exact k.elim
            | box _ => exact Eq.trans h k
theorem OLk.symm {a b : Option Obj'} (h : OLk a b) : OLk b a := by
  cases a with
  | none => cases b with
    | none => trivial
    | some b => exact h.elim
  | some a => cases b with
    | none => cases a <;> exact h.elim
    | some b => cases a with
      | row _ _ => cases b with
        | row _ _ => exact ⟨h.1.symm, h.2.symm⟩
        | box _ => exact h.elim
      | box _ => cases b with
        | row _ _ => exact h.elim
        | box _ => exact Eq.symm h
def LocT (P : Program) (ops : Array Oper) (o : Oper) (st : St) (f : Ft) : Prop :=
  ((f.hv = false → ∀ t x, lk f.wM t = some x → OLk x (lk st.m t)) ∧ ∀ t cs, lk f.wM t = some (some (.box cs)) → ∀ d, AV.holdsL d cs = true → d ∈ f.hs) ∧
  ∀ s : St, s.n = st.n → (∀ d ∈ f.rT, lk s.t d = lk st.t d) → (∀ t ∈ f.rM, lk s.m t = lk st.m t) → (∀ t ∈ f.sM, OLk (lk s.m t) (lk st.m t)) → (∀ d, f.nw = some d → Fresh s d) → OStep P ops o s (s.upd f)
inductive Rd (P : Program) (ops : Array Oper) : List Oper → St → List Ft → St → Prop where
  | nil (st : St) : Rd P ops [] st [] st
  | cons {o : Oper} {l : List Oper} {st st' : St} {f : Ft} {fs : List Ft} : LocT P ops o st f → Rd P ops l (st.upd f) fs st' → Rd P ops (o :: l) st (f :: fs) st'

/-! ### The check -/
def wKeyT (f : Ft) : List Nat := f.wT.toList.map (·.1)
def wKeyM (f : Ft) : List Nat := f.wM.map (·.1)
def apartL (a b : List Nat) : Bool := a.all fun x => !b.contains x
/-- What i writes, j neither reads nor writes. -/
def clear1 (fi fj : Ft) : Bool := apartL (wKeyT fi) fj.rT && apartL (wKeyT fi) (wKeyT fj) && apartL (wKeyM fi) fj.rM && apartL (wKeyM fi) (wKeyM fj)
/-- What is written holds no such tag. -/
def noHold (d : Nat) (f : Ft) : Bool := (f.wT.toList.all fun p => !p.2.holds d) && !f.hs.contains d && !(wKeyM f).contains d
def ordOk (ops : Array Oper) (A : Array Nat) : Bool :=
  (List.range ops.size).all fun j => match ops[j]? with
    | some o => (o.after.toList.all fun e => !Region.binds .any e || decide (e.on < j)) && (List.range ops.size).all fun k => !(A.getD j 0).testBit k || o.after.toList.any fun e => Region.binds .any e && (e.on == k || (A.getD e.on 0).testBit k)
    | none => false
def pairOk (n : Nat) (A : Array Nat) (fs : List Ft) : Bool :=
  (List.range n).all fun i => (List.range n).all fun j => i == j || (A.getD j 0).testBit i || (A.getD i 0).testBit j || match fs[i]?, fs[j]? with
    | some fi, some fj => clear1 fi fj
    | _, _ => false
/-- Those that make or end tags: nothing reads the kind of such a tag; a tag that is made was none, and is held by nothing but what comes behind it. -/
def newOk (D : List Nat) (n : Nat) (A : Array Nat) (fs : List Ft) : Bool :=
  (List.range n).all fun i => match fs[i]? with
    | some fi => (!fi.hv || fs.all fun fj => apartL (wKeyM fi) fj.sM) && match fi.nw with
      | some d => D.contains d && (List.range n).all fun j => i == j || (A.getD j 0).testBit i || match fs[j]? with
        | some fj => noHold d fj
        | none => true
      | none => true
    | none => true
def chk (D : List Nat) (ops : Array Oper) (fs : List Ft) : Bool := ordOk ops (Region.before ops) && pairOk ops.size (Region.before ops) fs && fs.length == ops.size && newOk D ops.size (Region.before ops) fs

section
variable {P : Program} {ops : Array Oper} {A : Array Nat} {fs : List Ft} {n : Nat}
theorem ordOk_spec (h : ordOk ops A = true) {j : Nat} {o : Oper} (ho : ops[j]? = some o) : (∀ e ∈ o.after, Region.binds .any e = true → e.on < j) ∧ ∀ k, k < ops.size → (A.getD j 0).testBit k = true → ∃ e ∈ o.after, Region.binds .any e = true ∧ (e.on = k ∨ (A.getD e.on 0).testBit k = true) := by
  unfold ordOk at h
  rw [List.all_eq_true] at h
  have hj : j < ops.size := (Array.getElem?_eq_some_iff.1 ho).1
  have := h j (List.mem_range.2 hj)
  rw [ho] at this
  simp only [Bool.and_eq_true, List.all_eq_true, Bool.or_eq_true, Bool.not_eq_true', decide_eq_true_eq, List.any_eq_true, List.mem_range] at this
  obtain ⟨h1, h2⟩ := this
  refine ⟨fun e he hb => ?_, fun k hk ht => ?_⟩
  · rcases h1 e (by simpa using he) with h | h
    · rw [hb] at h; cases h
    · exact h
  · rcases h2 k hk with h | ⟨e, he, hb, h⟩
    · rw [ht] at h; cases h
    · exact ⟨e, by simpa using he, hb, h.imp (fun h => by simpa using h) id⟩
theorem anc_lt (h : ordOk ops A = true) : ∀ (j k : Nat), j < ops.size → k < ops.size → (A.getD j 0).testBit k = true → k < j := by
  intro j
  induction j using Nat.strongRecOn with
  | _ j ih =>
    intro k hj hk ht
    obtain ⟨h1, h2⟩ := ordOk_spec h (Array.getElem?_eq_getElem hj)
    obtain ⟨e, he, hb, h3⟩ := h2 k hk ht
    have h4 := h1 e he hb
    rcases h3 with rfl | h3
    · exact h4
    · have := ih e.on h4 k (by omega) hk h3; omega
/-- What is done is done with all ahead of it. -/
def Closed (ops : Array Oper) (D : Nat → Bool) : Prop := ∀ (j : Nat) (o : Oper), ops[j]? = some o → D j = true → ∀ e ∈ o.after, Region.binds .any e = true → D e.on = true
theorem anc_done (h : ordOk ops A = true) {D : Nat → Bool} (hD : Closed ops D) : ∀ (j k : Nat), j < ops.size → k < ops.size → D j = true → (A.getD j 0).testBit k = true → D k = true := by
  intro j
  induction j using Nat.strongRecOn with
  | _ j ih =>
    intro k hj hk hd ht
    obtain ⟨h1, h2⟩ := ordOk_spec h (Array.getElem?_eq_getElem hj)
    obtain ⟨e, he, hb, h3⟩ := h2 k hk ht
    have h4 := h1 e he hb
    have h5 := hD j _ (Array.getElem?_eq_getElem hj) hd e he hb
    rcases h3 with rfl | h3
    · exact h5
    · exact ih e.on h4 k (by omega) hk h5 h3
theorem pairOk_spec (h : pairOk n A fs = true) {i j : Nat} {fi fj : Ft} (hi : i < n) (hj : j < n) (hne : i ≠ j) (h1 : (A.getD j 0).testBit i = false) (h2 : (A.getD i 0).testBit j = false) (hfi : fs[i]? = some fi) (hfj : fs[j]? = some fj) : clear1 fi fj = true := by
  unfold pairOk at h
  rw [List.all_eq_true] at h
  have h3 := h i (List.mem_range.2 hi)
  rw [List.all_eq_true] at h3
  have h4 := h3 j (List.mem_range.2 hj)
  rw [h1, h2, hfi, hfj] at h4
  simpa [hne] using h4
theorem apartL_spec {a b : List Nat} (h : apartL a b = true) {x : Nat} (ha : x ∈ a) (hb : x ∈ b) : False := by
  unfold apartL at h
  rw [List.all_eq_true] at h
  have := h x ha
  simp only [Bool.not_eq_true', List.contains_eq_mem, decide_eq_false_iff_not] at this
  exact this hb
/-- What a key holds, once those of D have been done. -/
def vT {α : Type} (f0 : Nat → Option α) (ws : Nat → List (Nat × α)) (D : Nat → Bool) : Nat → Nat → Option α
  | 0, d => f0 d
  | k + 1, d => if D k = true then (match lk (ws k) d with | some x => some x | none => vT f0 ws D k d) else vT f0 ws D k d
theorem vT_same {α : Type} (f0 : Nat → Option α) (ws : Nat → List (Nat × α)) {D D' : Nat → Bool} {d : Nat} : ∀ k, (∀ j, j < k → (D j = D' j ∨ lk (ws j) d = none)) → vT f0 ws D k d = vT f0 ws D' k d
  | 0, _ => rfl
  | k + 1, h => by
    simp only [vT]
    rw [vT_same f0 ws k (fun j hj => h j (by omega))]
    rcases h k (by omega) with h | h
    · rw [h]
    · rw [h]; simp
theorem vT_stop {α : Type} (f0 : Nat → Option α) (ws : Nat → List (Nat × α)) {D : Nat → Bool} {d i : Nat} : ∀ k, (∀ j, i ≤ j → j < i + k → D j = true → lk (ws j) d = none) → vT f0 ws D (i + k) d = vT f0 ws D i d
  | 0, _ => rfl
  | k + 1, h => by
    rw [← Nat.add_assoc]
    simp only [vT]
    rw [vT_stop f0 ws k (fun j h1 h2 h3 => h j h1 (by omega) h3)]
    split
    · rename_i hd; rw [h (i + k) (by omega) (by omega) hd]
    · rfl
/-- One more is done. -/
theorem vT_one {α : Type} (f0 : Nat → Option α) (ws : Nat → List (Nat × α)) {D : Nat → Bool} {d i : Nat} (hi : D i = false) (hc : ∀ j, i < j → D j = true → ∀ x, lk (ws j) d = some x → lk (ws i) d = none) : ∀ k, vT f0 ws (fun j => D j || j == i) (i + 1 + k) d = match lk (ws i) d with | some x => some x | none => vT f0 ws D (i + 1 + k) d
  | 0 => by
    simp only [Nat.add_zero, vT]
    have h0 : vT f0 ws (fun j => D j || j == i) i d = vT f0 ws D i d := vT_same f0 ws i (fun j hj => .inl (by
      have : (j == i) = false := by simp; omega
      simp [this]))
    rw [h0]
    simp [hi]
  | k + 1 => by
    rw [show i + 1 + (k + 1) = i + 1 + k + 1 by omega]
    simp only [vT]
    rw [vT_one f0 ws hi hc k]
    have : ((i + 1 + k) == i) = false := by simp; omega
    simp only [this, Bool.or_false]
    cases hd : D (i + 1 + k) with
    | false => simp
    | true =>
      simp only [if_true]
      cases hl : lk (ws (i + 1 + k)) d with
      | none => rfl
      | some x => rw [hc _ (by omega) hd x hl]
end

section
variable {P : Program} {ops : Array Oper} {st st' : St} {fs : List Ft}
theorem vT_like (f0 : Nat → Option (Option Obj')) (ws : Nat → List (Nat × Option Obj')) (D : Nat → Bool) (d : Nat) {o : Option Obj'} (h0 : f0 d = some o) (h : ∀ j x, lk (ws j) d = some x → OLk x o) : ∀ k, ∃ x, vT f0 ws D k d = some x ∧ OLk x o
  | 0 => ⟨o, h0, OLk.refl _⟩
  | k + 1 => by
    obtain ⟨x, hx, ih⟩ := vT_like f0 ws D d h0 h k
    simp only [vT]
    split
    · split
      · rename_i y hy; exact ⟨y, rfl, h k y hy⟩
      · exact ⟨x, hx, ih⟩
    · exact ⟨x, hx, ih⟩
theorem vT_from {α : Type} (f0 : Nat → Option α) (ws : Nat → List (Nat × α)) (D : Nat → Bool) (d : Nat) {x : α} : ∀ k, vT f0 ws D k d = some x → f0 d = some x ∨ ∃ j, j < k ∧ D j = true ∧ lk (ws j) d = some x
  | 0, h => .inl h
  | k + 1, h => by
    simp only [vT] at h
    split at h
    · rename_i hD
      split at h
      · rename_i y hy
        simp only [Option.some.injEq] at h; subst h
        exact .inr ⟨k, by omega, hD, hy⟩
      · rcases vT_from f0 ws D d k h with h | ⟨j, h1, h2, h3⟩
        · exact .inl h
        · exact .inr ⟨j, by omega, h2, h3⟩
    · rcases vT_from f0 ws D d k h with h | ⟨j, h1, h2, h3⟩
      · exact .inl h
      · exact .inr ⟨j, by omega, h2, h3⟩
/-- The state behind so many, in the text's order. -/
def pre (st : St) : List Ft → Nat → St
  | _, 0 => st
  | [], _ + 1 => st
  | f :: fs, k + 1 => pre (st.upd f) fs k
theorem Rd.get : ∀ {l : List Oper} {st st' : St} {fs : List Ft}, Rd P ops l st fs st' → fs.length = l.length ∧ pre st fs fs.length = st' ∧ ∀ (i : Nat) (o : Oper), l[i]? = some o → ∃ f, fs[i]? = some f ∧ LocT P ops o (pre st fs i) f
  | _, _, _, _, .nil st => ⟨rfl, rfl, fun i o h => by simp at h⟩
  | _, _, _, _, .cons (o := o) (st := st) (f := f) (fs := fs) h1 h2 => by
    obtain ⟨k1, k2, k3⟩ := Rd.get h2
    refine ⟨by simp [k1], k2, fun i o' ho => ?_⟩
    cases i with
    | zero => simp at ho; subst ho; exact ⟨f, rfl, h1⟩
    | succ i => exact k3 i o' (by simpa using ho)
def wsT (fs : List Ft) (k : Nat) : List (Nat × AV) := match fs[k]? with | some f => f.wT.toList | none => []
def wsM (fs : List Ft) (k : Nat) : List (Nat × Option Obj') := match fs[k]? with | some f => f.wM | none => []
def mI (st : St) (t : Nat) : Option (Option Obj') := some (lk st.m t)
theorem pre_n : ∀ (fs : List Ft) (st : St) (k : Nat), (pre st fs k).n = st.n
  | _, st, 0 => by unfold pre; rfl
  | [], st, k + 1 => rfl
  | f :: fs, st, k + 1 => by simp only [pre]; rw [pre_n fs]; rfl
theorem vT_cons {α : Type} (f0 : Nat → Option α) (ws : Nat → List (Nat × α)) : ∀ (k d : Nat), vT f0 ws (fun _ => true) (k + 1) d = vT (fun d => match lk (ws 0) d with | some x => some x | none => f0 d) (fun j => ws (j + 1)) (fun _ => true) k d
  | 0, d => by simp [vT]
  | k + 1, d => by
    have := vT_cons f0 ws k d
    rw [vT]
    rw [this]
    simp [vT]
theorem pre_t : ∀ (fs : List Ft) (st : St) (k d : Nat), k ≤ fs.length → lk (pre st fs k).t d = vT (lk st.t) (wsT fs) (fun _ => true) k d
  | fs, st, 0, d, _ => by unfold pre; rfl
  | [], st, k + 1, d, h => by simp at h
  | f :: fs, st, k + 1, d, h => by
    simp only [pre]
    rw [pre_t fs (st.upd f) k d (by simpa using h), vT_cons]
    congr 1
    funext e
    simp only [St.upd, lk_upo]
    rfl
theorem pre_m : ∀ (fs : List Ft) (st : St) (k d : Nat), k ≤ fs.length → some (lk (pre st fs k).m d) = vT (mI st) (wsM fs) (fun _ => true) k d
  | fs, st, 0, d, _ => by unfold pre; rfl
  | [], st, k + 1, d, h => by simp at h
  | f :: fs, st, k + 1, d, h => by
    simp only [pre]
    rw [pre_m fs (st.upd f) k d (by simpa using h), vT_cons]
    congr 1
    funext e
    simp only [mI, St.upd, lk_upm]
    rw [show wsM (f :: fs) 0 = f.wM from rfl]
    cases lk f.wM e <;> rfl

/-- A state that is where those of D have been done. -/
def IsAt (st : St) (fs : List Ft) (D : Nat → Bool) (s : St) : Prop :=
  s.n = st.n ∧ (∀ d, lk s.t d = vT (lk st.t) (wsT fs) D fs.length d) ∧ ∀ t, some (lk s.m t) = vT (mI st) (wsM fs) D fs.length t

theorem draw_core {Ds : List Nat} (hD0 : ∀ d ∈ Ds, Fresh st d) (hR : Rd P ops ops.toList st fs st') (hc : chk Ds ops fs = true) {K : St → Prop} (hK : K st') {keep : Nat → Prop} {w0 : World} {E0 : Env} :
    ∀ (fuel : Nat) (listed : Array Bool) (s : St) (a : Act) (w : World) (E : Env), listed.size = ops.size → Closed ops (fun i => listed.getD i false) → (∃ un : List Nat, un.length = fuel ∧ ∀ i, i < ops.size → listed.getD i false = false → i ∈ un) → Inv keep w E s a → Evo keep w0 E0 w E → IsAt st fs (fun i => listed.getD i false) s →
      wpAny P .any ops (fun e a' w' => ∃ st' E', Inv keep w' E' st' a' ∧ Evo keep w0 E0 w' E' ∧ e = .normal ∧ K st') fuel listed a w := by
  obtain ⟨hlen, hpre, hget⟩ := hR.get
  simp only [chk, Bool.and_eq_true, beq_iff_eq] at hc
  obtain ⟨⟨⟨hord, hpair⟩, hfl⟩, hnew⟩ := hc
  simp only [Array.length_toList, Array.getElem?_toList] at hlen hget
  -- when nothing may come up, all has been done
  have done : ∀ (listed : Array Bool) (s : St) (a : Act) (w : World) (E : Env), listed.size = ops.size → Region.ready .any ops listed = [] → Inv keep w E s a → Evo keep w0 E0 w E → IsAt st fs (fun i => listed.getD i false) s → ∃ st' E', Inv keep w E' st' a ∧ Evo keep w0 E0 w E' ∧ Exit.normal = Exit.normal ∧ K st' := by
    intro listed s a w E hsz hr hI hE hat
    have hall : ∀ i, i < ops.size → listed.getD i false = true := by
      intro i
      induction i using Nat.strongRecOn with
      | _ i ih =>
        intro hi
        cases hl : listed.getD i false with
        | true => rfl
        | false =>
          exfalso
          have : i ∈ Region.ready .any ops listed := by
            rw [mem_ready]
            refine ⟨?_, ops[i], Array.getElem?_eq_getElem hi, fun e he hb => ?_⟩
            · rw [Array.getD_eq_getD_getElem?] at hl ⊢
              rw [Array.getElem?_eq_getElem (by omega)] at hl ⊢
              exact hl
            · have := (ordOk_spec hord (Array.getElem?_eq_getElem hi)).1 e he hb
              exact ih e.on this (by omega)
          rw [hr] at this
          cases this
    refine ⟨st', E, hI.le ⟨?_, fun d x hx => ?_, fun t o ho => ?_⟩, hE, rfl, hK⟩
    · rw [← hpre, pre_n]; exact hat.1
    · rw [hat.2.1 d, ← hx, ← hpre, pre_t fs st _ d (Nat.le_refl _)]
      exact vT_same _ _ _ (fun j hj => .inl (hall j (by omega)))
    · refine Option.some.inj ?_
      rw [hat.2.2 t, ← ho, ← hpre, pre_m fs st _ t (Nat.le_refl _)]
      exact vT_same _ _ _ (fun j hj => .inl (hall j (by omega)))
  intro fuel
  induction fuel with
  | zero =>
    intro listed s a w E hsz hcl ⟨un, hun, hmem⟩ hI hE hat
    have hun0 : un = [] := List.eq_nil_of_length_eq_zero hun
    subst hun0
    have hr : Region.ready .any ops listed = [] := by
      rw [List.eq_nil_iff_forall_not_mem]
      intro i hi
      rw [mem_ready] at hi
      obtain ⟨h1, o, ho, _⟩ := hi
      have hlt : i < ops.size := (Array.getElem?_eq_some_iff.1 ho).1
      have := hmem i hlt (by
        rw [Array.getD_eq_getD_getElem?] at h1 ⊢
        rw [Array.getElem?_eq_getElem (by omega)] at h1 ⊢
        exact h1)
      cases this
    exact ⟨hr, done listed s a w E hsz hr hI hE hat⟩
  | succ fuel ih =>
    intro listed s a w E hsz hcl ⟨un, hun, hmem⟩ hI hE hat
    refine ⟨fun hr => done listed s a w E hsz hr hI hE hat, fun i hi => ?_⟩
    rw [mem_ready] at hi
    obtain ⟨hnl, o, ho, hpr⟩ := hi
    have hlt : i < ops.size := (Array.getElem?_eq_some_iff.1 ho).1
    have hnl' : listed.getD i false = false := by
      rw [Array.getD_eq_getD_getElem?] at hnl ⊢
      rw [Array.getElem?_eq_getElem (by omega)] at hnl ⊢
      exact hnl
    obtain ⟨f, hf, hloc⟩ := hget i o ho
    -- those ahead of i have been done
    have hanc : ∀ k, k < ops.size → ((Region.before ops).getD i 0).testBit k = true → listed.getD k false = true := fun k hk ht => by
      obtain ⟨h1, h2⟩ := ordOk_spec hord ho
      obtain ⟨e, he, hb, h3⟩ := h2 k hk ht
      have h4 := hpr e he hb
      rcases h3 with rfl | h3
      · exact h4
      · exact anc_done hord hcl e.on k (by have := h1 e he hb; omega) hk h4 h3
    have notanc : ∀ k, k < ops.size → listed.getD k false = true → ((Region.before ops).getD k 0).testBit i = false := fun k hk hd => by
      cases ht : ((Region.before ops).getD k 0).testBit i with
      | false => rfl
      | true => rw [anc_done hord hcl k i hk hlt hd ht] at hnl'; cases hnl'
    -- those that may be out of order have nothing to do with i
    have free : ∀ k fk, k < ops.size → fs[k]? = some fk → (k < i ∧ listed.getD k false = false ∨ i < k ∧ listed.getD k false = true) → clear1 fk f = true := fun k fk hk hfk hor => by
      refine pairOk_spec hpair hk hlt (by omega) ?_ ?_ hfk hf
      · cases ht : ((Region.before ops).getD i 0).testBit k with
        | false => rfl
        | true =>
          rcases hor with ⟨_, h2⟩ | ⟨h1, _⟩
          · rw [hanc k hk ht] at h2; cases h2
          · have := anc_lt hord i k hlt hk ht; omega
      · rcases hor with ⟨h1, h2⟩ | ⟨h1, h2⟩
        · cases ht : ((Region.before ops).getD k 0).testBit i with
          | false => rfl
          | true => have := anc_lt hord k i hk hlt ht; omega
        · exact notanc k hk h2
    have keyT : ∀ k fk x d, fs[k]? = some fk → lk (wsT fs k) d = some x → d ∈ wKeyT fk := fun k fk x d hk hx => by
      have := lk_mem hx
      simp only [wsT, hk] at this
      exact List.mem_map.2 ⟨_, this, rfl⟩
    have keyM : ∀ k fk x d, fs[k]? = some fk → lk (wsM fs k) d = some x → d ∈ wKeyM fk := fun k fk x d hk hx => by
      have := lk_mem hx
      simp only [wsM, hk] at this
      exact List.mem_map.2 ⟨_, this, rfl⟩
    have hfs : ∀ k, k < ops.size → ∃ fk, fs[k]? = some fk := fun k hk => ⟨_, List.getElem?_eq_getElem (by omega)⟩
    have hsplit : fs.length = i + (fs.length - i) := by omega
    -- what i reads is as the text's order has it
    have agT : ∀ d ∈ f.rT, lk s.t d = lk (pre st fs i).t d := fun d hd => by
      rw [hat.2.1 d, pre_t fs st i d (by omega)]
      rw [hsplit, vT_stop (lk st.t) (wsT fs) (fs.length - i) (fun j h1 h2 h3 => by
        cases hl : lk (wsT fs j) d with
        | none => rfl
        | some x =>
          obtain ⟨fk, hfk⟩ := hfs j (by omega)
          have hne : j ≠ i := fun e => by rw [e] at h3; rw [hnl'] at h3; cases h3
          have := free j fk (by omega) hfk (.inr ⟨by omega, h3⟩)
          simp only [clear1, Bool.and_eq_true] at this
          exact (apartL_spec this.1.1.1 (keyT j fk x d hfk hl) hd).elim)]
      exact vT_same _ _ _ (fun j hj => by
        cases hdj : listed.getD j false with
        | true => exact .inl rfl
        | false =>
          right
          cases hl : lk (wsT fs j) d with
          | none => rfl
          | some x =>
            obtain ⟨fk, hfk⟩ := hfs j (by omega)
            have := free j fk (by omega) hfk (.inl ⟨hj, hdj⟩)
            simp only [clear1, Bool.and_eq_true] at this
            exact (apartL_spec this.1.1.1 (keyT j fk x d hfk hl) hd).elim)
    have agM : ∀ d ∈ f.rM, lk s.m d = lk (pre st fs i).m d := fun d hd => by
      refine Option.some.inj ?_
      rw [hat.2.2 d, pre_m fs st i d (by omega)]
      rw [hsplit, vT_stop (mI st) (wsM fs) (fs.length - i) (fun j h1 h2 h3 => by
        cases hl : lk (wsM fs j) d with
        | none => rfl
        | some x =>
          obtain ⟨fk, hfk⟩ := hfs j (by omega)
          have hne : j ≠ i := fun e => by rw [e] at h3; rw [hnl'] at h3; cases h3
          have := free j fk (by omega) hfk (.inr ⟨by omega, h3⟩)
          simp only [clear1, Bool.and_eq_true] at this
          exact (apartL_spec this.1.2 (keyM j fk x d hfk hl) hd).elim)]
      exact vT_same _ _ _ (fun j hj => by
        cases hdj : listed.getD j false with
        | true => exact .inl rfl
        | false =>
          right
          cases hl : lk (wsM fs j) d with
          | none => rfl
          | some x =>
            obtain ⟨fk, hfk⟩ := hfs j (by omega)
            have := free j fk (by omega) hfk (.inl ⟨hj, hdj⟩)
            simp only [clear1, Bool.and_eq_true] at this
            exact (apartL_spec this.1.2 (keyM j fk x d hfk hl) hd).elim)
    -- memory keeps its kind and its size
    have hnewi : ∀ k fk, k < ops.size → fs[k]? = some fk → (fk.hv = true → ∀ fj ∈ fs, apartL (wKeyM fk) fj.sM = true) ∧ ∀ d, fk.nw = some d → d ∈ Ds ∧ ∀ j fj, j < ops.size → fs[j]? = some fj → k = j ∨ ((Region.before ops).getD j 0).testBit k = true ∨ noHold d fj = true := fun k fk hk hfk => by
      unfold newOk at hnew
      rw [List.all_eq_true] at hnew
      have := hnew k (List.mem_range.2 hk)
      rw [hfk] at this
      simp only [Bool.and_eq_true, Bool.or_eq_true, Bool.not_eq_true'] at this
      refine ⟨fun hv fj hj => ?_, fun d hd => ?_⟩
      · rcases this.1 with h | h
        · rw [hv] at h; cases h
        · rw [List.all_eq_true] at h; exact h fj hj
      · have h2 := this.2
        rw [hd] at h2
        simp only [Bool.and_eq_true, List.contains_eq_mem, decide_eq_true_eq] at h2
        refine ⟨h2.1, fun j fj hj hfj => ?_⟩
        have h3 := h2.2
        rw [List.all_eq_true] at h3
        have h4 := h3 j (List.mem_range.2 hj)
        rw [hfj] at h4
        simp only [Bool.or_eq_true, beq_iff_eq] at h4
        rcases h4 with (h4 | h4) | h4
        · exact .inl h4
        · exact .inr (.inl h4)
        · exact .inr (.inr h4)
    have hlike : ∀ t ∈ f.sM, OLk (lk s.m t) (lk (pre st fs i).m t) := fun t ht => by
      have hwr : ∀ j x, lk (wsM fs j) t = some x → OLk x (lk st.m t) := by
        intro j
        induction j using Nat.strongRecOn with
        | _ j ihj =>
          intro x hx
          by_cases hj : j < ops.size
          · obtain ⟨fj, hfj, hlocj⟩ := hget j ops[j] (Array.getElem?_eq_getElem hj)
            have hlight : fj.hv = false := by
              cases hh : fj.hv with
              | false => rfl
              | true => exact (apartL_spec ((hnewi j fj hj hfj).1 hh f (List.mem_of_getElem? hf)) (keyM j fj x t hfj hx) ht).elim
            have h1 := hlocj.1.1 hlight t x (by simpa [wsM, hfj] using hx)
            refine h1.trans ?_
            have hpm := pre_m fs st j t (by omega)
            have hcut : vT (mI st) (wsM fs) (fun _ => true) j t = vT (mI st) (fun i => if i < j then wsM fs i else []) (fun _ => true) j t := by
              have key : ∀ k, k ≤ j → vT (mI st) (wsM fs) (fun _ => true) k t = vT (mI st) (fun i => if i < j then wsM fs i else []) (fun _ => true) k t := by
                intro k
                induction k with
                | zero => intro _; rfl
                | succ k ihk =>
                  intro hkj
                  simp only [vT]
                  rw [ihk (by omega), if_pos (show k < j by omega)]
              exact key j (Nat.le_refl _)
            obtain ⟨y, hy, hly⟩ := vT_like (mI st) (fun i => if i < j then wsM fs i else []) (fun _ => true) t (o := lk st.m t) rfl (fun j' z hz => by
              split at hz
              · rename_i hlt'; exact ihj j' hlt' z hz
              · simp [lk] at hz) j
            rw [hcut, hy] at hpm
            rw [Option.some.inj hpm]
            exact hly
          · simp only [wsM] at hx
            rw [List.getElem?_eq_none (by omega)] at hx
            simp [lk] at hx
      have h1 := hat.2.2 t
      have h2 := pre_m fs st i t (by omega)
      obtain ⟨y, hy, hly⟩ := vT_like (mI st) (wsM fs) (fun i => listed.getD i false) t (o := lk st.m t) rfl hwr fs.length
      obtain ⟨z, hz, hlz⟩ := vT_like (mI st) (wsM fs) (fun _ => true) t (o := lk st.m t) rfl hwr i
      rw [hy] at h1
      rw [hz] at h2
      rw [Option.some.inj h1, Option.some.inj h2]
      exact hly.trans hlz.symm
    have hfresh : ∀ d, f.nw = some d → Fresh s d := fun d hd => by
      obtain ⟨hdD, hno⟩ := (hnewi i f hlt hf).2 d hd
      obtain ⟨g1, g2, g3, g4⟩ := hD0 d hdD
      have hdone : ∀ j, j < fs.length → listed.getD j false = true → ∃ fj, fs[j]? = some fj ∧ noHold d fj = true := fun j hj hdj => by
        obtain ⟨fj, hfj⟩ := hfs j (by omega)
        refine ⟨fj, hfj, ?_⟩
        rcases hno j fj (by omega) hfj with h | h | h
        · subst h; rw [hnl'] at hdj; cases hdj
        · rw [notanc j (by omega) hdj] at h; cases h
        · exact h
      refine ⟨g1, ?_, fun e x hx => ?_, fun t cs hx => ?_⟩
      · have h1 := hat.2.2 d
        rcases vT_from _ _ _ _ _ h1.symm with h2 | ⟨j, h2, h3, h4⟩
        · exact (Option.some.inj h2).symm.trans g2
        · obtain ⟨fj, hfj, hn⟩ := hdone j h2 h3
          have := keyM j fj _ d hfj h4
          simp only [noHold, Bool.and_eq_true, Bool.not_eq_true', List.contains_eq_mem, decide_eq_false_iff_not] at hn
          exact (hn.2 this).elim
      · have h1 := hat.2.1 e
        rw [hx] at h1
        rcases vT_from _ _ _ _ _ h1.symm with h2 | ⟨j, h2, h3, h4⟩
        · exact g3 e x h2
        · obtain ⟨fj, hfj, hn⟩ := hdone j h2 h3
          have hm := lk_mem h4
          simp only [wsT, hfj] at hm
          simp only [noHold, Bool.and_eq_true, List.all_eq_true] at hn
          simpa using hn.1.1 _ hm
      · have h1 := hat.2.2 t
        rw [hx] at h1
        rcases vT_from _ _ _ _ _ h1.symm with h2 | ⟨j, h2, h3, h4⟩
        · exact g4 t cs (Option.some.inj h2)
        · obtain ⟨fj, hfj, hn⟩ := hdone j h2 h3
          simp only [wsM, hfj] at h4
          simp only [noHold, Bool.and_eq_true, Bool.not_eq_true', List.contains_eq_mem, decide_eq_false_iff_not] at hn
          obtain ⟨f', hf', hlocj⟩ := hget j ops[j] (Array.getElem?_eq_getElem (by omega))
          rw [hfj] at hf'
          simp only [Option.some.injEq] at hf'; subst hf'
          cases hh : AV.holdsL d cs with
          | false => rfl
          | true => exact (hn.1.2 (hlocj.1.2 t cs h4 d hh)).elim
    have hstep := hloc.2 s (by rw [hat.1, pre_n]) agT agM hlike hfresh keep w E a hI
    -- where we stand behind it
    have hD : ∀ j, (listed.setIfInBounds i true).getD j false = (listed.getD j false || j == i) := fun j => by
      rw [Array.getD_eq_getD_getElem?, Array.getElem?_setIfInBounds]
      by_cases hij : i = j
      · subst hij; simp [hsz, hlt]
      · rw [if_neg hij, ← Array.getD_eq_getD_getElem?]
        have : (j == i) = false := by simp; omega
        rw [this, Bool.or_false]
    have hsplit2 : fs.length = i + 1 + (fs.length - (i + 1)) := by omega
    have hat' : IsAt st fs (fun j => (listed.setIfInBounds i true).getD j false) (s.upd f) := by
      have hfun : (fun j => (listed.setIfInBounds i true).getD j false) = (fun j => (fun j => listed.getD j false) j || j == i) := funext hD
      rw [hfun]
      refine ⟨hat.1, fun d => ?_, fun d => ?_⟩
      · simp only [St.upd, lk_upo]
        rw [hsplit2, vT_one (lk st.t) (wsT fs) hnl' (fun j h1 h3 x hl => by
          by_cases hj : j < ops.size
          · obtain ⟨fk, hfk⟩ := hfs j hj
            have hcl := free j fk hj hfk (.inr ⟨h1, h3⟩)
            simp only [clear1, Bool.and_eq_true] at hcl
            cases hl2 : lk (wsT fs i) d with
            | none => rfl
            | some y => exact (apartL_spec hcl.1.1.2 (keyT j fk x d hfk hl) (keyT i f y d hf hl2)).elim
          · simp only [wsT] at hl
            rw [List.getElem?_eq_none (by omega)] at hl
            simp [lk] at hl), ← hsplit2, ← hat.2.1 d]
        simp only [wsT, hf]
      · simp only [St.upd, lk_upm]
        rw [hsplit2, vT_one (mI st) (wsM fs) hnl' (fun j h1 h3 x hl => by
          by_cases hj : j < ops.size
          · obtain ⟨fk, hfk⟩ := hfs j hj
            have hcl := free j fk hj hfk (.inr ⟨h1, h3⟩)
            simp only [clear1, Bool.and_eq_true] at hcl
            cases hl2 : lk (wsM fs i) d with
            | none => rfl
            | some y => exact (apartL_spec hcl.2 (keyM j fk x d hfk hl) (keyM i f y d hf hl2)).elim
          · simp only [wsM] at hl
            rw [List.getElem?_eq_none (by omega)] at hl
            simp [lk] at hl), ← hsplit2, ← hat.2.2 d]
        simp only [wsM, hf]
        cases lk f.wM d <;> rfl
    have next : ∀ a' w' E', Inv keep w' E' (s.upd f) a' → Evo keep w E w' E' → wpAny P .any ops (fun e a' w' => ∃ st' E', Inv keep w' E' st' a' ∧ Evo keep w0 E0 w' E' ∧ e = .normal ∧ K st') fuel (listed.setIfInBounds i true) a' w' := fun a' w' E' k1 k2 => by
      refine ih _ (s.upd f) a' w' E' (by simpa using hsz) ?_ ⟨un.erase i, ?_, ?_⟩ k1 (hE.trans k2) hat'
      · intro j oj hoj hdj e he hb
        simp only [hD] at hdj ⊢
        simp only [Bool.or_eq_true, beq_iff_eq] at hdj ⊢
        rcases hdj with hdj | rfl
        · exact .inl (hcl j oj hoj hdj e he hb)
        · rw [ho] at hoj; simp only [Option.some.injEq] at hoj; subst hoj
          exact .inl (hpr e he hb)
      · rw [List.length_erase_of_mem (hmem i hlt hnl'), hun]; rfl
      · intro j hj hl
        rw [hD] at hl
        simp only [Bool.or_eq_false_iff, beq_eq_false_iff_ne, ne_eq] at hl
        exact (List.mem_erase_of_ne hl.2).2 (hmem j hj hl.1)
    have hs2 := hstep (wpAny P .any ops (fun e a' w' => ∃ st' E', Inv keep w' E' st' a' ∧ Evo keep w0 E0 w' E' ∧ e = .normal ∧ K st') fuel (listed.setIfInBounds i true)) (fun e a' w' => ∃ st' E', Inv keep w' E' st' a' ∧ Evo keep w0 E0 w' E' ∧ e = .normal ∧ K st') next
    unfold wpOp
    rw [ho]
    dsimp only
    split
    · rename_i hw; rw [if_pos hw] at hs2; exact .inl hs2
    · rename_i hw; rw [if_neg hw] at hs2; exact hs2

theorem Tr.draw {id : Nat} {Q : Exit → St → Prop} {Ds : List Nat} (hD0 : ∀ d ∈ Ds, Fresh st d) (hm : P.follows .mixedOrders = true) (hR : Rd P ops ops.toList st fs st') (hc : chk Ds ops fs = true) (hK : Q .normal st') : Tr P (.region id ops true) Q st := fun keep w E a hI => by
  have h0 : ∀ i, (Array.replicate ops.size false).getD i false = false := fun i => by
    rw [Array.getD_eq_getD_getElem?, Array.getElem?_replicate]; split <;> rfl
  refine wp_region_any hm ?_
  have := draw_core (K := fun st' => Q .normal st') (keep := keep) (w0 := w) (E0 := E) hD0 hR hc hK ops.size (Array.replicate ops.size false) st a { w with drawn := w.drawn + 1 } E (by simp) (fun j o _ hd => by have hd' := hd; simp only [h0] at hd'; cases hd') ⟨List.range ops.size, by simp, fun i hi _ => List.mem_range.2 hi⟩ hI.drew (Evo.drew _ _ _) ⟨rfl, fun d => ?_, fun t => ?_⟩
  · refine wpAny_mono' ?_ this
    rintro e a' w' ⟨st2, E2, h1, h2, rfl, h3⟩
    exact ⟨st2, E2, h1, h2, h3⟩
  · have := vT_stop (lk st.t) (wsT fs) (D := fun i => (Array.replicate ops.size false).getD i false) (d := d) (i := 0) fs.length (fun j _ _ hd => by rw [h0] at hd; cases hd)
    rw [Nat.zero_add] at this
    rw [this]; rfl
  · have := vT_stop (mI st) (wsM fs) (D := fun i => (Array.replicate ops.size false).getD i false) (d := t) (i := 0) fs.length (fun j _ _ hd => by rw [h0] at hd; cases hd)
    rw [Nat.zero_add] at this
    rw [this]; rfl
where
  wpOp_mono' {Q Q' : Exit → Act → World → Prop} {K K' : Act → World → Prop} (hq : ∀ e a w, Q e a w → Q' e a w) (hk : ∀ a w, K a w → K' a w) {i : Nat} {a : Act} {w : World} (h : wpOp P ops Q i K a w) : wpOp P ops Q' i K' a w := by
    unfold wpOp at h ⊢
    split at h
    · exact hk _ _ h
    · split at h
      · rename_i hw
        rw [if_pos hw]
        rcases h with h | ⟨h1, a0, w0, h2⟩
        · left
          unfold Oper.wp at h ⊢
          revert h
          generalize (execOp a.eval _).run P w = r
          intro h
          unfold Oper.upon at h ⊢
          split at h
          · exact hk _ _ h
          · exact hk _ _ h
          · exact hk _ _ h
          · refine Calls.mono h ?_
            intro e w' he
            cases e with
            | returned v => exact hk _ _ he
            | panicked c => exact hq _ _ _ he
            | outgrown => obtain ⟨a1, w1, h1⟩ := he; exact ⟨a1, w1, hq _ _ _ h1⟩
          · exact Rows.mono h fun v w' he => hk _ _ he
          · exact hq _ _ _ h
          · exact h.elim
        · exact .inr ⟨h1, a0, w0, hq _ _ _ h2⟩
      · rename_i hw
        rw [if_neg hw]
        exact hk _ _ h
  wpAny_mono' {Q Q' : Exit → Act → World → Prop} (hq : ∀ e a w, Q e a w → Q' e a w) : ∀ {fuel : Nat} {listed : Array Bool} {a : Act} {w : World}, wpAny P .any ops Q fuel listed a w → wpAny P .any ops Q' fuel listed a w
    | 0, _, _, _, h => ⟨h.1, hq _ _ _ h.2⟩
    | fuel + 1, _, _, _, h => ⟨fun hr => hq _ _ _ (h.1 hr), fun i hi => Tr.draw.wpOp_mono' hq (fun _ _ hk => Tr.draw.wpAny_mono' hq hk) (h.2 i hi)⟩
end
end Go.Proofs.YtfcojlagmmgagaaDoor.Ab
