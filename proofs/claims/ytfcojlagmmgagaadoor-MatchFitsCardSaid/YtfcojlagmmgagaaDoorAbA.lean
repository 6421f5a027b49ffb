/- The abstract layer, part A: abstract values, and when a value of the machine, in a world, is one of them. -/
import Derived.WalkKit
import Derived.Below
namespace Go.Proofs.YtfcojlagmmgagaaDoor.Ab
open Go.RowKit
set_option linter.unusedVariables false
set_option linter.unusedSimpArgs false

/-- What is shared: it is read, and never written again. 'ref x off': a pointer to the cell 'off' of x in memory. -/
inductive SV where
  | any
  | val (v : Value)
  | agg (xs : List SV)
  | lst (xs : List SV)
  | ref (x : SV) (off : Nat)
  | fn (f : FuncId) (caps : List SV)
  deriving Inhabited

def SV.cells : SV → List SV
  | .agg xs => xs
  | x => [x]
/-- May it stand in one cell? -/
def SV.one : SV → Bool
  | .val v => v.oneCell'
  | .lst _ | .ref .. | .fn .. => true
  | _ => false
/-- May it stand in so many cells? -/
def SV.fits (sz : Nat) (x : SV) : Bool := x.cells.length == sz && x.cells.all SV.one

/-- The cells of a value lie at an address. -/
def At (w : World) (u : Value) (a : Addr) : Prop := ∀ (j : Nat) (y : Value), u.cells[j]? = some y → w.cell? (a.add j) = some y

mutual
def RepS (w : World) (ok : Nat → Prop) : SV → Value → Prop
  | .any, _ => True
  | .val u, v => v = u
  | .agg xs, v => ∃ cs : Array Value, v = .agg cs ∧ RepL w ok xs cs.toList
  | .lst xs, v => ∃ (a : Option Addr) (c : Nat), v = .slice a xs.length c ∧ xs.length ≤ c ∧ (xs = [] ∨ ∃ (ad : Addr) (sz : Nat) (vs : List Value), a = some ad ∧ ok ad.block ∧ RepL w ok xs vs ∧
      ∀ (i : Nat) (u : Value), vs[i]? = some u → u.cells.size = sz ∧ At w u (ad.add (i * sz)))
  | .ref x off, v => ∃ (a : Addr) (u : Value), v = .pointer (some (a.add off)) ∧ ok a.block ∧ RepS w ok x u ∧ At w u a
  | .fn f caps, v => ∃ cs : Array Value, v = .func (.func f) #[] cs ∧ RepL w ok caps cs.toList
def RepL (w : World) (ok : Nat → Prop) : List SV → List Value → Prop
  | [], vs => vs = []
  | x :: xs, vs => ∃ v vs', vs = v :: vs' ∧ RepS w ok x v ∧ RepL w ok xs vs'
end

section
variable {w w' : World} {ok ok' : Nat → Prop}

theorem RepL.len : ∀ {xs : List SV} {vs : List Value}, RepL w ok xs vs → xs.length = vs.length
  | [], vs, h => by simp only [RepL] at h; subst h; rfl
  | x :: xs, vs, h => by
    simp only [RepL] at h
    obtain ⟨v, vs', rfl, _, h⟩ := h
    simp [RepL.len h]
theorem RepL.get : ∀ {xs : List SV} {vs : List Value}, RepL w ok xs vs → ∀ (i : Nat) (x : SV) (v : Value), xs[i]? = some x → vs[i]? = some v → RepS w ok x v
  | [], vs, h, i, x, v, hx, hv => by simp at hx
  | y :: xs, vs, h, i, x, v, hx, hv => by
    simp only [RepL] at h
    obtain ⟨u, vs', rfl, hy, h⟩ := h
    cases i with
    | zero => simp at hx hv; subst hx; subst hv; exact hy
    | succ i => simp at hx hv; exact RepL.get h i x v hx hv
theorem RepL.of : ∀ {xs : List SV} {vs : List Value}, xs.length = vs.length → (∀ (i : Nat) (x : SV) (v : Value), xs[i]? = some x → vs[i]? = some v → RepS w ok x v) → RepL w ok xs vs
  | [], vs, hl, _ => by simp only [RepL]; exact List.eq_nil_of_length_eq_zero hl.symm
  | x :: xs, [], hl, _ => by simp at hl
  | x :: xs, v :: vs, hl, h => by
    simp only [RepL]
    exact ⟨v, vs, rfl, h 0 x v rfl rfl, RepL.of (by simpa using hl) (fun i y u hy hu => h (i + 1) y u (by simpa using hy) (by simpa using hu))⟩
theorem RepL.nil : RepL w ok [] [] := by simp only [RepL]
theorem RepL.cons {x : SV} {xs : List SV} {v : Value} {vs : List Value} (h : RepS w ok x v) (hs : RepL w ok xs vs) : RepL w ok (x :: xs) (v :: vs) := by
  simp only [RepL]; exact ⟨v, vs, rfl, h, hs⟩
theorem RepL.at {xs : List SV} {vs : List Value} (h : RepL w ok xs vs) {i : Nat} {x : SV} (hx : xs[i]? = some x) : ∃ v, vs[i]? = some v ∧ RepS w ok x v := by
  have hi : i < vs.length := by rw [← h.len]; exact (List.getElem?_eq_some_iff.1 hx).1
  exact ⟨vs[i], List.getElem?_eq_getElem hi, h.get i x _ hx (List.getElem?_eq_getElem hi)⟩
theorem RepL.append {xs ys : List SV} {vs us : List Value} (h : RepL w ok xs vs) (k : RepL w ok ys us) : RepL w ok (xs ++ ys) (vs ++ us) := by
  refine RepL.of (by simp [h.len, k.len]) fun i x v hx hv => ?_
  have hl := h.len
  rcases Nat.lt_or_ge i xs.length with hi | hi
  · rw [List.getElem?_append_left hi] at hx
    rw [List.getElem?_append_left (by omega)] at hv
    exact h.get i x v hx hv
  · rw [List.getElem?_append_right hi] at hx
    rw [List.getElem?_append_right (by omega), ← hl] at hv
    exact k.get _ x v hx hv
theorem RepL.set {xs : List SV} {vs : List Value} (h : RepL w ok xs vs) (i : Nat) {x : SV} {v : Value} (hx : RepS w ok x v) : RepL w ok (xs.set i x) (vs.set i v) := by
  refine RepL.of (by simp [h.len]) fun j y u hy hu => ?_
  have hl := h.len
  rw [List.getElem?_set] at hy hu
  by_cases hij : i = j
  · rw [if_pos hij] at hy hu
    split at hy
    · split at hu
      · simp at hy hu; subst hy; subst hu; exact hx
      · cases hu
    · cases hy
  · rw [if_neg hij] at hy hu
    exact h.get j y u hy hu
theorem RepL.take {xs : List SV} {vs : List Value} (h : RepL w ok xs vs) (n : Nat) : RepL w ok (xs.take n) (vs.take n) :=
  RepL.of (by simp [h.len]) fun i x v hx hv => by
    rw [List.getElem?_take] at hx hv
    split at hx
    · rw [if_pos ‹_›] at hv; exact h.get i x v hx hv
    · cases hx
theorem RepL.drop {xs : List SV} {vs : List Value} (h : RepL w ok xs vs) (n : Nat) : RepL w ok (xs.drop n) (vs.drop n) :=
  RepL.of (by simp [h.len]) fun i x v hx hv => by
    rw [List.getElem?_drop] at hx hv
    exact h.get _ x v hx hv
theorem RepL.replicate (n : Nat) {x : SV} {v : Value} (h : RepS w ok x v) : RepL w ok (List.replicate n x) (List.replicate n v) :=
  RepL.of (by simp) fun i y u hy hu => by
    rw [List.getElem?_replicate] at hy hu
    split at hy
    · rw [if_pos ‹_›] at hu; simp at hy hu; subst hy; subst hu; exact h
    · cases hy

theorem At.keep {u : Value} {a : Addr} (h : At w u a) (hb : w'.heap[a.block]? = w.heap[a.block]?) : At w' u a := fun j y hy => by
  have hbl : (a.add j).block = a.block := by unfold Addr.add; split <;> rfl
  rw [← h j y hy]
  exact World.cell?_of_block (w := w) (by rw [hbl]; exact hb)

theorem add_block (a : Addr) (n : Nat) : (a.add n).block = a.block := by unfold Addr.add; split <;> rfl

/-- What is shared stays what it is, as long as the blocks in which it may lie stay. -/
theorem RepS.keep (hok : ∀ b, ok b → ok' b ∧ w'.heap[b]? = w.heap[b]?) : ∀ {x : SV} {v : Value}, RepS w ok x v → RepS w' ok' x v := by
  intro x
  refine SV.rec (motive_1 := fun x => ∀ {v : Value}, RepS w ok x v → RepS w' ok' x v) (motive_2 := fun xs => ∀ {vs : List Value}, RepL w ok xs vs → RepL w' ok' xs vs)
    ?_ ?_ ?_ ?_ ?_ ?_ ?_ ?_ x
  · intro v _; simp only [RepS]
  · intro u v h; simpa only [RepS] using h
  · intro xs ih v h
    simp only [RepS] at h ⊢
    obtain ⟨cs, rfl, h⟩ := h
    exact ⟨cs, rfl, ih h⟩
  · intro xs ih v h
    simp only [RepS] at h ⊢
    obtain ⟨a, c, rfl, hc, h⟩ := h
    refine ⟨a, c, rfl, hc, ?_⟩
    rcases h with h | ⟨ad, sz, vs, rfl, ho, hr, hat⟩
    · exact .inl h
    · exact .inr ⟨ad, sz, vs, rfl, (hok _ ho).1, ih hr, fun i u hu => ⟨(hat i u hu).1, (hat i u hu).2.keep (by rw [add_block]; exact (hok _ ho).2)⟩⟩
  · intro x off ih v h
    simp only [RepS] at h ⊢
    obtain ⟨a, u, rfl, ho, hx, hat⟩ := h
    exact ⟨a, u, rfl, (hok _ ho).1, ih hx, hat.keep (hok _ ho).2⟩
  · intro f caps ih v h
    simp only [RepS] at h ⊢
    obtain ⟨cs, rfl, h⟩ := h
    exact ⟨cs, rfl, ih h⟩
  · intro vs h; simpa only [RepL] using h
  · intro x xs ihx ihs vs h
    simp only [RepL] at h ⊢
    obtain ⟨v, vs', rfl, hx, hs⟩ := h
    exact ⟨v, vs', rfl, ihx hx, ihs hs⟩
theorem RepL.keep (hok : ∀ b, ok b → ok' b ∧ w'.heap[b]? = w.heap[b]?) : ∀ {xs : List SV} {vs : List Value}, RepL w ok xs vs → RepL w' ok' xs vs
  | [], vs, h => by simpa only [RepL] using h
  | x :: xs, vs, h => by
    simp only [RepL] at h ⊢
    obtain ⟨v, vs', rfl, hx, hs⟩ := h
    exact ⟨v, vs', rfl, hx.keep hok, RepL.keep hok hs⟩
end

mutual
/-- It lies in no memory: it is itself wherever. -/
def SV.flat : SV → Bool
  | .any | .val _ => true
  | .agg xs => SV.flatL xs
  | _ => false
def SV.flatL : List SV → Bool
  | [] => true
  | x :: xs => SV.flat x && SV.flatL xs
end

theorem RepS.flat {w w' : World} {ok ok' : Nat → Prop} : ∀ {x : SV}, x.flat = true → ∀ {v : Value}, RepS w ok x v → RepS w' ok' x v := by
  intro x
  refine SV.rec (motive_1 := fun x => x.flat = true → ∀ {v : Value}, RepS w ok x v → RepS w' ok' x v) (motive_2 := fun xs => SV.flatL xs = true → ∀ {vs : List Value}, RepL w ok xs vs → RepL w' ok' xs vs)
    ?_ ?_ ?_ ?_ ?_ ?_ ?_ ?_ x
  · intro _ v _; simp only [RepS]
  · intro u _ v h; simpa only [RepS] using h
  · intro xs ih hf v h
    simp only [RepS] at h ⊢
    obtain ⟨cs, rfl, h⟩ := h
    exact ⟨cs, rfl, ih (by simpa only [SV.flat] using hf) h⟩
  · intro xs ih hf; simp [SV.flat] at hf
  · intro x off ih hf; simp [SV.flat] at hf
  · intro f caps ih hf; simp [SV.flat] at hf
  · intro _ vs h; simpa only [RepL] using h
  · intro x xs ihx ihs hf vs h
    simp only [SV.flatL, Bool.and_eq_true] at hf
    simp only [RepL] at h ⊢
    obtain ⟨v, vs', rfl, hx, hs⟩ := h
    exact ⟨v, vs', rfl, ihx hf.1 hx, ihs hf.2 hs⟩
theorem flatL_iff : ∀ {xs : List SV}, SV.flatL xs = true ↔ ∀ x ∈ xs, x.flat = true
  | [] => by simp [SV.flatL]
  | x :: xs => by simp [SV.flatL, flatL_iff (xs := xs)]
theorem RepL.flat {w w' : World} {ok ok' : Nat → Prop} : ∀ {xs : List SV}, (∀ x ∈ xs, x.flat = true) → ∀ {vs : List Value}, RepL w ok xs vs → RepL w' ok' xs vs
  | [], _, vs, h => by simpa only [RepL] using h
  | x :: xs, hf, vs, h => by
    simp only [RepL] at h ⊢
    obtain ⟨v, vs', rfl, hx, hs⟩ := h
    exact ⟨v, vs', rfl, hx.flat (hf x List.mem_cons_self), RepL.flat (fun y hy => hf y (List.mem_cons_of_mem _ hy)) hs⟩

/-! ### Frame values, and what the call owns -/

inductive AV where
  | sv (x : SV)
  | nil
  | own (t : Nat)
  | box (t off : Nat)
  | elt (t i off : Nat)
  | tup (xs : List AV)
  | fnv (f : FuncId) (caps : List AV)
  | agg (xs : List AV)
  | sl (t n : Nat)
  deriving Inhabited
inductive Obj' where
  | row (sz : Nat) (xs : List SV)
  | box (cs : List AV)
  deriving Inhabited

/-- Where what is owned lies: its block, its capacity, the size of its elements. -/
structure Env where
  ok : Nat → Prop
  at_ : Nat → Option (Nat × Nat × Nat)

abbrev Mem := Nat → Option Obj'

mutual
def RepV (w : World) (E : Env) (m : Mem) : AV → Value → Prop
  | .sv x, v => RepS w E.ok x v
  | .nil, v => v = .slice none 0 0
  | .own t, v => match m t with
    | some (.row _ xs) => match E.at_ t with
      | none => ∃ a, v = .slice a 0 0
      | some (g, c, _) => v = .slice (some ⟨g, 0, none⟩) xs.length c
    | _ => True
  | .box t off, v => match m t with
    | some (.box _) => ∃ g c sz, E.at_ t = some (g, c, sz) ∧ v = .pointer (some ⟨g, off, none⟩)
    | _ => True
  | .elt t i off, v => match m t with
    | some (.row _ xs) => ∃ g c sz, E.at_ t = some (g, c, sz) ∧ v = .pointer (some ⟨g, i * sz + off, none⟩) ∧ i < xs.length ∧ off < sz
    | _ => True
  | .tup xs, v => ∃ cs : Array Value, v = .tuple cs ∧ RepVL w E m xs cs.toList
  | .fnv f caps, v => ∃ cs : Array Value, v = .func (.func f) #[] cs ∧ RepVL w E m caps cs.toList
  | .agg xs, v => ∃ cs : Array Value, v = .agg cs ∧ RepVL w E m xs cs.toList
  | .sl t n, v => match m t with
    | some (.box _) => ∃ g c sz, E.at_ t = some (g, c, sz) ∧ v = .slice (some ⟨g, 0, none⟩) n n
    | _ => True
def RepVL (w : World) (E : Env) (m : Mem) : List AV → List Value → Prop
  | [], vs => vs = []
  | x :: xs, vs => ∃ v vs', vs = v :: vs' ∧ RepV w E m x v ∧ RepVL w E m xs vs'
end
mutual
def AV.holds (t : Nat) : AV → Bool
  | .sv _ | .nil => false
  | .own s | .box s _ | .elt s _ _ | .sl s _ => s == t
  | .tup xs | .fnv _ xs | .agg xs => AV.holdsL t xs
def AV.holdsL (t : Nat) : List AV → Bool
  | [] => false
  | x :: xs => AV.holds t x || AV.holdsL t xs
end

section
variable {w : World} {E : Env} {m : Mem}
theorem RepVL.len : ∀ {xs : List AV} {vs : List Value}, RepVL w E m xs vs → xs.length = vs.length
  | [], vs, h => by simp only [RepVL] at h; subst h; rfl
  | x :: xs, vs, h => by
    simp only [RepVL] at h
    obtain ⟨v, vs', rfl, _, h⟩ := h
    simp [RepVL.len h]
theorem RepVL.get : ∀ {xs : List AV} {vs : List Value}, RepVL w E m xs vs → ∀ (i : Nat) (x : AV) (v : Value), xs[i]? = some x → vs[i]? = some v → RepV w E m x v
  | [], vs, h, i, x, v, hx, hv => by simp at hx
  | y :: xs, vs, h, i, x, v, hx, hv => by
    simp only [RepVL] at h
    obtain ⟨u, vs', rfl, hy, h⟩ := h
    cases i with
    | zero => simp at hx hv; subst hx; subst hv; exact hy
    | succ i => simp at hx hv; exact RepVL.get h i x v hx hv
theorem RepVL.of : ∀ {xs : List AV} {vs : List Value}, xs.length = vs.length → (∀ (i : Nat) (x : AV) (v : Value), xs[i]? = some x → vs[i]? = some v → RepV w E m x v) → RepVL w E m xs vs
  | [], vs, hl, _ => by simp only [RepVL]; exact List.eq_nil_of_length_eq_zero hl.symm
  | x :: xs, [], hl, _ => by simp at hl
  | x :: xs, v :: vs, hl, h => by
    simp only [RepVL]
    exact ⟨v, vs, rfl, h 0 x v rfl rfl, RepVL.of (by simpa using hl) (fun i y u hy hu => h (i + 1) y u (by simpa using hy) (by simpa using hu))⟩
theorem RepVL.nil : RepVL w E m [] [] := by simp only [RepVL]
theorem RepVL.cons {x : AV} {xs : List AV} {v : Value} {vs : List Value} (h : RepV w E m x v) (hs : RepVL w E m xs vs) : RepVL w E m (x :: xs) (v :: vs) := by
  simp only [RepVL]; exact ⟨v, vs, rfl, h, hs⟩
theorem RepVL.at {xs : List AV} {vs : List Value} (h : RepVL w E m xs vs) {i : Nat} {x : AV} (hx : xs[i]? = some x) : ∃ v, vs[i]? = some v ∧ RepV w E m x v := by
  have hi : i < vs.length := by rw [← h.len]; exact (List.getElem?_eq_some_iff.1 hx).1
  exact ⟨vs[i], List.getElem?_eq_getElem hi, h.get i x _ hx (List.getElem?_eq_getElem hi)⟩
end

/-- A frame value stays what it is: what is shared stays; each tag that it holds is where it was, with as many elements (or it is gone). -/
theorem RepV.keep {w w' : World} {E E' : Env} {m m' : Mem} (hok : ∀ b, E.ok b → E'.ok b ∧ w'.heap[b]? = w.heap[b]?) : ∀ {x : AV},
    (∀ t, x.holds t = true → m' t = none ∨ (E'.at_ t = E.at_ t ∧ ((∃ k xs ys, m t = some (.row k xs) ∧ m' t = some (.row k ys) ∧ xs.length = ys.length) ∨ (∃ cs ds, m t = some (.box cs) ∧ m' t = some (.box ds))))) →
    ∀ {v : Value}, RepV w E m x v → RepV w' E' m' x v := by
  intro x
  refine AV.rec
    (motive_1 := fun x => (∀ t, x.holds t = true → m' t = none ∨ (E'.at_ t = E.at_ t ∧ ((∃ k xs ys, m t = some (.row k xs) ∧ m' t = some (.row k ys) ∧ xs.length = ys.length) ∨ (∃ cs ds, m t = some (.box cs) ∧ m' t = some (.box ds))))) → ∀ {v : Value}, RepV w E m x v → RepV w' E' m' x v)
    (motive_2 := fun l => (∀ t, AV.holdsL t l = true → m' t = none ∨ (E'.at_ t = E.at_ t ∧ ((∃ k xs ys, m t = some (.row k xs) ∧ m' t = some (.row k ys) ∧ xs.length = ys.length) ∨ (∃ cs ds, m t = some (.box cs) ∧ m' t = some (.box ds))))) → ∀ {vs : List Value}, RepVL w E m l vs → RepVL w' E' m' l vs)
    ?_ ?_ ?_ ?_ ?_ ?_ ?_ ?_ ?_ ?_ ?_ x
  · intro x _ v h; simp only [RepV] at h ⊢; exact h.keep hok
  · intro _ v h; simpa only [RepV] using h
  · intro t ht v h
    simp only [RepV] at h ⊢
    rcases ht t (by simp [AV.holds]) with h0 | ⟨he, ⟨k, xs, ys, h1, h2, hl⟩ | ⟨cs, ds, h1, h2⟩⟩
    · rw [h0]; trivial
    · rw [h1] at h; rw [h2, he]; dsimp only at h ⊢
      cases hE : E.at_ t with
      | none => rw [hE] at h; exact h
      | some p => rw [hE] at h; dsimp only at h ⊢; rw [← hl]; exact h
    · rw [h2]; trivial
  · intro t off ht v h
    simp only [RepV] at h ⊢
    rcases ht t (by simp [AV.holds]) with h0 | ⟨he, ⟨k, xs, ys, h1, h2, hl⟩ | ⟨cs, ds, h1, h2⟩⟩
    · rw [h0]; trivial
    · rw [h2]; trivial
    · rw [h1] at h; rw [h2, he]; exact h
  · intro t i off ht v h
    simp only [RepV] at h ⊢
    rcases ht t (by simp [AV.holds]) with h0 | ⟨he, ⟨k, xs, ys, h1, h2, hl⟩ | ⟨cs, ds, h1, h2⟩⟩
    · rw [h0]; trivial
    · rw [h1] at h; rw [h2, he]; dsimp only at h ⊢; rw [← hl]; exact h
    · rw [h2]; trivial
  · intro xs ih ht v h
    simp only [RepV] at h ⊢
    obtain ⟨cs, rfl, h⟩ := h
    exact ⟨cs, rfl, ih (fun t h1 => ht t (by simpa only [AV.holds] using h1)) h⟩
  · intro f xs ih ht v h
    simp only [RepV] at h ⊢
    obtain ⟨cs, rfl, h⟩ := h
    exact ⟨cs, rfl, ih (fun t h1 => ht t (by simpa only [AV.holds] using h1)) h⟩
  · intro xs ih ht v h
    simp only [RepV] at h ⊢
    obtain ⟨cs, rfl, h⟩ := h
    exact ⟨cs, rfl, ih (fun t h1 => ht t (by simpa only [AV.holds] using h1)) h⟩
  · intro t n ht v h
    simp only [RepV] at h ⊢
    rcases ht t (by simp [AV.holds]) with h0 | ⟨he, ⟨k, xs, ys, h1, h2, hl⟩ | ⟨cs, ds, h1, h2⟩⟩
    · rw [h0]; trivial
    · rw [h2]; trivial
    · rw [h1] at h; rw [h2, he]; exact h
  · intro _ vs h; simpa only [RepVL] using h
  · intro x xs ihx ihs ht vs h
    simp only [RepVL] at h ⊢
    obtain ⟨v, vs', rfl, hx, hs⟩ := h
    exact ⟨v, vs', rfl, ihx (fun t h1 => ht t (by simp [AV.holdsL, h1])) hx, ihs (fun t h1 => ht t (by simp [AV.holdsL, h1])) hs⟩
theorem RepVL.keep {w w' : World} {E E' : Env} {m m' : Mem} (hok : ∀ b, E.ok b → E'.ok b ∧ w'.heap[b]? = w.heap[b]?) : ∀ {l : List AV},
    (∀ t, AV.holdsL t l = true → m' t = none ∨ (E'.at_ t = E.at_ t ∧ ((∃ k xs ys, m t = some (.row k xs) ∧ m' t = some (.row k ys) ∧ xs.length = ys.length) ∨ (∃ cs ds, m t = some (.box cs) ∧ m' t = some (.box ds))))) →
    ∀ {vs : List Value}, RepVL w E m l vs → RepVL w' E' m' l vs
  | [], _, vs, h => by simpa only [RepVL] using h
  | x :: xs, ht, vs, h => by
    simp only [RepVL] at h ⊢
    obtain ⟨v, vs', rfl, hx, hs⟩ := h
    exact ⟨v, vs', rfl, hx.keep hok (fun t h1 => ht t (by simp [AV.holdsL, h1])), RepVL.keep hok (fun t h1 => ht t (by simp [AV.holdsL, h1])) hs⟩
end Go.Proofs.YtfcojlagmmgagaaDoor.Ab
