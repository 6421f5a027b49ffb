/- The texts of the law PoolsRight, without what it does not use, laid together: part 6. -/
import Derived.Test.YtimllhflecippaaPkPoolsRight1
import Derived.Test.YtimllhflecippaaPkPoolsRight2
import Derived.Test.YtimllhflecippaaPkPoolsRight3
import Derived.Test.YtimllhflecippaaPkPoolsRight4
import Derived.Test.YtimllhflecippaaPkPoolsRight5
import Derived.WalkKit
import Derived.Below
import Derived.Lib.TrailingZeros
import Derived.Deep.Slices
import Derived.Great.BuildSlice
import Derived.Scope

section
namespace Go.Proofs.Ytimllhflecippaa.Ab
open Go.RowKit
set_option linter.unusedVariables false
set_option linter.unusedSimpArgs false

/-- What is shared: it is read, and never written again. 'ref x off': a pointer to the cell 'off' of x in memory. -/
inductive SV where
  | any
  | val (v : Value)
  | agg (xs : List SV)
  | lst (xs : List SV)
  | ref (x : SV) (off : Nat)
  | fn (f : FuncId) (caps : List SV)
  deriving Inhabited

def SV.cells : SV → List SV
  | .agg xs => xs
  | x => [x]
/-- May it stand in one cell? -/
def SV.one : SV → Bool
  | .val v => v.oneCell'
  | .lst _ | .ref .. | .fn .. => true
  | _ => false
/-- May it stand in so many cells? -/
def SV.fits (sz : Nat) (x : SV) : Bool := x.cells.length == sz && x.cells.all SV.one

/-- The cells of a value lie at an address. -/
def At (w : World) (u : Value) (a : Addr) : Prop := ∀ (j : Nat) (y : Value), u.cells[j]? = some y → w.cell? (a.add j) = some y

mutual
def RepS (w : World) (ok : Nat → Prop) : SV → Value → Prop
  | .any, _ => True
  | .val u, v => v = u
  | .agg xs, v => ∃ cs : Array Value, v = .agg cs ∧ RepL w ok xs cs.toList
  | .lst xs, v => ∃ (a : Option Addr) (c : Nat), v = .slice a xs.length c ∧ xs.length ≤ c ∧ (xs = [] ∨ ∃ (ad : Addr) (sz : Nat) (vs : List Value), a = some ad ∧ ok ad.block ∧ RepL w ok xs vs ∧
      ∀ (i : Nat) (u : Value), vs[i]? = some u → u.cells.size = sz ∧ At w u (ad.add (i * sz)))
  | .ref x off, v => ∃ (a : Addr) (u : Value), v = .pointer (some (a.add off)) ∧ ok a.block ∧ RepS w ok x u ∧ At w u a
  | .fn f caps, v => ∃ cs : Array Value, v = .func (.func f) #[] cs ∧ RepL w ok caps cs.toList
def RepL (w : World) (ok : Nat → Prop) : List SV → List Value → Prop
  | [], vs => vs = []
  | x :: xs, vs => ∃ v vs', vs = v :: vs' ∧ RepS w ok x v ∧ RepL w ok xs vs'
end

section
variable {w w' : World} {ok ok' : Nat → Prop}

theorem RepL.len : ∀ {xs : List SV} {vs : List Value}, RepL w ok xs vs → xs.length = vs.length
  | [], vs, h => by simp only [RepL] at h; subst h; rfl
  | x :: xs, vs, h => by
    simp only [RepL] at h
    obtain ⟨v, vs', rfl, _, h⟩ := h
    simp [RepL.len h]
theorem RepL.get : ∀ {xs : List SV} {vs : List Value}, RepL w ok xs vs → ∀ (i : Nat) (x : SV) (v : Value), xs[i]? = some x → vs[i]? = some v → RepS w ok x v
  | [], vs, h, i, x, v, hx, hv => by simp at hx
  | y :: xs, vs, h, i, x, v, hx, hv => by
    simp only [RepL] at h
    obtain ⟨u, vs', rfl, hy, h⟩ := h
    cases i with
    | zero => simp at hx hv; subst hx; subst hv; exact hy
    | succ i => simp at hx hv; exact RepL.get h i x v hx hv
theorem RepL.of : ∀ {xs : List SV} {vs : List Value}, xs.length = vs.length → (∀ (i : Nat) (x : SV) (v : Value), xs[i]? = some x → vs[i]? = some v → RepS w ok x v) → RepL w ok xs vs
  | [], vs, hl, _ => by simp only [RepL]; exact List.eq_nil_of_length_eq_zero hl.symm
  | x :: xs, [], hl, _ => by simp at hl
  | x :: xs, v :: vs, hl, h => by
    simp only [RepL]
    exact ⟨v, vs, rfl, h 0 x v rfl rfl, RepL.of (by simpa using hl) (fun i y u hy hu => h (i + 1) y u (by simpa using hy) (by simpa using hu))⟩
theorem RepL.nil : RepL w ok [] [] := by simp only [RepL]
theorem RepL.cons {x : SV} {xs : List SV} {v : Value} {vs : List Value} (h : RepS w ok x v) (hs : RepL w ok xs vs) : RepL w ok (x :: xs) (v :: vs) := by
  simp only [RepL]; exact ⟨v, vs, rfl, h, hs⟩
theorem RepL.at {xs : List SV} {vs : List Value} (h : RepL w ok xs vs) {i : Nat} {x : SV} (hx : xs[i]? = some x) : ∃ v, vs[i]? = some v ∧ RepS w ok x v := by
  have hi : i < vs.length := by rw [← h.len]; exact (List.getElem?_eq_some_iff.1 hx).1
  exact ⟨vs[i], List.getElem?_eq_getElem hi, h.get i x _ hx (List.getElem?_eq_getElem hi)⟩
theorem RepL.append {xs ys : List SV} {vs us : List Value} (h : RepL w ok xs vs) (k : RepL w ok ys us) : RepL w ok (xs ++ ys) (vs ++ us) := by
  refine RepL.of (by simp [h.len, k.len]) fun i x v hx hv => ?_
  have hl := h.len
  rcases Nat.lt_or_ge i xs.length with hi | hi
  · rw [List.getElem?_append_left hi] at hx
    rw [List.getElem?_append_left (by omega)] at hv
    exact h.get i x v hx hv
  · rw [List.getElem?_append_right hi] at hx
    rw [List.getElem?_append_right (by omega), ← hl] at hv
    exact k.get _ x v hx hv
theorem RepL.set {xs : List SV} {vs : List Value} (h : RepL w ok xs vs) (i : Nat) {x : SV} {v : Value} (hx : RepS w ok x v) : RepL w ok (xs.set i x) (vs.set i v) := by
  refine RepL.of (by simp [h.len]) fun j y u hy hu => ?_
  have hl := h.len
  rw [List.getElem?_set] at hy hu
  by_cases hij : i = j
  · rw [if_pos hij] at hy hu
    split at hy
    · split at hu
      · simp at hy hu; subst hy; subst hu; exact hx
      · cases hu
    · cases hy
  · rw [if_neg hij] at hy hu
    exact h.get j y u hy hu
theorem RepL.take {xs : List SV} {vs : List Value} (h : RepL w ok xs vs) (n : Nat) : RepL w ok (xs.take n) (vs.take n) :=
  RepL.of (by simp [h.len]) fun i x v hx hv => by
    rw [List.getElem?_take] at hx hv
    split at hx
    · rw [if_pos ‹_›] at hv; exact h.get i x v hx hv
    · cases hx
theorem RepL.drop {xs : List SV} {vs : List Value} (h : RepL w ok xs vs) (n : Nat) : RepL w ok (xs.drop n) (vs.drop n) :=
  RepL.of (by simp [h.len]) fun i x v hx hv => by
    rw [List.getElem?_drop] at hx hv
    exact h.get _ x v hx hv
theorem RepL.replicate (n : Nat) {x : SV} {v : Value} (h : RepS w ok x v) : RepL w ok (List.replicate n x) (List.replicate n v) :=
  RepL.of (by simp) fun i y u hy hu => by
    rw [List.getElem?_replicate] at hy hu
    split at hy
    · rw [if_pos ‹_›] at hu; simp at hy hu; subst hy; subst hu; exact h
    · cases hy

theorem At.keep {u : Value} {a : Addr} (h : At w u a) (hb : w'.heap[a.block]? = w.heap[a.block]?) : At w' u a := fun j y hy => by
  have hbl : (a.add j).block = a.block := by unfold Addr.add; split <;> rfl
  rw [← h j y hy]
  exact World.cell?_of_block (w := w) (by rw [hbl]; exact hb)

theorem add_block (a : Addr) (n : Nat) : (a.add n).block = a.block := by unfold Addr.add; split <;> rfl

/-- What is shared stays what it is, as long as the blocks in which it may lie stay. -/
theorem RepS.keep (hok : ∀ b, ok b → ok' b ∧ w'.heap[b]? = w.heap[b]?) : ∀ {x : SV} {v : Value}, RepS w ok x v → RepS w' ok' x v := by
  intro x
  refine SV.rec (motive_1 := fun x => ∀ {v : Value}, RepS w ok x v → RepS w' ok' x v) (motive_2 := fun xs => ∀ {vs : List Value}, RepL w ok xs vs → RepL w' ok' xs vs)
    ?_ ?_ ?_ ?_ ?_ ?_ ?_ ?_ x
  · intro v _; simp only [RepS]
  · intro u v h; simpa only [RepS] using h
  · intro xs ih v h
    simp only [RepS] at h ⊢
    obtain ⟨cs, rfl, h⟩ := h
    exact ⟨cs, rfl, ih h⟩
  · intro xs ih v h
    simp only [RepS] at h ⊢
    obtain ⟨a, c, rfl, hc, h⟩ := h
    refine ⟨a, c, rfl, hc, ?_⟩
    rcases h with h | ⟨ad, sz, vs, rfl, ho, hr, hat⟩
    · exact .inl h
    · exact .inr ⟨ad, sz, vs, rfl, (hok _ ho).1, ih hr, fun i u hu => ⟨(hat i u hu).1, (hat i u hu).2.keep (by rw [add_block]; exact (hok _ ho).2)⟩⟩
  · intro x off ih v h
    simp only [RepS] at h ⊢
    obtain ⟨a, u, rfl, ho, hx, hat⟩ := h
    exact ⟨a, u, rfl, (hok _ ho).1, ih hx, hat.keep (hok _ ho).2⟩
  · intro f caps ih v h
    simp only [RepS] at h ⊢
    obtain ⟨cs, rfl, h⟩ := h
    exact ⟨cs, rfl, ih h⟩
  · intro vs h; simpa only [RepL] using h
  · intro x xs ihx ihs vs h
    simp only [RepL] at h ⊢
    obtain ⟨v, vs', rfl, hx, hs⟩ := h
    exact ⟨v, vs', rfl, ihx hx, ihs hs⟩
theorem RepL.keep (hok : ∀ b, ok b → ok' b ∧ w'.heap[b]? = w.heap[b]?) : ∀ {xs : List SV} {vs : List Value}, RepL w ok xs vs → RepL w' ok' xs vs
  | [], vs, h => by simpa only [RepL] using h
  | x :: xs, vs, h => by
    simp only [RepL] at h ⊢
    obtain ⟨v, vs', rfl, hx, hs⟩ := h
    exact ⟨v, vs', rfl, hx.keep hok, RepL.keep hok hs⟩
end

mutual
/-- It lies in no memory: it is itself wherever. -/
def SV.flat : SV → Bool
  | .any | .val _ => true
  | .agg xs => SV.flatL xs
  | _ => false
def SV.flatL : List SV → Bool
  | [] => true
  | x :: xs => SV.flat x && SV.flatL xs
end

theorem RepS.flat {w w' : World} {ok ok' : Nat → Prop} : ∀ {x : SV}, x.flat = true → ∀ {v : Value}, RepS w ok x v → RepS w' ok' x v := by
  intro x
  refine SV.rec (motive_1 := fun x => x.flat = true → ∀ {v : Value}, RepS w ok x v → RepS w' ok' x v) (motive_2 := fun xs => SV.flatL xs = true → ∀ {vs : List Value}, RepL w ok xs vs → RepL w' ok' xs vs)
    ?_ ?_ ?_ ?_ ?_ ?_ ?_ ?_ x
  · intro _ v _; simp only [RepS]
  · intro u _ v h; simpa only [RepS] using h
  · intro xs ih hf v h
    simp only [RepS] at h ⊢
    obtain ⟨cs, rfl, h⟩ := h
    exact ⟨cs, rfl, ih (by simpa only [SV.flat] using hf) h⟩
  · intro xs ih hf; simp [SV.flat] at hf
  · intro x off ih hf; simp [SV.flat] at hf
  · intro f caps ih hf; simp [SV.flat] at hf
  · intro _ vs h; simpa only [RepL] using h
  · intro x xs ihx ihs hf vs h
    simp only [SV.flatL, Bool.and_eq_true] at hf
    simp only [RepL] at h ⊢
    obtain ⟨v, vs', rfl, hx, hs⟩ := h
    exact ⟨v, vs', rfl, ihx hf.1 hx, ihs hf.2 hs⟩
inductive AV where
  | sv (x : SV)
  | nil
  | own (t : Nat)
  | box (t off : Nat)
  | elt (t i off : Nat)
  | tup (xs : List AV)
  | fnv (f : FuncId) (caps : List AV)
  | agg (xs : List AV)
  | sl (t n : Nat)
  deriving Inhabited
inductive Obj' where
  | row (sz : Nat) (xs : List SV)
  | box (cs : List AV)
  deriving Inhabited

/-- Where what is owned lies: its block, its capacity, the size of its elements. -/
structure Env where
  ok : Nat → Prop
  at_ : Nat → Option (Nat × Nat × Nat)

abbrev Mem := Nat → Option Obj'

mutual
def RepV (w : World) (E : Env) (m : Mem) : AV → Value → Prop
  | .sv x, v => RepS w E.ok x v
  | .nil, v => v = .slice none 0 0
  | .own t, v => match m t with
    | some (.row _ xs) => match E.at_ t with
      | none => ∃ a, v = .slice a 0 0
      | some (g, c, _) => v = .slice (some ⟨g, 0, none⟩) xs.length c
    | _ => True
  | .box t off, v => match m t with
    | some (.box _) => ∃ g c sz, E.at_ t = some (g, c, sz) ∧ v = .pointer (some ⟨g, off, none⟩)
    | _ => True
  | .elt t i off, v => match m t with
    | some (.row _ xs) => ∃ g c sz, E.at_ t = some (g, c, sz) ∧ v = .pointer (some ⟨g, i * sz + off, none⟩) ∧ i < xs.length ∧ off < sz
    | _ => True
  | .tup xs, v => ∃ cs : Array Value, v = .tuple cs ∧ RepVL w E m xs cs.toList
  | .fnv f caps, v => ∃ cs : Array Value, v = .func (.func f) #[] cs ∧ RepVL w E m caps cs.toList
  | .agg xs, v => ∃ cs : Array Value, v = .agg cs ∧ RepVL w E m xs cs.toList
  | .sl t n, v => match m t with
    | some (.box _) => ∃ g c sz, E.at_ t = some (g, c, sz) ∧ v = .slice (some ⟨g, 0, none⟩) n n
    | _ => True
def RepVL (w : World) (E : Env) (m : Mem) : List AV → List Value → Prop
  | [], vs => vs = []
  | x :: xs, vs => ∃ v vs', vs = v :: vs' ∧ RepV w E m x v ∧ RepVL w E m xs vs'
end
mutual
def AV.holds (t : Nat) : AV → Bool
  | .sv _ | .nil => false
  | .own s | .box s _ | .elt s _ _ | .sl s _ => s == t
  | .tup xs | .fnv _ xs | .agg xs => AV.holdsL t xs
def AV.holdsL (t : Nat) : List AV → Bool
  | [] => false
  | x :: xs => AV.holds t x || AV.holdsL t xs
end

section
variable {w : World} {E : Env} {m : Mem}
theorem RepVL.len : ∀ {xs : List AV} {vs : List Value}, RepVL w E m xs vs → xs.length = vs.length
  | [], vs, h => by simp only [RepVL] at h; subst h; rfl
  | x :: xs, vs, h => by
    simp only [RepVL] at h
    obtain ⟨v, vs', rfl, _, h⟩ := h
    simp [RepVL.len h]
theorem RepVL.get : ∀ {xs : List AV} {vs : List Value}, RepVL w E m xs vs → ∀ (i : Nat) (x : AV) (v : Value), xs[i]? = some x → vs[i]? = some v → RepV w E m x v
  | [], vs, h, i, x, v, hx, hv => by simp at hx
  | y :: xs, vs, h, i, x, v, hx, hv => by
    simp only [RepVL] at h
    obtain ⟨u, vs', rfl, hy, h⟩ := h
    cases i with
    | zero => simp at hx hv; subst hx; subst hv; exact hy
    | succ i => simp at hx hv; exact RepVL.get h i x v hx hv
theorem RepVL.of : ∀ {xs : List AV} {vs : List Value}, xs.length = vs.length → (∀ (i : Nat) (x : AV) (v : Value), xs[i]? = some x → vs[i]? = some v → RepV w E m x v) → RepVL w E m xs vs
  | [], vs, hl, _ => by simp only [RepVL]; exact List.eq_nil_of_length_eq_zero hl.symm
  | x :: xs, [], hl, _ => by simp at hl
  | x :: xs, v :: vs, hl, h => by
    simp only [RepVL]
    exact ⟨v, vs, rfl, h 0 x v rfl rfl, RepVL.of (by simpa using hl) (fun i y u hy hu => h (i + 1) y u (by simpa using hy) (by simpa using hu))⟩
theorem RepVL.nil : RepVL w E m [] [] := by simp only [RepVL]
theorem RepVL.cons {x : AV} {xs : List AV} {v : Value} {vs : List Value} (h : RepV w E m x v) (hs : RepVL w E m xs vs) : RepVL w E m (x :: xs) (v :: vs) := by
  simp only [RepVL]; exact ⟨v, vs, rfl, h, hs⟩
theorem RepVL.at {xs : List AV} {vs : List Value} (h : RepVL w E m xs vs) {i : Nat} {x : AV} (hx : xs[i]? = some x) : ∃ v, vs[i]? = some v ∧ RepV w E m x v := by
  have hi : i < vs.length := by rw [← h.len]; exact (List.getElem?_eq_some_iff.1 hx).1
  exact ⟨vs[i], List.getElem?_eq_getElem hi, h.get i x _ hx (List.getElem?_eq_getElem hi)⟩
end

/-- A frame value stays what it is: what is shared stays; each tag that it holds is where it was, with as many elements (or it is gone). -/
theorem RepV.keep {w w' : World} {E E' : Env} {m m' : Mem} (hok : ∀ b, E.ok b → E'.ok b ∧ w'.heap[b]? = w.heap[b]?) : ∀ {x : AV},
    (∀ t, x.holds t = true → m' t = none ∨ (E'.at_ t = E.at_ t ∧ ((∃ k xs ys, m t = some (.row k xs) ∧ m' t = some (.row k ys) ∧ xs.length = ys.length) ∨ (∃ cs ds, m t = some (.box cs) ∧ m' t = some (.box ds))))) →
    ∀ {v : Value}, RepV w E m x v → RepV w' E' m' x v := by
  intro x
  refine AV.rec
    (motive_1 := fun x => (∀ t, x.holds t = true → m' t = none ∨ (E'.at_ t = E.at_ t ∧ ((∃ k xs ys, m t = some (.row k xs) ∧ m' t = some (.row k ys) ∧ xs.length = ys.length) ∨ (∃ cs ds, m t = some (.box cs) ∧ m' t = some (.box ds))))) → ∀ {v : Value}, RepV w E m x v → RepV w' E' m' x v)
    (motive_2 := fun l => (∀ t, AV.holdsL t l = true → m' t = none ∨ (E'.at_ t = E.at_ t ∧ ((∃ k xs ys, m t = some (.row k xs) ∧ m' t = some (.row k ys) ∧ xs.length = ys.length) ∨ (∃ cs ds, m t = some (.box cs) ∧ m' t = some (.box ds))))) → ∀ {vs : List Value}, RepVL w E m l vs → RepVL w' E' m' l vs)
    ?_ ?_ ?_ ?_ ?_ ?_ ?_ ?_ ?_ ?_ ?_ x
  · intro x _ v h; simp only [RepV] at h ⊢; exact h.keep hok
  · intro _ v h; simpa only [RepV] using h
  · intro t ht v h
    simp only [RepV] at h ⊢
    rcases ht t (by simp [AV.holds]) with h0 | ⟨he, ⟨k, xs, ys, h1, h2, hl⟩ | ⟨cs, ds, h1, h2⟩⟩
    · rw [h0]; trivial
    · rw [h1] at h; rw [h2, he]; dsimp only at h ⊢
      cases hE : E.at_ t with
      | none => rw [hE] at h; exact h
      | some p => rw [hE] at h; dsimp only at h ⊢; rw [← hl]; exact h
    · rw [h2]; trivial
  · intro t off ht v h
    simp only [RepV] at h ⊢
    rcases ht t (by simp [AV.holds]) with h0 | ⟨he, ⟨k, xs, ys, h1, h2, hl⟩ | ⟨cs, ds, h1, h2⟩⟩
    · rw [h0]; trivial
    · rw [h2]; trivial
    · rw [h1] at h; rw [h2, he]; exact h
  · intro t i off ht v h
    simp only [RepV] at h ⊢
    rcases ht t (by simp [AV.holds]) with h0 | ⟨he, ⟨k, xs, ys, h1, h2, hl⟩ | ⟨cs, ds, h1, h2⟩⟩
    · rw [h0]; trivial
    · rw [h1] at h; rw [h2, he]; dsimp only at h ⊢; rw [← hl]; exact h
    · rw [h2]; trivial
  · intro xs ih ht v h
    simp only [RepV] at h ⊢
    obtain ⟨cs, rfl, h⟩ := h
    exact ⟨cs, rfl, ih (fun t h1 => ht t (by simpa only [AV.holds] using h1)) h⟩
  · intro f xs ih ht v h
    simp only [RepV] at h ⊢
    obtain ⟨cs, rfl, h⟩ := h
    exact ⟨cs, rfl, ih (fun t h1 => ht t (by simpa only [AV.holds] using h1)) h⟩
  · intro xs ih ht v h
    simp only [RepV] at h ⊢
    obtain ⟨cs, rfl, h⟩ := h
    exact ⟨cs, rfl, ih (fun t h1 => ht t (by simpa only [AV.holds] using h1)) h⟩
  · intro t n ht v h
    simp only [RepV] at h ⊢
    rcases ht t (by simp [AV.holds]) with h0 | ⟨he, ⟨k, xs, ys, h1, h2, hl⟩ | ⟨cs, ds, h1, h2⟩⟩
    · rw [h0]; trivial
    · rw [h2]; trivial
    · rw [h1] at h; rw [h2, he]; exact h
  · intro _ vs h; simpa only [RepVL] using h
  · intro x xs ihx ihs ht vs h
    simp only [RepVL] at h ⊢
    obtain ⟨v, vs', rfl, hx, hs⟩ := h
    exact ⟨v, vs', rfl, ihx (fun t h1 => ht t (by simp [AV.holdsL, h1])) hx, ihs (fun t h1 => ht t (by simp [AV.holdsL, h1])) hs⟩
theorem RepVL.keep {w w' : World} {E E' : Env} {m m' : Mem} (hok : ∀ b, E.ok b → E'.ok b ∧ w'.heap[b]? = w.heap[b]?) : ∀ {l : List AV},
    (∀ t, AV.holdsL t l = true → m' t = none ∨ (E'.at_ t = E.at_ t ∧ ((∃ k xs ys, m t = some (.row k xs) ∧ m' t = some (.row k ys) ∧ xs.length = ys.length) ∨ (∃ cs ds, m t = some (.box cs) ∧ m' t = some (.box ds))))) →
    ∀ {vs : List Value}, RepVL w E m l vs → RepVL w' E' m' l vs
  | [], _, vs, h => by simpa only [RepVL] using h
  | x :: xs, ht, vs, h => by
    simp only [RepVL] at h ⊢
    obtain ⟨v, vs', rfl, hx, hs⟩ := h
    exact ⟨v, vs', rfl, hx.keep hok (fun t h1 => ht t (by simp [AV.holdsL, h1])), RepVL.keep hok (fun t h1 => ht t (by simp [AV.holdsL, h1])) hs⟩
end Go.Proofs.Ytimllhflecippaa.Ab
end

section
namespace Go.Proofs.Ytimllhflecippaa.Ab
open Go.RowKit
set_option linter.unusedVariables false
set_option linter.unusedSimpArgs false

def lk {α : Type} : List (Nat × α) → Nat → Option α
  | [], _ => none
  | (k, x) :: l, d => if k = d then some x else lk l d
def up {α : Type} : List (Nat × α) → Nat → α → List (Nat × α)
  | [], d, y => [(d, y)]
  | (k, x) :: l, d, y => if k = d then (d, y) :: l else (k, x) :: up l d y
def rm {α : Type} : List (Nat × α) → Nat → List (Nat × α)
  | [], _ => []
  | (k, x) :: l, d => if k = d then rm l d else (k, x) :: rm l d
theorem lk_up {α : Type} (l : List (Nat × α)) (d e : Nat) (y : α) : lk (up l d y) e = if d = e then some y else lk l e := by
  induction l with
  | nil => simp [up, lk]
  | cons p l ih =>
    obtain ⟨k, x⟩ := p
    by_cases h : k = d
    · subst h
      by_cases h2 : k = e <;> simp [up, lk, h2]
    · by_cases h2 : k = e
      · subst h2; simp [up, lk, h, Ne.symm h, fun h3 => h (Eq.symm h3)]
      · simp [up, lk, h, h2, ih]
theorem lk_rm {α : Type} (l : List (Nat × α)) (d e : Nat) : lk (rm l d) e = if d = e then none else lk l e := by
  induction l with
  | nil => simp [rm, lk]
  | cons p l ih =>
    obtain ⟨k, x⟩ := p
    simp only [rm, lk]
    by_cases h : k = d
    · rw [if_pos h, ih]
      by_cases h2 : d = e
      · rw [if_pos h2, if_pos h2]
      · rw [if_neg h2, if_neg h2, if_neg (by omega)]
    · rw [if_neg h]
      simp only [lk]
      by_cases h2 : k = e
      · rw [if_pos h2, if_pos h2, if_neg (by omega)]
      · rw [if_neg h2, if_neg h2, ih]

structure St where
  n : Nat
  t : List (Nat × AV)
  m : List (Nat × Obj')

def St.put (st : St) (dst : Option Nat) (x : AV) : St :=
  match dst with
  | some d => { st with t := up st.t d x }
  | none => st
def St.fitsDst (st : St) (dst : Option Nat) : Bool :=
  match dst with
  | some d => decide (d < st.n)
  | none => true

/-- What a tag's block holds. -/
def MemRep (w : World) (E : Env) (m : Mem) (t : Nat) : Obj' → Prop
  | .row sz xs => 0 < sz ∧ ((E.at_ t = none ∧ xs = []) ∨ ∃ g c e cur vs, E.at_ t = some (g, c, sz) ∧ w.heap[g]? = some (.cells cur e (0, 0)) ∧ (xs = [] → c = 0) ∧ xs.length ≤ c ∧ c ≤ maxLen ∧ cur.size = c * sz ∧ RepL w E.ok xs vs ∧
      ∀ (i : Nat) (u : Value), vs[i]? = some u → u.cells.size = sz ∧ (∀ y ∈ u.cells, y.oneCell' = true) ∧ ∀ (j : Nat) (y : Value), u.cells[j]? = some y → cur[i * sz + j]? = some y)
  | .box cs => ∃ g c sz e cur, E.at_ t = some (g, c, sz) ∧ w.heap[g]? = some (.cells cur e (0, 0)) ∧ RepVL w E m cs cur.toList

/-- What the program's tables hold (package variables that are laid once and never written), by their numbers. -/
def Gtab : List (Nat × SV) := []
/-- The tables lie where they lie, among what is shared. -/
def GW (w : World) (ok : Nat → Prop) : Prop := ∀ (g : Nat) (x : SV), lk Gtab g = some x → RepS w ok (.ref x 0) (.pointer (some ⟨g, 0, none⟩))
theorem GW.keep {w w' : World} {ok ok' : Nat → Prop} (h : GW w ok) (hok : ∀ b, ok b → ok' b ∧ w'.heap[b]? = w.heap[b]?) : GW w' ok' := fun g x hx => (h g x hx).keep hok
/-- What is shared lies in the world, the tables with it. -/
structure Okl (w : World) (ok : Nat → Prop) : Prop where
  lt : ∀ b, ok b → b < w.heap.size
  gw : GW w ok
instance {w : World} {ok : Nat → Prop} : CoeFun (Okl w ok) (fun _ => ∀ b, ok b → b < w.heap.size) := ⟨Okl.lt⟩

structure Inv (keep : Nat → Prop) (w : World) (E : Env) (st : St) (a : Act) : Prop where
  df : a.defers = []
  sz : a.tmps.size = st.n
  tm : ∀ (d : Nat) (x : AV), lk st.t d = some x → ∃ v, a.tmps[d]? = some v ∧ RepV w E (lk st.m) x v
  mm : ∀ (t : Nat) (o : Obj'), lk st.m t = some o → MemRep w E (lk st.m) t o
  inj : ∀ (t t' : Nat) (o o' : Obj') (g c s c' s' : Nat), lk st.m t = some o → lk st.m t' = some o' → E.at_ t = some (g, c, s) → E.at_ t' = some (g, c', s') → t = t'
  own : ∀ (t : Nat) (o : Obj') (g c s : Nat), lk st.m t = some o → E.at_ t = some (g, c, s) → g < w.heap.size ∧ ¬ E.ok g ∧ ¬ keep g
  okl : Okl w E.ok
  kpl : ∀ b, keep b → b < w.heap.size

/-- Is it told, too, that draws never go back? (Not over contracts of the printer, which do not tell it.) -/
def DR : Prop := False
structure Evo (keep : Nat → Prop) (w : World) (E : Env) (w' : World) (E' : Env) : Prop where
  os : w'.os = w.os
  tape : w'.tape = w.tape
  output : w'.output = w.output
  size : w.heap.size ≤ w'.heap.size
  kp : ∀ b, keep b → w'.heap[b]? = w.heap[b]?
  oks : ∀ b, E.ok b → E'.ok b ∧ w'.heap[b]? = w.heap[b]?
  new : ∀ b, E'.ok b → E.ok b ∨ ¬ keep b
  pin : ∀ t, 1000000 ≤ t → E'.at_ t = E.at_ t
  drawn : DR → w.drawn ≤ w'.drawn

theorem Evo.refl (keep : Nat → Prop) (w : World) (E : Env) : Evo keep w E w E := ⟨rfl, rfl, rfl, Nat.le_refl _, fun _ _ => rfl, fun _ h => ⟨h, rfl⟩, fun _ h => .inl h, fun _ _ => rfl, fun _ => Nat.le_refl _⟩
theorem Evo.trans {keep : Nat → Prop} {w w1 w2 : World} {E E1 E2 : Env} (h : Evo keep w E w1 E1) (k : Evo keep w1 E1 w2 E2) : Evo keep w E w2 E2 :=
  ⟨k.os.trans h.os, k.tape.trans h.tape, k.output.trans h.output, Nat.le_trans h.size k.size, fun b hb => (k.kp b hb).trans (h.kp b hb),
    fun b hb => ⟨(k.oks b (h.oks b hb).1).1, (k.oks b (h.oks b hb).1).2.trans (h.oks b hb).2⟩, fun b hb => (k.new b hb).elim (fun h1 => h.new b h1) .inr, fun t ht => (k.pin t ht).trans (h.pin t ht), fun hd => Nat.le_trans (h.drawn hd) (k.drawn hd)⟩
theorem Evo.drew (keep : Nat → Prop) (w : World) (E : Env) : Evo keep w E { w with drawn := w.drawn + 1 } E := ⟨rfl, rfl, rfl, Nat.le_refl _, fun _ _ => rfl, fun _ h => ⟨h, rfl⟩, fun _ h => .inl h, fun _ _ => rfl, fun _ => Nat.le_succ _⟩

section
variable {keep : Nat → Prop} {w w' : World} {E E' : Env} {st : St} {a : Act}

theorem put_size (a : Act) (dst : Option Tmp) (v : Value) : (a.put dst v).tmps.size = a.tmps.size := by
  cases dst <;> simp [Act.put]
theorem put_defers (a : Act) (dst : Option Tmp) (v : Value) : (a.put dst v).defers = a.defers := by
  cases dst <;> simp [Act.put]
theorem put_get (a : Act) (d e : Nat) (v : Value) (h : d < a.tmps.size) : (a.put (some d) v).tmps[e]? = if d = e then some v else a.tmps[e]? := by
  simp only [Act.put]
  rw [Array.getElem?_setIfInBounds]
  split
  · rename_i h1; subst h1; simp [h]
  · rfl

/-- A world that differs in nothing that is told of: the tape's place. -/
theorem MemRep.of_heap {m : Mem} {t : Nat} {o : Obj'} (hh : w'.heap = w.heap) (h : MemRep w E m t o) : MemRep w' E m t o := by
  have hk : ∀ b, E.ok b → E.ok b ∧ w'.heap[b]? = w.heap[b]? := fun b hb => ⟨hb, by rw [hh]⟩
  cases o with
  | row sz xs =>
    obtain ⟨h0, h⟩ := h
    rcases h with h | ⟨g, c, e, cur, vs, h1, h2, h3, h4, h5, h6, h7, h8⟩
    · exact ⟨h0, .inl h⟩
    · exact ⟨h0, .inr ⟨g, c, e, cur, vs, h1, by rw [hh]; exact h2, h3, h4, h5, h6, h7.keep hk, h8⟩⟩
  | box cs =>
    obtain ⟨g, c, sz, e, cur, h1, h2, h3⟩ := h
    exact ⟨g, c, sz, e, cur, h1, by rw [hh]; exact h2, h3.keep hk (fun t _ => by
      cases hm : m t with
      | none => exact .inl rfl
      | some o => cases o with
        | row k xs => exact .inr ⟨rfl, .inl ⟨k, xs, xs, rfl, rfl, rfl⟩⟩
        | box cs => exact .inr ⟨rfl, .inr ⟨cs, cs, rfl, rfl⟩⟩)⟩

theorem same_tags (E : Env) (m : Mem) (t : Nat) : m t = none ∨ (E.at_ t = E.at_ t ∧ ((∃ k xs ys, m t = some (.row k xs) ∧ m t = some (.row k ys) ∧ xs.length = ys.length) ∨ (∃ cs ds, m t = some (.box cs) ∧ m t = some (.box ds)))) := by
  cases hm : m t with
  | none => exact .inl rfl
  | some o => cases o with
    | row k xs => exact .inr ⟨rfl, .inl ⟨k, xs, xs, rfl, rfl, rfl⟩⟩
    | box cs => exact .inr ⟨rfl, .inr ⟨cs, cs, rfl, rfl⟩⟩

theorem RepV.of_heap {m : Mem} {x : AV} {v : Value} (hh : w'.heap = w.heap) (h : RepV w E m x v) : RepV w' E m x v :=
  h.keep (fun b hb => ⟨hb, by rw [hh]⟩) (fun t _ => same_tags E m t)

theorem Inv.drew (h : Inv keep w E st a) : Inv keep { w with drawn := w.drawn + 1 } E st a :=
  ⟨h.df, h.sz, fun d x hx => let ⟨v, h1, h2⟩ := h.tm d x hx; ⟨v, h1, RepV.of_heap (w := w) (w' := { w with drawn := w.drawn + 1 }) rfl h2⟩, fun t o ho => MemRep.of_heap (w := w) (w' := { w with drawn := w.drawn + 1 }) rfl (h.mm t o ho), h.inj, h.own, ⟨h.okl.lt, h.okl.gw.keep (w := w) (w' := { w with drawn := w.drawn + 1 }) (fun b hb => ⟨hb, rfl⟩)⟩, h.kpl⟩

/-- A temporary is set. -/
theorem Inv.put (h : Inv keep w E st a) {dst : Option Nat} {x : AV} {v : Value} (hd : st.fitsDst dst = true) (hx : RepV w E (lk st.m) x v) : Inv keep w E (st.put dst x) (a.put dst v) := by
  cases dst with
  | none => exact h
  | some d =>
    have hd' : d < a.tmps.size := by rw [h.sz]; simpa [St.fitsDst] using hd
    refine ⟨by rw [put_defers]; exact h.df, by rw [put_size]; exact h.sz, fun e y hy => ?_, h.mm, h.inj, h.own, h.okl, h.kpl⟩
    simp only [St.put] at hy
    rw [lk_up] at hy
    rw [put_get _ _ _ _ hd']
    split at hy
    · rename_i he; subst he
      rw [if_pos rfl]
      simp only [Option.some.injEq] at hy
      subst hy
      exact ⟨v, rfl, hx⟩
    · rename_i he
      rw [if_neg he]
      exact h.tm e y hy
end

/-- What an operation does to the state. -/
def Does (P : Program) (o : Oper) (st st' : St) : Prop :=
  ∀ (keep : Nat → Prop) (w : World) (E : Env) (a : Act), Inv keep w E st a →
    ∃ v w' E', ((execOp a.eval o).run P w = .ok (.value v) w' ∨ ((execOp a.eval o).run P w = .ok .skip w' ∧ v = undef)) ∧ Inv keep w' E' st' (a.put o.dst v) ∧ Evo keep w E w' E'

def svC : Value → SV
  | .slice none 0 0 => .lst []
  | v => .val v
def avC : Value → AV
  | .slice none 0 0 => .nil
  | .agg cs => .sv (.agg (cs.toList.map svC))
  | v => .sv (.val v)
def aval (st : St) : Operand → Option AV
  | .tmp d => lk st.t d
  | .const v => some (avC v)
  | .func f => some (.sv (.fn f []))
  | .global g => (lk Gtab g).map fun x => .sv (.ref x 0)
theorem svC_rep (w : World) (ok : Nat → Prop) (v : Value) : RepS w ok (svC v) v := by
  unfold svC
  split
  · simp [RepS]
  · simp only [RepS]
theorem svC_repL (w : World) (ok : Nat → Prop) (vs : List Value) : RepL w ok (vs.map svC) vs := by
  refine RepL.of (by simp) fun i x v hx hv => ?_
  rw [List.getElem?_map, hv] at hx
  simp at hx; subst hx
  exact svC_rep w ok v
theorem avC_rep (w : World) (E : Env) (m : Mem) (v : Value) : RepV w E m (avC v) v := by
  unfold avC
  split
  · simp only [RepV]
  · rename_i cs
    simp only [RepV, RepS]
    exact ⟨cs, rfl, svC_repL _ _ _⟩
  · simp only [RepV, RepS]
theorem aval_rep {keep : Nat → Prop} {w : World} {E : Env} {st : St} {a : Act} (h : Inv keep w E st a) {x : Operand} {y : AV} (hx : aval st x = some y) : RepV w E (lk st.m) y (a.eval x) := by
  cases x with
  | tmp d =>
    obtain ⟨v, h1, h2⟩ := h.tm d y hx
    simp only [Act.eval]
    rw [Array.getD_eq_getD_getElem?, h1]
    exact h2
  | const v =>
    simp only [aval, Option.some.injEq] at hx
    subst hx
    exact avC_rep _ _ _ _
  | func f =>
    simp only [aval, Option.some.injEq] at hx
    subst hx
    simp only [RepV, RepS, Act.eval]
    exact ⟨#[], rfl, RepL.nil⟩
  | global g =>
    simp only [aval] at hx
    obtain ⟨x, h1, rfl⟩ := Option.map_eq_some_iff.1 hx
    simp only [RepV, Act.eval]
    exact h.okl.gw g x h1

/-- The same, and what it tells is told in whatever way. -/
theorem Does.puts {P : Program} {o : Oper} {st : St} {x : AV} (hd : st.fitsDst o.dst = true)
    (h : ∀ (keep : Nat → Prop) (w : World) (E : Env) (a : Act), Inv keep w E st a → ∃ v, (execOp a.eval o).run P w = .ok (.value v) w ∧ RepV w E (lk st.m) x v) : Does P o st (st.put o.dst x) :=
  fun keep w E a hI => let ⟨v, h1, h2⟩ := h keep w E a hI; ⟨v, w, E, .inl h1, hI.put hd h2, Evo.refl _ _ _⟩

def AV.int : AV → Option (IntKind × Int)
  | .sv (.val (.int k n)) => some (k, n)
  | _ => none
def AV.bool : AV → Option Bool
  | .sv (.val (.bool b)) => some b
  | _ => none
theorem AV.int_eq {x : AV} {k : IntKind} {n : Int} (h : x.int = some (k, n)) : x = .sv (.val (.int k n)) := by
  unfold AV.int at h; split at h
  · simp at h; obtain ⟨rfl, rfl⟩ := h; rfl
  · cases h
theorem AV.bool_eq {x : AV} {b : Bool} (h : x.bool = some b) : x = .sv (.val (.bool b)) := by
  unfold AV.bool at h; split at h
  · simp at h; subst h; rfl
  · cases h
theorem RepV.val {w : World} {E : Env} {m : Mem} {u v : Value} (h : RepV w E m (.sv (.val u)) v) : v = u := by simpa only [RepV, RepS] using h
theorem RepV.val_mk {w : World} {E : Env} {m : Mem} (u : Value) : RepV w E m (.sv (.val u)) u := by simp only [RepV, RepS]

/-- The operators on bits. -/
def iand (k : IntKind) (x y : Int) : Int := k.wrap (BitVec.ofInt k.bits x &&& BitVec.ofInt k.bits y).toNat
def ior (k : IntKind) (x y : Int) : Int := k.wrap (BitVec.ofInt k.bits x ||| BitVec.ofInt k.bits y).toNat
def ixor (k : IntKind) (x y : Int) : Int := k.wrap (BitVec.ofInt k.bits x ^^^ BitVec.ofInt k.bits y).toNat
def iandn (k : IntKind) (x y : Int) : Int := k.wrap (BitVec.ofInt k.bits x &&& ~~~BitVec.ofInt k.bits y).toNat
/-- The operators on whole numbers. -/
def ibin (op : BinOp) (k : IntKind) (x y : Int) : Option Value :=
  match op with
  | .add => some (.int k (k.wrap (x + y)))
  | .sub => some (.int k (k.wrap (x - y)))
  | .mul => some (.int k (k.wrap (x * y)))
  | .quo => if y = 0 then none else some (.int k (k.wrap (x.tdiv y)))
  | .rem => if y = 0 then none else some (.int k (x.tmod y))
  | .and => some (.int k (iand k x y))
  | .or => some (.int k (ior k x y))
  | .xor => some (.int k (ixor k x y))
  | .andNot => some (.int k (iandn k x y))
  | .eql => some (.bool (x == y))
  | .neq => some (.bool (x != y))
  | .lss => some (.bool (decide (x < y)))
  | .leq => some (.bool (decide (x ≤ y)))
  | .gtr => some (.bool (decide (x > y)))
  | .geq => some (.bool (decide (x ≥ y)))
  | _ => none
def ishift (op : BinOp) (k : IntKind) (x y : Int) : Option Value :=
  if y < 0 then none else
  match op with
  | .shl => some (.int k (k.wrap (x * 2 ^ (min y.toNat k.bits))))
  | .shr => some (.int k (x.fdiv (2 ^ (min y.toNat k.bits))))
  | _ => none
theorem run_ibin {P : Program} {op : BinOp} {t : TypeId} {k : IntKind} {a b : Int} {v : Value} {w : World} {x y : Operand} (hs : op ≠ .shl ∧ op ≠ .shr) (h : ibin op k a b = some v) :
    (do eqGuard op t x y (.int k a) (.int k b); binOp op t (.int k a) (.int k b) : Sem Value).run P w = .ok v w := by
  cases op <;> simp_all [ibin, iand, ior, ixor, iandn, eqGuard, binOp, Op.intArith, Op.intDiv, Op.intBits, Op.intCmp] <;> (try (obtain ⟨h1, h2⟩ := h; simp_all))
theorem run_ishift {P : Program} {op : BinOp} {t : TypeId} {k k' : IntKind} {a b : Int} {v : Value} {w : World} {x y : Operand} (hs : op = .shl ∨ op = .shr) (h : ishift op k a b = some v) :
    (do eqGuard op t x y (.int k a) (.int k' b); binOp op t (.int k a) (.int k' b) : Sem Value).run P w = .ok v w := by
  unfold ishift at h
  split at h
  · cases h
  · rename_i hb
    rcases hs with rfl | rfl <;> simp_all [eqGuard, binOp, Op.shift] <;> (intro h1; omega)
theorem does_move {P : Program} {o : Oper} {st : St} {x : Operand} {X : AV} (ho : o.op = .move x ∨ o.op = .assign x) (hx : aval st x = some X) (hd : st.fitsDst o.dst = true) : Does P o st (st.put o.dst X) := by
  refine Does.puts hd fun keep w E a hI => ⟨a.eval x, ?_, aval_rep hI hx⟩
  rcases ho with ho | ho <;> (unfold execOp; rw [ho]; rfl)

theorem does_not {P : Program} {o : Oper} {st : St} {t : TypeId} {x : Operand} {X : AV} {b : Bool} (ho : o.op = .unOp .not t x) (hx : aval st x = some X) (hb : X.bool = some b) (hd : st.fitsDst o.dst = true) :
    Does P o st (st.put o.dst (.sv (.val (.bool (!b))))) := by
  refine Does.puts hd fun keep w E a hI => ⟨_, ?_, RepV.val_mk _⟩
  have h1 := aval_rep hI hx
  rw [AV.bool_eq hb] at h1
  unfold execOp
  rw [ho]
  simp only [h1.val]
  simp [Op.unary]
theorem does_neg {P : Program} {o : Oper} {st : St} {t : TypeId} {x : Operand} {X : AV} {k : IntKind} {n : Int} (ho : o.op = .unOp .neg t x) (hx : aval st x = some X) (hb : X.int = some (k, n)) (hd : st.fitsDst o.dst = true) :
    Does P o st (st.put o.dst (.sv (.val (.int k (k.wrap (0 - n)))))) := by
  refine Does.puts hd fun keep w E a hI => ⟨_, ?_, RepV.val_mk _⟩
  have h1 := aval_rep hI hx
  rw [AV.int_eq hb] at h1
  unfold execOp
  rw [ho]
  simp only [h1.val]
  simp [Op.unary, Op.intArith]

/-- A component of what was answered. -/
theorem does_extract {P : Program} {o : Oper} {st : St} {x : Operand} {i : Nat} {xs : List AV} {y : AV} (ho : o.op = .extract x i) (hx : aval st x = some (.tup xs)) (hy : xs[i]? = some y) (hd : st.fitsDst o.dst = true) :
    Does P o st (st.put o.dst y) := by
  refine Does.puts hd fun keep w E a hI => ?_
  have h1 := aval_rep hI hx
  simp only [RepV] at h1
  obtain ⟨cs, hcs, hr⟩ := h1
  obtain ⟨v, hv, hrv⟩ := hr.at hy
  refine ⟨v, ?_, hrv⟩
  unfold execOp
  rw [ho]
  simp only [hcs]
  have : cs[i]? = some v := by simpa using hv
  simp [Instr.extract, this]
end Go.Proofs.Ytimllhflecippaa.Ab
end

section
namespace Go.Proofs.Ytimllhflecippaa.Ab
open Go.RowKit
set_option linter.unusedVariables false
set_option linter.unusedSimpArgs false

/-- Does anything hold the tag? -/
def St.held (st : St) (t : Nat) : Bool := st.t.any (fun p => p.2.holds t) || st.m.any (fun p => match p.2 with | .box cs => AV.holdsL t cs | _ => false)
theorem lk_mem {α : Type} : ∀ {l : List (Nat × α)} {d : Nat} {x : α}, lk l d = some x → (d, x) ∈ l
  | [], d, x, h => by simp [lk] at h
  | (k, y) :: l, d, x, h => by
    simp only [lk] at h
    split at h
    · rename_i hk; simp at h; subst hk; subst h; exact List.mem_cons_self
    · exact List.mem_cons_of_mem _ (lk_mem h)
theorem held_t {st : St} {t d : Nat} {x : AV} (h : st.held t = false) (hx : lk st.t d = some x) : x.holds t = false := by
  simp only [St.held, Bool.or_eq_false_iff, List.any_eq_false] at h
  have := h.1 _ (lk_mem hx)
  simpa using this
theorem held_m {st : St} {t d : Nat} {cs : List AV} (h : st.held t = false) (hx : lk st.m d = some (.box cs)) : AV.holdsL t cs = false := by
  simp only [St.held, Bool.or_eq_false_iff, List.any_eq_false] at h
  have := h.2 _ (lk_mem hx)
  simpa using this
/-- A tag that may be given anew. -/
def St.fresh (st : St) (t : Nat) : Bool := decide (t < 1000000) && (!st.held t && (lk st.m t).isNone)
theorem St.fresh_pin {st : St} {t : Nat} (h : st.fresh t = true) : t < 1000000 := by
  simp only [St.fresh, Bool.and_eq_true, decide_eq_true_eq] at h
  exact h.1

/-- How a tag passes from one memory to another one. -/
def Pass (E E' : Env) (m m' : Mem) (t : Nat) : Prop :=
  m' t = none ∨ (E'.at_ t = E.at_ t ∧ ((∃ k xs ys, m t = some (.row k xs) ∧ m' t = some (.row k ys) ∧ xs.length = ys.length) ∨ (∃ cs ds, m t = some (.box cs) ∧ m' t = some (.box ds))))

section
variable {kp : Nat → Prop} {w w' : World} {E E' : Env} {st st' : St} {a : Act} {m m' : Mem} {t : Nat} {o : Obj'}

theorem MemRep.keep (hok : ∀ b, E.ok b → E'.ok b ∧ w'.heap[b]? = w.heap[b]?) (he : E'.at_ t = E.at_ t) (hb : ∀ g c s, E.at_ t = some (g, c, s) → w'.heap[g]? = w.heap[g]?)
    (hp : ∀ s cs, o = .box cs → AV.holdsL s cs = true → Pass E E' m m' s) (h : MemRep w E m t o) : MemRep w' E' m' t o := by
  cases o with
  | row sz xs =>
    obtain ⟨h0, h⟩ := h
    rcases h with ⟨h1, h2⟩ | ⟨g, c, e, cur, vs, h1, h2, h3, h4, h5, h6, h7, h8⟩
    · exact ⟨h0, .inl ⟨by rw [he]; exact h1, h2⟩⟩
    · exact ⟨h0, .inr ⟨g, c, e, cur, vs, by rw [he]; exact h1, by rw [hb _ _ _ h1]; exact h2, h3, h4, h5, h6, h7.keep hok, h8⟩⟩
  | box cs =>
    obtain ⟨g, c, sz, e, cur, h1, h2, h3⟩ := h
    exact ⟨g, c, sz, e, cur, by rw [he]; exact h1, by rw [hb _ _ _ h1]; exact h2, h3.keep hok (fun s hs => hp s cs rfl hs)⟩

/-- The memory turns; the temporaries stay. -/
theorem Inv.turn (h : Inv kp w E st a) {l : List (Nat × Obj')} (hsz : w.heap.size ≤ w'.heap.size) (hok : ∀ b, E.ok b → E'.ok b ∧ w'.heap[b]? = w.heap[b]?)
    (hp : ∀ s, st.held s = true → Pass E E' (lk st.m) (lk l) s)
    (hm : ∀ t o, lk l t = some o → MemRep w' E' (lk l) t o)
    (hi : ∀ (t t' : Nat) (o o' : Obj') (g c s c' s' : Nat), lk l t = some o → lk l t' = some o' → E'.at_ t = some (g, c, s) → E'.at_ t' = some (g, c', s') → t = t')
    (hw : ∀ (t : Nat) (o : Obj') (g c s : Nat), lk l t = some o → E'.at_ t = some (g, c, s) → g < w'.heap.size ∧ ¬ E'.ok g ∧ ¬ kp g)
    (hl : ∀ b, E'.ok b → b < w'.heap.size) : Inv kp w' E' { st with m := l } a := by
  refine ⟨h.df, h.sz, fun d x hx => ?_, hm, hi, hw, ⟨hl, h.okl.gw.keep hok⟩, fun b hb => Nat.lt_of_lt_of_le (h.kpl b hb) hsz⟩
  obtain ⟨v, h1, h2⟩ := h.tm d x hx
  refine ⟨v, h1, h2.keep hok fun s hs => hp s ?_⟩
  cases hh : st.held s with
  | true => rfl
  | false => rw [held_t hh hx] at hs; cases hs

def Env.set (E : Env) (t : Nat) (x : Option (Nat × Nat × Nat)) : Env := { E with at_ := fun s => if s = t then x else E.at_ s }

theorem Env.set_pin {E : Env} {d : Nat} {x : Option (Nat × Nat × Nat)} (h : d < 1000000) : ∀ t, 1000000 ≤ t → (E.set d x).at_ t = E.at_ t := fun t ht => by
  simp only [Env.set]
  rw [if_neg (by omega)]

/-- A new block for a tag that nobody holds. -/
theorem Inv.new (h : Inv kp w E st a) (hf : st.fresh t = true) (hw : w'.heap.size = w.heap.size + 1) (hold : ∀ i, i < w.heap.size → w'.heap[i]? = w.heap[i]?) (c sz : Nat)
    (hm : MemRep w' (E.set t (some (w.heap.size, c, sz))) (lk (up st.m t o)) t o) : Inv kp w' (E.set t (some (w.heap.size, c, sz))) { st with m := up st.m t o } a := by
  simp only [St.fresh, Bool.and_eq_true, Bool.not_eq_true', Option.isNone_iff_eq_none, decide_eq_true_eq] at hf
  obtain ⟨_, hh, hn⟩ := hf
  have hok : ∀ b, E.ok b → (E.set t (some (w.heap.size, c, sz))).ok b ∧ w'.heap[b]? = w.heap[b]? := fun b hb => ⟨hb, hold b (h.okl b hb)⟩
  have hpass : ∀ s, s ≠ t → Pass E (E.set t (some (w.heap.size, c, sz))) (lk st.m) (lk (up st.m t o)) s := fun s hs => by
    unfold Pass
    rw [lk_up, if_neg (Ne.symm hs), show (E.set t (some (w.heap.size, c, sz))).at_ s = E.at_ s by simp [Env.set, hs]]
    exact same_tags E (lk st.m) s
  have hat : ∀ s o', lk (up st.m t o) s = some o' → (s = t ∧ o' = o) ∨ (s ≠ t ∧ lk st.m s = some o') := fun s o' hs => by
    rw [lk_up] at hs
    split at hs
    · simp at hs; exact .inl ⟨by omega, hs.symm⟩
    · exact .inr ⟨by omega, hs⟩
  refine h.turn (by omega) hok (fun s hs => hpass s (fun e => by rw [e, hh] at hs; cases hs)) ?_ ?_ ?_ (fun b hb => Nat.lt_of_lt_of_le (h.okl b hb) (by omega))
  · intro s o' hs
    rcases hat s o' hs with ⟨rfl, rfl⟩ | ⟨hne, ks⟩
    · exact hm
    · refine (h.mm s o' ks).keep hok (by simp [Env.set, hne]) (fun g c' s' hg => hold g (h.own s o' g c' s' ks hg).1) fun u cs hcs hu => hpass u ?_
      intro hut
      rw [hcs] at ks
      rw [hut, held_m hh ks] at hu
      cases hu
  · intro s s' o1 o2 g c1 z1 c2 z2 h1 h2 e1 e2
    rcases hat s o1 h1 with ⟨rfl, rfl⟩ | ⟨hne, k1⟩ <;> rcases hat s' o2 h2 with ⟨rfl, rfl⟩ | ⟨hne', k2⟩
    · rfl
    · simp only [Env.set, if_true, if_neg hne', Option.some.injEq, Prod.mk.injEq] at e1 e2
      have := (h.own s' o2 g c2 z2 k2 e2).1
      omega
    · simp only [Env.set, if_true, if_neg hne, Option.some.injEq, Prod.mk.injEq] at e1 e2
      have := (h.own s o1 g c1 z1 k1 e1).1
      omega
    · simp only [Env.set, if_neg hne, if_neg hne'] at e1 e2
      exact h.inj s s' o1 o2 g c1 z1 c2 z2 k1 k2 e1 e2
  · intro s o' g c' s' hs hg
    rcases hat s o' hs with ⟨rfl, rfl⟩ | ⟨hne, hs⟩
    · simp only [Env.set, if_true, Option.some.injEq, Prod.mk.injEq] at hg
      obtain ⟨rfl, _, _⟩ := hg
      exact ⟨by omega, fun hk => Nat.lt_irrefl _ (h.okl _ hk), fun hk => Nat.lt_irrefl _ (h.kpl _ hk)⟩
    · simp only [Env.set, if_neg hne] at hg
      have := h.own s o' g c' s' hs hg
      exact ⟨by omega, this.2.1, this.2.2⟩

theorem Evo.grow (h : Inv kp w E st a) (hd : w'.os = w.os ∧ w'.tape = w.tape ∧ w'.output = w.output) (hw : w.heap.size ≤ w'.heap.size) (hold : ∀ i, i < w.heap.size → w'.heap[i]? = w.heap[i]?) (he : E'.ok = E.ok) (hp : ∀ t, 1000000 ≤ t → E'.at_ t = E.at_ t) (hdr : w.drawn ≤ w'.drawn := by first | exact Nat.le_refl _ | exact Nat.le_succ _) : Evo kp w E w' E' :=
  ⟨hd.1, hd.2.1, hd.2.2, hw, fun b hb => hold b (h.kpl b hb), fun b hb => ⟨by rw [he]; exact hb, hold b (h.okl b hb)⟩, fun b hb => .inl (by rw [he] at hb; exact hb), hp, fun _ => hdr⟩

/-- The block of one tag is written. -/
theorem Inv.write (h : Inv kp w E st a) {o : Obj'} {g c sz : Nat} (ho : lk st.m t = some o) (hg : E.at_ t = some (g, c, sz)) (hw : w'.heap.size = w.heap.size) (hold : ∀ i, i ≠ g → w'.heap[i]? = w.heap[i]?) {o' : Obj'}
    (hkind : (∃ k xs ys, o = .row k xs ∧ o' = .row k ys ∧ xs.length = ys.length) ∨ (∃ cs ds, o = .box cs ∧ o' = .box ds))
    (hm : MemRep w' E (lk (up st.m t o')) t o') : Inv kp w' E { st with m := up st.m t o' } a := by
  have hown := h.own t o g c sz ho hg
  have hok : ∀ b, E.ok b → E.ok b ∧ w'.heap[b]? = w.heap[b]? := fun b hb => ⟨hb, hold b (fun e => hown.2.1 (e ▸ hb))⟩
  have hpass : ∀ s, Pass E E (lk st.m) (lk (up st.m t o')) s := fun s => by
    unfold Pass
    rw [lk_up]
    split
    · rename_i e; subst e
      refine .inr ⟨rfl, ?_⟩
      rcases hkind with ⟨k, xs, ys, rfl, rfl, hl⟩ | ⟨cs, ds, rfl, rfl⟩
      · exact .inl ⟨k, xs, ys, ho, rfl, hl⟩
      · exact .inr ⟨cs, ds, ho, rfl⟩
    · exact same_tags E (lk st.m) s
  have hat : ∀ s o1, lk (up st.m t o') s = some o1 → (s = t ∧ o1 = o') ∨ (s ≠ t ∧ lk st.m s = some o1) := fun s o1 hs => by
    rw [lk_up] at hs
    split at hs
    · simp at hs; exact .inl ⟨by omega, hs.symm⟩
    · exact .inr ⟨by omega, hs⟩
  have hex : ∀ s o1, lk (up st.m t o') s = some o1 → ∃ o2, lk st.m s = some o2 := fun s o1 hs => by
    rcases hat s o1 hs with ⟨rfl, _⟩ | ⟨_, h1⟩
    · exact ⟨o, ho⟩
    · exact ⟨o1, h1⟩
  refine h.turn (by omega) hok (fun s _ => hpass s) ?_ ?_ ?_ (fun b hb => by have := h.okl b hb; omega)
  · intro s o1 hs
    rcases hat s o1 hs with ⟨rfl, rfl⟩ | ⟨hne, hs⟩
    · exact hm
    · exact (h.mm s o1 hs).keep hok rfl (fun g' c' s' hg' => hold g' (fun e => hne (h.inj s t o1 o g' c' s' c sz hs ho hg' (e ▸ hg)))) fun u cs _ _ => hpass u
  · intro s s' o1 o2 g' c1 z1 c2 z2 h1 h2 e1 e2
    obtain ⟨p1, h1⟩ := hex s o1 h1
    obtain ⟨p2, h2⟩ := hex s' o2 h2
    exact h.inj s s' p1 p2 g' c1 z1 c2 z2 h1 h2 e1 e2
  · intro s o1 g' c' s' hs hg'
    obtain ⟨p1, hs⟩ := hex s o1 hs
    have := h.own s p1 g' c' s' hs hg'
    exact ⟨by omega, this.2⟩
theorem Evo.write (h : Inv kp w E st a) {o : Obj'} {g c sz : Nat} (ho : lk st.m t = some o) (hg : E.at_ t = some (g, c, sz)) (hd : w'.os = w.os ∧ w'.tape = w.tape ∧ w'.output = w.output) (hw : w'.heap.size = w.heap.size)
    (hold : ∀ i, i ≠ g → w'.heap[i]? = w.heap[i]?) (hdr : w.drawn ≤ w'.drawn := by first | exact Nat.le_refl _ | exact Nat.le_succ _) : Evo kp w E w' E := by
  have hown := h.own t o g c sz ho hg
  exact ⟨hd.1, hd.2.1, hd.2.2, by omega, fun b hb => hold b (fun e => hown.2.2 (e ▸ hb)), fun b hb => ⟨hb, hold b (fun e => hown.2.1 (e ▸ hb))⟩, fun b hb => .inl hb, fun _ _ => rfl, fun _ => hdr⟩
end

def tsz (P : Program) (t : TypeId) : Nat := P.cellsOf t
def tagg (P : Program) (t : TypeId) : Bool := match P.underlying t with | some (.struct _) => true | some (.array _ _) => true | _ => false
def tzero (P : Program) (t : TypeId) : Option Value := (P.info? t).bind (·.zero)
def tby (P : Program) (t : TypeId) : Nat := P.bytesOf t
section
variable {P : Program} {t : TypeId} {w : World}
theorem run_isAgg (h : (P.underlying t).isSome = true) : (isAgg t).run P w = .ok (tagg P t) w := by
  obtain ⟨d, hd⟩ := Option.isSome_iff_exists.1 h
  unfold isAgg
  rw [Sem.run_bind, run_underlying hd]
  unfold tagg
  rw [hd]
  cases d <;> rfl
theorem run_sizeOf (h : (P.info? t).isSome = true) : (sizeOf t).run P w = .ok (tsz P t) w := by
  obtain ⟨i, hi⟩ := Option.isSome_iff_exists.1 h
  simp [sizeOf, typeInfo, hi, tsz, Program.cellsOf]
theorem info_of_underlying (h : (P.underlying t).isSome = true) : (P.info? t).isSome = true := by
  unfold Program.underlying at h
  split at h
  · rename_i hi; rw [hi]; rfl
  · rename_i hi; rw [hi]; rfl
  · cases h
theorem run_zeroValue {z : Value} (h : tzero P t = some z) : (zeroValue t).run P w = .ok z w := by
  unfold tzero at h
  obtain ⟨i, h1, h2⟩ := Option.bind_eq_some_iff.1 h
  simp [zeroValue, typeInfo, h1, h2]
end

/-- The cells of a frame value; a value that is not known has none. -/
def SV.solid : SV → Bool
  | .any => false
  | .val v => v.oneCell'
  | _ => true
/-- Is it in one cell, and is what it leads to still there? -/
def AV.live (m : Mem) : AV → Bool
  | .sv x => x.one
  | .own t | .elt t _ _ => match m t with
    | some (.row _ _) => true
    | _ => false
  | .box t _ | .sl t _ => match m t with
    | some (.box _) => true
    | _ => false
  | .nil | .fnv _ _ => true
  | .tup _ | .agg _ => false
def AV.cells (m : Mem) : AV → Option (List AV)
  | .sv x => if x.solid = true then some (x.cells.map .sv) else none
  | .own t => match m t with
    | some (.row _ _) => some [.own t]
    | _ => none
  | .box t o => match m t with
    | some (.box _) => some [.box t o]
    | _ => none
  | .elt t i o => match m t with
    | some (.row _ _) => some [.elt t i o]
    | _ => none
  | .nil => some [.nil]
  | .fnv f caps => some [.fnv f caps]
  | .tup _ => none
  | .agg xs => if xs.all (AV.live m) = true then some xs else none
  | .sl t n => match m t with
    | some (.box _) => some [.sl t n]
    | _ => none
def AV.one : AV → Bool
  | .sv x => x.one
  | .tup _ | .agg _ => false
  | _ => true
def AV.svs : List AV → Option (List SV)
  | [] => some []
  | .sv x :: l => (AV.svs l).map (x :: ·)
  | .nil :: l => (AV.svs l).map (.lst [] :: ·)
  | _ => none
section
variable {w : World} {E : Env} {m : Mem} {ok : Nat → Prop}
theorem cells_one {v : Value} (h : v.oneCell' = true) : v.cells = #[v] := by cases v <;> simp_all [Value.oneCell', Value.cells]
theorem RepS.cells {x : SV} {v : Value} (hs : x.solid = true) (h : RepS w ok x v) : RepL w ok x.cells v.cells.toList := by
  cases x with
  | any => cases hs
  | val u =>
    simp only [RepS] at h; subst h
    rw [cells_one hs]
    exact RepL.cons (by simp only [RepS]) RepL.nil
  | agg xs => simp only [RepS] at h; obtain ⟨cs, rfl, h⟩ := h; exact h
  | lst xs =>
    have h' := h
    simp only [RepS] at h; obtain ⟨a, c, rfl, _⟩ := h
    exact RepL.cons h' RepL.nil
  | ref x off =>
    have h' := h
    simp only [RepS] at h; obtain ⟨a, u, rfl, _⟩ := h
    exact RepL.cons h' RepL.nil
  | fn f caps =>
    have h' := h
    simp only [RepS] at h; obtain ⟨cs, rfl, _⟩ := h
    exact RepL.cons h' RepL.nil
theorem RepVL.of_svs : ∀ {xs : List SV} {vs : List Value}, RepL w E.ok xs vs → RepVL w E m (xs.map .sv) vs
  | [], vs, h => by simp only [RepL] at h; subst h; exact RepVL.nil
  | x :: xs, vs, h => by
    simp only [RepL] at h
    obtain ⟨v, vs', rfl, hx, hs⟩ := h
    exact RepVL.cons (by simp only [RepV]; exact hx) (RepVL.of_svs hs)
theorem RepVL.svs : ∀ {xs : List AV} {ys : List SV} {vs : List Value}, AV.svs xs = some ys → RepVL w E m xs vs → RepL w E.ok ys vs
  | [], ys, vs, h, hr => by simp only [AV.svs, Option.some.injEq] at h; subst h; simp only [RepVL] at hr; subst hr; exact RepL.nil
  | x :: xs, ys, vs, h, hr => by
    simp only [RepVL] at hr
    obtain ⟨v, vs', rfl, hx, hs⟩ := hr
    cases x with
    | sv x =>
      simp only [AV.svs, Option.map_eq_some_iff] at h
      obtain ⟨l, hl, rfl⟩ := h
      exact RepL.cons (by simpa only [RepV] using hx) (RepVL.svs hl hs)
    | nil =>
      simp only [AV.svs, Option.map_eq_some_iff] at h
      obtain ⟨l, hl, rfl⟩ := h
      simp only [RepV] at hx
      subst hx
      exact RepL.cons (by simp [RepS]) (RepVL.svs hl hs)
    | _ => simp [AV.svs] at h
theorem RepS.oneCell {x : SV} {v : Value} (h1 : x.one = true) (h : RepS w ok x v) : v.oneCell' = true := by
  cases x <;> simp only [RepS] at h
  · simp [SV.one] at h1
  · subst h; exact h1
  · simp [SV.one] at h1
  · obtain ⟨a, c, rfl, _⟩ := h; rfl
  · obtain ⟨a, u, rfl, _⟩ := h; rfl
  · obtain ⟨cs, rfl, _⟩ := h; rfl
theorem RepL.oneCell : ∀ {xs : List SV} {vs : List Value}, xs.all SV.one = true → RepL w ok xs vs → ∀ y ∈ vs, y.oneCell' = true
  | [], vs, _, h, y, hy => by simp only [RepL] at h; subst h; cases hy
  | x :: xs, vs, h1, h, y, hy => by
    simp only [RepL] at h
    obtain ⟨v, vs', rfl, hx, hs⟩ := h
    simp only [List.all_cons, Bool.and_eq_true] at h1
    rcases List.mem_cons.1 hy with rfl | hy
    · exact hx.oneCell h1.1
    · exact RepL.oneCell h1.2 hs y hy
theorem AV.live_one {x : AV} {v : Value} (hl : x.live m = true) (h : RepV w E m x v) : v.oneCell' = true := by
  cases x with
  | sv x => simp only [RepV] at h; exact h.oneCell hl
  | nil => simp only [RepV] at h; subst h; rfl
  | own t =>
    simp only [AV.live] at hl
    simp only [RepV] at h
    split at hl
    · rename_i k xs hm
      rw [hm] at h
      dsimp only at h
      split at h
      · obtain ⟨a, rfl⟩ := h; rfl
      · subst h; rfl
    · cases hl
  | box t o =>
    simp only [AV.live] at hl
    simp only [RepV] at h
    split at hl
    · rename_i xs hm
      rw [hm] at h
      obtain ⟨g, c, sz, _, rfl⟩ := h; rfl
    · cases hl
  | elt t i o =>
    simp only [AV.live] at hl
    simp only [RepV] at h
    split at hl
    · rename_i k xs hm
      rw [hm] at h
      obtain ⟨g, c, sz, _, rfl, _⟩ := h; rfl
    · cases hl
  | tup xs => cases hl
  | fnv f caps => simp only [RepV] at h; obtain ⟨cs, rfl, _⟩ := h; rfl
  | agg xs => cases hl
  | sl t n =>
    simp only [AV.live] at hl
    simp only [RepV] at h
    split at hl
    · rename_i xs hm
      rw [hm] at h
      obtain ⟨g, c, sz, _, rfl⟩ := h; rfl
    · cases hl
theorem RepVL.live_one : ∀ {xs : List AV} {vs : List Value}, xs.all (AV.live m) = true → RepVL w E m xs vs → ∀ y ∈ vs, y.oneCell' = true
  | [], vs, _, h, y, hy => by simp only [RepVL] at h; subst h; cases hy
  | x :: xs, vs, h1, h, y, hy => by
    simp only [RepVL] at h
    obtain ⟨v, vs', rfl, hx, hs⟩ := h
    simp only [List.all_cons, Bool.and_eq_true] at h1
    rcases List.mem_cons.1 hy with rfl | hy
    · exact AV.live_one h1.1 hx
    · exact RepVL.live_one h1.2 hs y hy
theorem RepV.cells {x : AV} {v : Value} {cs : List AV} (hs : x.cells m = some cs) (h : RepV w E m x v) : RepVL w E m cs v.cells.toList ∧ (cs.all AV.one = true → ∀ y ∈ v.cells, y.oneCell' = true) := by
  have one : ∀ {y : AV} {u : Value}, RepV w E m y u → u.oneCell' = true → cs = [y] → v = u → RepVL w E m cs v.cells.toList ∧ (cs.all AV.one = true → ∀ y ∈ v.cells, y.oneCell' = true) := by
    intro y u hy hu hc hv
    subst hv; subst hc
    rw [cells_one hu]
    exact ⟨RepVL.cons hy RepVL.nil, fun _ z hz => by simp at hz; subst hz; exact hu⟩
  cases x with
  | sv x =>
    simp only [AV.cells] at hs
    split at hs
    · rename_i hso
      simp only [Option.some.injEq] at hs; subst hs
      simp only [RepV] at h
      refine ⟨RepVL.of_svs (RepS.cells hso h), fun h1 y hy => RepL.oneCell (xs := x.cells) ?_ (RepS.cells hso h) y (by simpa using hy)⟩
      simpa [AV.one] using h1
    · cases hs
  | nil =>
    simp only [AV.cells, Option.some.injEq] at hs
    have h' := h
    simp only [RepV] at h
    exact one h' (by rw [h]; rfl) hs.symm rfl
  | own t =>
    have h' := h
    simp only [AV.cells] at hs
    simp only [RepV] at h
    split at hs
    · rename_i xs hm
      rw [hm] at h
      dsimp only at h
      refine one h' ?_ (by simpa using hs.symm) rfl
      split at h
      · obtain ⟨a, rfl⟩ := h; rfl
      · subst h; rfl
    · cases hs
  | box t o =>
    have h' := h
    simp only [AV.cells] at hs
    simp only [RepV] at h
    split at hs
    · rename_i xs hm
      rw [hm] at h
      dsimp only at h
      obtain ⟨g, c, sz, _, hv⟩ := h
      exact one h' (by rw [hv]; rfl) (by simpa using hs.symm) rfl
    · cases hs
  | elt t i o =>
    have h' := h
    simp only [AV.cells] at hs
    simp only [RepV] at h
    split at hs
    · rename_i xs hm
      rw [hm] at h
      dsimp only at h
      obtain ⟨g, c, sz, _, hv, _⟩ := h
      exact one h' (by rw [hv]; rfl) (by simpa using hs.symm) rfl
    · cases hs
  | tup xs => simp [AV.cells] at hs
  | agg xs =>
    simp only [AV.cells] at hs
    split at hs
    · rename_i hl
      simp only [Option.some.injEq] at hs; subst hs
      simp only [RepV] at h
      obtain ⟨ds, rfl, h⟩ := h
      exact ⟨h, fun _ y hy => RepVL.live_one hl h y (by simpa [Value.cells] using hy)⟩
    · cases hs
  | sl t n =>
    have h' := h
    simp only [AV.cells] at hs
    simp only [RepV] at h
    split at hs
    · rename_i xs hm
      rw [hm] at h
      dsimp only at h
      obtain ⟨g, c, sz, _, hv⟩ := h
      exact one h' (by rw [hv]; rfl) (by simpa using hs.symm) rfl
    · cases hs
  | fnv f caps =>
    simp only [AV.cells, Option.some.injEq] at hs
    have h' := h
    simp only [RepV] at h; obtain ⟨ds, hv, h⟩ := h
    exact one h' (by rw [hv]; rfl) hs.symm rfl
end

/-- Cells from a place on. -/
def setAt {α : Type} (cs : List α) (off : Nat) (ys : List α) : List α := cs.take off ++ ys ++ cs.drop (off + ys.length)
theorem setAt_length {α : Type} (cs : List α) (off : Nat) (ys : List α) (h : off + ys.length ≤ cs.length) : (setAt cs off ys).length = cs.length := by
  simp [setAt]; omega
theorem RepVL.append {w : World} {E : Env} {m : Mem} : ∀ {xs ys : List AV} {vs us : List Value}, RepVL w E m xs vs → RepVL w E m ys us → RepVL w E m (xs ++ ys) (vs ++ us)
  | [], ys, vs, us, h, k => by simp only [RepVL] at h; subst h; exact k
  | x :: xs, ys, vs, us, h, k => by
    simp only [RepVL] at h
    obtain ⟨v, vs', rfl, hx, hs⟩ := h
    exact RepVL.cons hx (hs.append k)
theorem RepVL.take {w : World} {E : Env} {m : Mem} {xs : List AV} {vs : List Value} (h : RepVL w E m xs vs) (n : Nat) : RepVL w E m (xs.take n) (vs.take n) :=
  RepVL.of (by simp [h.len]) fun i x v hx hv => by
    rw [List.getElem?_take] at hx hv
    split at hx
    · rw [if_pos ‹_›] at hv; exact h.get i x v hx hv
    · cases hx
theorem RepVL.drop {w : World} {E : Env} {m : Mem} {xs : List AV} {vs : List Value} (h : RepVL w E m xs vs) (n : Nat) : RepVL w E m (xs.drop n) (vs.drop n) :=
  RepVL.of (by simp [h.len]) fun i x v hx hv => by
    rw [List.getElem?_drop] at hx hv
    exact h.get _ x v hx hv
theorem RepVL.setAt {w : World} {E : Env} {m : Mem} {xs ys : List AV} {vs us : List Value} (h : RepVL w E m xs vs) (k : RepVL w E m ys us) (off : Nat) : RepVL w E m (setAt xs off ys) (setAt vs off us) := by
  unfold Ab.setAt
  rw [← k.len]
  exact ((h.take off).append k).append (h.drop _)
theorem RepL.setAt {w : World} {ok : Nat → Prop} {xs ys : List SV} {vs us : List Value} (h : RepL w ok xs vs) (k : RepL w ok ys us) (off : Nat) : RepL w ok (setAt xs off ys) (setAt vs off us) := by
  unfold Ab.setAt
  rw [← k.len]
  exact ((h.take off).append k).append (h.drop _)
end Go.Proofs.Ytimllhflecippaa.Ab
end

section
namespace Go.Proofs.Ytimllhflecippaa.Ab
open Go.RowKit
set_option linter.unusedVariables false
set_option linter.unusedSimpArgs false
section
variable {P : Program} {o : Oper} {st : St} {d : Nat} {e ty : TypeId} {x y : Operand} {X Y : AV}

theorem aval_held {t : Nat} (hx : aval st x = some X) (h : X.holds t = true) : st.held t = true := by
  cases x with
  | tmp d =>
    cases hh : st.held t with
    | true => rfl
    | false => rw [held_t hh hx] at h; cases h
  | const v =>
    simp only [aval, Option.some.injEq] at hx
    subst hx
    unfold avC at h
    split at h <;> simp [AV.holds] at h
  | func f => simp only [aval, Option.some.injEq] at hx; subst hx; simp [AV.holds] at h
  | global g =>
    simp only [aval] at hx
    obtain ⟨x, _, rfl⟩ := Option.map_eq_some_iff.1 hx
    simp [AV.holds] at h
theorem fresh_ne {t s : Nat} (hf : st.fresh t = true) (hs : st.held s = true) : s ≠ t := by
  rintro rfl
  simp only [St.fresh, Bool.and_eq_true, Bool.not_eq_true'] at hf
  rw [hf.2.1] at hs; cases hs

/-- A box of so many cells. -/
theorem box_new {keep : Nat → Prop} {w : World} {E : Env} {a : Act} (hI : Inv keep w E st a) (hf : st.fresh d = true) (hn : d < st.n) (cs : List AV) (vs : Array Value) (hr : RepVL w E (lk st.m) cs vs.toList)
    (hh : ∀ t, AV.holdsL t cs = true → t ≠ d) : Inv keep (w.alloc (.cells vs e)) (E.set d (some (w.heap.size, 0, 0))) { st with t := up st.t d (.box d 0), m := up st.m d (.box cs) } (a.put (some d) (.pointer (some ⟨w.heap.size, 0, none⟩))) := by
  have hsz : (w.alloc (.cells vs e)).heap.size = w.heap.size + 1 := by simp
  have hold : ∀ i, i < w.heap.size → (w.alloc (.cells vs e)).heap[i]? = w.heap[i]? := fun i hi => Go.heap_alloc_old w _ hi
  have h1 := hI.new (w' := w.alloc (.cells vs e)) (t := d) (o := .box cs) hf hsz hold 0 0 ⟨w.heap.size, 0, 0, e, vs, by simp [Env.set], Go.heap_alloc_new w _, hr.keep (E := E) (m := lk st.m) (E' := E.set d (some (w.heap.size, 0, 0))) (m' := lk (up st.m d (.box cs))) (fun b hb => ⟨hb, hold b (hI.okl b hb)⟩) (fun t ht => by
    have hne := hh t ht
    rw [lk_up, if_neg (Ne.symm hne), show (E.set d (some (w.heap.size, 0, 0))).at_ t = E.at_ t by simp [Env.set, hne]]
    exact same_tags E (lk st.m) t)⟩
  have h2 := h1.put (dst := some d) (x := .box d 0) (v := .pointer (some ⟨w.heap.size, 0, none⟩)) (by simpa [St.fitsDst] using hn) (by
    simp only [RepV]
    rw [lk_up, if_pos rfl]
    exact ⟨w.heap.size, 0, 0, by simp [Env.set], rfl⟩)
  exact h2

theorem does_alloc (ho : o.op = .alloc e) (hd : o.dst = some d) (hf : st.fresh d = true) (hn : d < st.n) {z : Value} (hz : tzero P e = some z) :
    Does P o st { st with t := up st.t d (.box d 0), m := up st.m d (.box (z.cells.toList.map avC)) } := by
  intro keep w E a hI
  refine ⟨.pointer (some ⟨w.heap.size, 0, none⟩), w.alloc (.cells z.cells e), E.set d (some (w.heap.size, 0, 0)), .inl ?_, ?_, Evo.grow hI ⟨rfl, rfl, rfl⟩ (by simp) (fun i hi => Go.heap_alloc_old w _ hi) rfl (Env.set_pin (St.fresh_pin hf))⟩
  · unfold execOp
    rw [ho]
    simp [Instr.alloc, run_zeroValue hz, newVar, newRow]
  · rw [hd]
    refine box_new hI hf hn _ _ ?_ ?_
    · refine RepVL.of (by simp) fun i X v hX hv => ?_
      rw [List.getElem?_map, hv] at hX
      simp at hX; subst hX
      exact avC_rep _ _ _ _
    · intro t ht
      exfalso
      have : ∀ l : List Value, AV.holdsL t (l.map avC) = false := by
        intro l
        induction l with
        | nil => rfl
        | cons v l ih =>
          simp only [List.map_cons, AV.holdsL, ih, Bool.or_false]
          unfold avC
          split <;> simp [AV.holds]
      rw [this] at ht; cases ht

theorem holdsL_sv (t : Nat) : ∀ l : List SV, AV.holdsL t (l.map AV.sv) = false
  | [] => rfl
  | x :: l => by simp only [List.map_cons, AV.holdsL, holdsL_sv t l, AV.holds, Bool.or_false]
theorem cells_holds {m : Mem} {cs : List AV} {t : Nat} (h : X.cells m = some cs) (ht : AV.holdsL t cs = true) : X.holds t = true := by
  have one : cs = [X] → X.holds t = true := fun e => by subst e; simpa [AV.holdsL] using ht
  cases X with
  | sv x =>
    simp only [AV.cells] at h
    split at h
    · simp only [Option.some.injEq] at h; subst h; rw [holdsL_sv] at ht; cases ht
    · cases h
  | tup xs => simp [AV.cells] at h
  | agg xs =>
    simp only [AV.cells] at h
    split at h
    · simp only [Option.some.injEq] at h; subst h; simpa only [AV.holds] using ht
    · cases h
  | sl s n => simp only [AV.cells] at h; split at h <;> first | exact one (by simpa using h.symm) | cases h
  | nil => exact one (by simpa [AV.cells] using h.symm)
  | fnv f caps => exact one (by simpa [AV.cells] using h.symm)
  | own s => simp only [AV.cells] at h; split at h <;> first | exact one (by simpa using h.symm) | cases h
  | box s off => simp only [AV.cells] at h; split at h <;> first | exact one (by simpa using h.symm) | cases h
  | elt s i off => simp only [AV.cells] at h; split at h <;> first | exact one (by simpa using h.symm) | cases h

theorem does_box (ho : o.op = .box e x) (hd : o.dst = some d) (hf : st.fresh d = true) (hn : d < st.n) (hx : aval st x = some X) {cs : List AV} (hc : X.cells (lk st.m) = some cs) :
    Does P o st { st with t := up st.t d (.box d 0), m := up st.m d (.box cs) } := by
  intro keep w E a hI
  refine ⟨.pointer (some ⟨w.heap.size, 0, none⟩), w.alloc (.cells (a.eval x).cells e), E.set d (some (w.heap.size, 0, 0)), .inl ?_, ?_, Evo.grow hI ⟨rfl, rfl, rfl⟩ (by simp) (fun i hi => Go.heap_alloc_old w _ hi) rfl (Env.set_pin (St.fresh_pin hf))⟩
  · unfold execOp
    rw [ho]
    simp [Instr.box, newVar, newRow]
  · rw [hd]
    exact box_new hI hf hn _ _ ((aval_rep hI hx).cells hc).1 (fun t ht => fresh_ne hf (aval_held hx (cells_holds hc ht)))

/-- What lies from a pointer on. -/
def ptrCells (st : St) : AV → Option (List AV)
  | .box t off => match lk st.m t with
    | some (.box cs) => some (cs.drop off)
    | _ => none
  | .elt t i off => match lk st.m t with
    | some (.row _ xs) => match xs[i]? with
      | some x => if x.solid = true then some ((x.cells.drop off).map .sv) else none
      | none => none
    | _ => none
  | .sv (.ref x off) => if x.solid = true then some ((x.cells.drop off).map .sv) else none
  | _ => none

theorem row_elem {w : World} {E : Env} {m : Mem} {t sz : Nat} {xs : List SV} (h : MemRep w E m t (.row sz xs)) {i : Nat} {x : SV} (hx : xs[i]? = some x) :
    ∃ g c e cur u, 0 < sz ∧ E.at_ t = some (g, c, sz) ∧ w.heap[g]? = some (.cells cur e (0, 0)) ∧ cur.size = c * sz ∧ xs.length ≤ c ∧ RepS w E.ok x u ∧ u.cells.size = sz ∧ (∀ y ∈ u.cells, y.oneCell' = true) ∧ ∀ (j : Nat) (y : Value), u.cells[j]? = some y → cur[i * sz + j]? = some y := by
  obtain ⟨h0, h⟩ := h
  rcases h with ⟨_, rfl⟩ | ⟨g, c, e, cur, vs, h1, h2, h3, h4, h5, h6, h7, h8⟩
  · simp at hx
  · obtain ⟨u, hu, hr⟩ := h7.at hx
    obtain ⟨k1, k2, k3⟩ := h8 i u hu
    exact ⟨g, c, e, cur, u, h0, h1, h2, h6, h4, hr, k1, k2, k3⟩

theorem ptr_rep {keep : Nat → Prop} {w : World} {E : Env} {a : Act} (hI : Inv keep w E st a) {cl : List AV} (hp : ptrCells st X = some cl) {v : Value} (hv : RepV w E (lk st.m) X v) :
    ∃ ad us, v = .pointer (some ad) ∧ RepVL w E (lk st.m) cl us ∧ ∀ (j : Nat) (u : Value), us[j]? = some u → w.cell? (ad.add j) = some u := by
  unfold ptrCells at hp
  split at hp
  · rename_i t off
    split at hp
    · rename_i cs hm
      simp only [Option.some.injEq] at hp; subst hp
      simp only [RepV, hm] at hv
      obtain ⟨g, c, sz, hg, rfl⟩ := hv
      obtain ⟨g', c', sz', e, cur, hg', hh, hr⟩ := hI.mm t _ hm
      rw [hg] at hg'
      simp only [Option.some.injEq, Prod.mk.injEq] at hg'
      obtain ⟨rfl, rfl, rfl⟩ := hg'
      refine ⟨⟨g, off, none⟩, cur.toList.drop off, rfl, hr.drop off, fun j u hu => ?_⟩
      have hadd : (⟨g, off, none⟩ : Addr).add j = ⟨g, off + j, none⟩ := by unfold Addr.add; split <;> simp_all
      rw [hadd, cell_of_row w g _ cur e (0, 0) hh]
      rw [List.getElem?_drop] at hu
      simpa using hu
    · cases hp
  · rename_i t i off
    split at hp
    · rename_i xs hm
      split at hp
      · rename_i x hx
        split at hp
        · rename_i hs
          simp only [Option.some.injEq] at hp; subst hp
          simp only [RepV, hm] at hv
          obtain ⟨g, c, sz, hg, rfl, hi, ho⟩ := hv
          obtain ⟨g', c', e, cur, u, hpos, hg', hh, hcs, hlen, hr, hus, h1, hcur⟩ := row_elem (hI.mm t _ hm) hx
          rw [hg] at hg'
          simp only [Option.some.injEq, Prod.mk.injEq] at hg'
          obtain ⟨rfl, rfl, rfl⟩ := hg'
          refine ⟨⟨g, i * sz + off, none⟩, u.cells.toList.drop off, rfl, RepVL.of_svs ((RepS.cells hs hr).drop off), fun j y hy => ?_⟩
          have hadd : (⟨g, i * sz + off, none⟩ : Addr).add j = ⟨g, i * sz + (off + j), none⟩ := by unfold Addr.add; split <;> simp_all [Nat.add_assoc]
          rw [hadd, cell_of_row w g _ cur e (0, 0) hh]
          rw [List.getElem?_drop] at hy
          exact hcur _ _ (by simpa using hy)
        · cases hp
      · cases hp
    · cases hp
  · rename_i x off
    split at hp
    · rename_i hs
      simp only [Option.some.injEq] at hp; subst hp
      simp only [RepV, RepS] at hv
      obtain ⟨ad, u, rfl, hok, hr, hat⟩ := hv
      refine ⟨ad.add off, u.cells.toList.drop off, rfl, RepVL.of_svs ((RepS.cells hs hr).drop off), fun j y hy => ?_⟩
      rw [Go.Deep.add_add]
      rw [List.getElem?_drop] at hy
      exact hat _ _ (by simpa using hy)
    · cases hp
  · cases hp

/-- A load. -/
def aload (P : Program) (st : St) (ty : TypeId) (X : AV) : Option AV :=
  match ptrCells st X with
  | some cl => if tagg P ty = true then (if tsz P ty ≤ cl.length then (AV.svs (cl.take (tsz P ty))).map fun xs => .sv (.agg xs) else none) else cl.head?
  | none => none
theorem does_load (ho : o.op = .load ty x) (hx : aval st x = some X) (hu : (P.underlying ty).isSome = true) (hl : aload P st ty X = some Y) (hd : st.fitsDst o.dst = true) : Does P o st (st.put o.dst Y) := by
  refine Does.puts hd fun keep w E a hI => ?_
  unfold aload at hl
  split at hl
  · rename_i cl hp
    obtain ⟨ad, us, hv, hr, hc⟩ := ptr_rep hI hp (aval_rep hI hx)
    split at hl
    · rename_i hg
      split at hl
      · rename_i hle
        obtain ⟨xs, hs, rfl⟩ := Option.map_eq_some_iff.1 hl
        have hrt := hr.take (tsz P ty)
        have hlen : (us.take (tsz P ty)).length = tsz P ty := by rw [List.length_take, ← hr.len]; omega
        refine ⟨.agg (us.take (tsz P ty)).toArray, ?_, ?_⟩
        · unfold execOp
          rw [ho]
          simp only [hv, Instr.loadAt, Instr.sureAddr, loadVar]
          have hcells := run_loadCells_list (P := P) w ad (us.take (tsz P ty)) (fun j u hu => hc j u (by rw [List.getElem?_take] at hu; split at hu <;> simp_all))
          rw [hlen] at hcells
          simp [run_isAgg hu, hg, run_sizeOf (info_of_underlying hu), hcells]
        · simp only [RepV, RepS]
          exact ⟨_, rfl, RepVL.svs hs hrt⟩
      · cases hl
    · rename_i hg
      cases cl with
      | nil => simp at hl
      | cons Z cl =>
        simp only [List.head?_cons, Option.some.injEq] at hl
        subst hl
        simp only [RepVL] at hr
        obtain ⟨u, us', rfl, hZ, _⟩ := hr
        refine ⟨u, ?_, hZ⟩
        have h0 := hc 0 u rfl
        have hz : ad.add 0 = ad := by simp [Addr.add]
        rw [hz] at h0
        unfold execOp
        rw [ho]
        simp only [hv, Instr.loadAt, Instr.sureAddr, loadVar]
        simp [run_isAgg hu, hg, load, Sem.run, h0]
  · cases hl
end
end Go.Proofs.Ytimllhflecippaa.Ab
end

section
namespace Go.Proofs.Ytimllhflecippaa.Ab
open Go.RowKit
set_option linter.unusedVariables false
set_option linter.unusedSimpArgs false

theorem setAt_get {α : Type} (cs ys : List α) (o i : Nat) (h : o + ys.length ≤ cs.length) : (setAt cs o ys)[i]? = if i < o then cs[i]? else if i < o + ys.length then ys[i - o]? else cs[i]? := by
  unfold setAt
  split
  · rw [List.getElem?_append_left (by simp; omega), List.getElem?_append_left (by simp; omega), List.getElem?_take, if_pos (by omega)]
  · split
    · rw [List.getElem?_append_left (by simp; omega), List.getElem?_append_right (by simp; omega)]
      congr 1; simp; omega
    · rw [List.getElem?_append_right (by simp; omega), List.getElem?_drop]
      congr 1; simp; omega

def SV.withCells (x : SV) (cs : List SV) : SV := match x with
  | .agg _ => .agg cs
  | _ => cs.headD .any
section
variable {P : Program} {o : Oper} {st : St} {d : Nat} {e ty : TypeId} {x y : Operand} {X Y : AV}

/-- What a store leaves of the memory. -/
def astore (P : Program) (st : St) (ty : TypeId) (X Y : AV) : Option (List (Nat × Obj')) :=
  match Y.cells (lk st.m) with
  | some ys =>
    if (ys.length == tsz P ty && ys.all AV.one) = true then
      match X with
      | .box t off => match lk st.m t with
        | some (.box cs) => if off + ys.length ≤ cs.length then some (up st.m t (.box (setAt cs off ys))) else none
        | _ => none
      | .elt t i off => match lk st.m t with
        | some (.row k xs) => match xs[i]?, AV.svs ys with
          | some x, some zs => if (x.solid && zs.all SV.one) = true ∧ off + zs.length ≤ x.cells.length then some (up st.m t (.row k (xs.set i (x.withCells (setAt x.cells off zs))))) else none
          | _, _ => none
        | _ => none
      | _ => none
    else none
  | none => none

theorem run_storeAt {w : World} {g off : Nat} {v : Value} {cur : Array Value} {e' : TypeId} (hi : (P.info? ty).isSome = true) (hs : v.cells.size = tsz P ty) (h1 : ∀ u ∈ v.cells, u.oneCell' = true)
    (hh : w.heap[g]? = some (.cells cur e' (0, 0))) (hfit : off + v.cells.size ≤ cur.size) :
    (Instr.storeAt ty (.pointer (some ⟨g, off, none⟩)) v).run P w = .ok () (w.setRow g (setAt cur.toList off v.cells.toList).toArray) := by
  have hr := run_storeCells_at P g off e' v.cells.toList 0 cur w hh (by simpa using hfit) (by simpa using h1)
  simp only [Nat.add_zero] at hr
  simp [Instr.storeAt, Instr.sureAddr, storeVar, run_sizeOf hi, hs, hr, setAt]

theorem does_store (ho : o.op = .store ty x y) (hd : o.dst = none) (hx : aval st x = some X) (hy : aval st y = some Y) (hi : (P.info? ty).isSome = true) {l : List (Nat × Obj')} (hl : astore P st ty X Y = some l) :
    Does P o st { st with m := l } := by
  intro keep w E a hI
  have rx := aval_rep hI hx
  have ry := aval_rep hI hy
  unfold astore at hl
  split at hl
  case h_2 => cases hl
  rename_i ys hys
  obtain ⟨hry, h1y⟩ := ry.cells hys
  split at hl
  case isFalse => cases hl
  rename_i hc
  simp only [Bool.and_eq_true, beq_iff_eq] at hc
  obtain ⟨hlen, hone⟩ := hc
  have h1 := h1y hone
  have hvs : (a.eval y).cells.size = tsz P ty := by rw [← hlen, hry.len]; simp
  split at hl
  · rename_i t off
    split at hl
    case h_2 => cases hl
    rename_i cs hm
    split at hl
    case isFalse => cases hl
    rename_i hfit
    simp only [Option.some.injEq] at hl; subst hl
    simp only [RepV, hm] at rx
    obtain ⟨g, c, sz, hg, hv⟩ := rx
    obtain ⟨g', c', sz', e', cur, hg', hh, hr⟩ := hI.mm t _ hm
    rw [hg] at hg'
    simp only [Option.some.injEq, Prod.mk.injEq] at hg'
    obtain ⟨rfl, rfl, rfl⟩ := hg'
    have hcl := hr.len
    have hyl := hry.len
    simp only [Array.length_toList] at hcl hyl
    have hrun := run_storeAt (P := P) (off := off) hi hvs h1 hh (by omega)
    have hheap := setRow_heap w g cur (setAt cur.toList off (a.eval y).cells.toList).toArray e' _ hh
    refine ⟨undef, w.setRow g (setAt cur.toList off (a.eval y).cells.toList).toArray, E, .inr ⟨?_, rfl⟩, ?_, ?_⟩
    · unfold execOp
      rw [ho]
      simp only [hv]
      rw [show (do Instr.storeAt ty (.pointer (some ⟨g, off, none⟩)) (a.eval y); pure Next.skip : Sem Next) = (Instr.storeAt ty (.pointer (some ⟨g, off, none⟩)) (a.eval y) >>= fun _ => pure Next.skip) from rfl, Sem.run_bind, hrun]
      rfl
    · rw [hd]
      refine hI.write hm hg (by simp) (fun i hi => setRow_other w g i _ hi) (.inr ⟨cs, _, rfl, rfl⟩) ⟨g, c, sz, e', _, hg, hheap, ?_⟩
      have hpass : ∀ s, Pass E E (lk st.m) (lk (up st.m t (.box (setAt cs off ys)))) s := fun s => by
        unfold Pass
        rw [lk_up]
        split
        · rename_i hs; subst hs; exact .inr ⟨rfl, .inr ⟨cs, _, hm, rfl⟩⟩
        · exact same_tags E (lk st.m) s
      have hown := hI.own t _ g c sz hm hg
      have hok : ∀ b, E.ok b → E.ok b ∧ (w.setRow g (setAt cur.toList off (a.eval y).cells.toList).toArray).heap[b]? = w.heap[b]? := fun b hb => ⟨hb, setRow_other w g b _ (fun e => hown.2.1 (e ▸ hb))⟩
      simp only [List.toList_toArray]
      exact ((hr.setAt hry off).keep hok (fun s _ => hpass s))
    · exact Evo.write hI hm hg ⟨rfl, rfl, rfl⟩ (by simp) (fun i hi => setRow_other w g i _ hi)
  · rename_i t i off
    split at hl
    case h_2 => cases hl
    rename_i sz0 xs hm
    split at hl
    case h_2 => cases hl
    rename_i x0 zs hxi hzs
    split at hl
    case isFalse => cases hl
    rename_i hcond
    obtain ⟨hsol, hfit⟩ := hcond
    simp only [Bool.and_eq_true] at hsol
    simp only [Option.some.injEq] at hl; subst hl
    simp only [RepV, hm] at rx
    obtain ⟨g, c, sz, hg, hv, hi', hof⟩ := rx
    have hmm := hI.mm t _ hm
    obtain ⟨h0, hmm⟩ := hmm
    rcases hmm with ⟨_, rfl⟩ | ⟨g', c', e', cur, vs, hg', hh, h3, h4, h5, h6, h7, h8⟩
    · simp at hxi
    rw [hg] at hg'
    simp only [Option.some.injEq, Prod.mk.injEq] at hg'
    obtain ⟨rfl, rfl, rfl⟩ := hg'
    obtain ⟨u, hu, hru⟩ := h7.at hxi
    obtain ⟨k1, k2, k3⟩ := h8 i u hu
    have hrz := RepVL.svs hzs hry
    have hcells := RepS.cells hsol.1 hru
    have hcl := hcells.len
    have hzl := hrz.len
    simp only [Array.length_toList] at hcl hzl
    have hic : (i + 1) * sz ≤ c * sz := Nat.mul_le_mul_right _ (by have := (List.getElem?_eq_some_iff.1 hxi).1; omega)
    rw [Nat.add_mul, Nat.one_mul] at hic
    have hrun := run_storeAt (P := P) (off := i * sz + off) hi hvs h1 hh (by omega)
    have hheap := setRow_heap w g cur (setAt cur.toList (i * sz + off) (a.eval y).cells.toList).toArray e' _ hh
    have hpass : ∀ s, Pass E E (lk st.m) (lk (up st.m t (.row sz (xs.set i (x0.withCells (setAt x0.cells off zs)))))) s := fun s => by
      unfold Pass
      rw [lk_up]
      split
      · rename_i hs; subst hs; exact .inr ⟨rfl, .inl ⟨sz, xs, _, hm, rfl, by simp⟩⟩
      · exact same_tags E (lk st.m) s
    have hown := hI.own t _ g c sz hm hg
    have hok : ∀ b, E.ok b → E.ok b ∧ (w.setRow g (setAt cur.toList (i * sz + off) (a.eval y).cells.toList).toArray).heap[b]? = w.heap[b]? := fun b hb => ⟨hb, setRow_other w g b _ (fun e => hown.2.1 (e ▸ hb))⟩
    -- the element's value
    have hnew : ∃ u', RepS w E.ok (x0.withCells (setAt x0.cells off zs)) u' ∧ u'.cells.toList = setAt u.cells.toList off (a.eval y).cells.toList := by
      have hset := hcells.setAt hrz off
      have hlen' : (setAt u.cells.toList off (a.eval y).cells.toList).length = u.cells.toList.length := setAt_length _ _ _ (by simp; omega)
      have single : u.oneCell' = true → x0.cells = [x0] → x0.withCells (setAt x0.cells off zs) = (setAt x0.cells off zs).headD .any → ∃ u', RepS w E.ok (x0.withCells (setAt x0.cells off zs)) u' ∧ u'.cells.toList = setAt u.cells.toList off (a.eval y).cells.toList := by
        intro hu1 hx1 hwc
        rw [hwc]
        rw [cells_one hu1] at hlen' hset ⊢
        obtain ⟨u', hu'⟩ : ∃ u', setAt [u] off (a.eval y).cells.toList = [u'] := by
          simp only [List.length_cons, List.length_nil] at hlen'
          exact List.length_eq_one_iff.1 hlen'
        simp only at hset
        rw [hu'] at hset ⊢
        obtain ⟨z, hz⟩ : ∃ z, setAt x0.cells off zs = [z] := by
          have := hset.len
          exact List.length_eq_one_iff.1 (by simpa using this)
        rw [hz] at hset ⊢
        simp only [RepL] at hset
        obtain ⟨v1, vs1, he, hz1, _⟩ := hset
        simp only [List.cons.injEq] at he
        obtain ⟨rfl, rfl⟩ := he
        refine ⟨u', by simpa using hz1, ?_⟩
        have hone' : u'.oneCell' = true := by
          have hmem : u' ∈ setAt [u] off (a.eval y).cells.toList := by rw [hu']; simp
          simp only [setAt, List.mem_append] at hmem
          rcases hmem with (hmem | hmem) | hmem
          · have := List.mem_of_mem_take hmem; simp at this; subst this; exact hu1
          · exact h1 u' (by simpa using hmem)
          · have := List.mem_of_mem_drop hmem; simp at this; subst this; exact hu1
        rw [cells_one hone']
      cases x0 with
      | any => cases hsol.1
      | val v => exact single (by simp only [RepS] at hru; subst hru; exact hsol.1) rfl rfl
      | agg ws =>
        simp only [RepS] at hru
        obtain ⟨cs, rfl, hru⟩ := hru
        refine ⟨.agg (setAt cs.toList off (a.eval y).cells.toList).toArray, ?_, by simp [Value.cells]⟩
        simp only [SV.withCells, RepS]
        exact ⟨_, rfl, by simpa [SV.cells, Value.cells] using hset⟩
      | lst ws => exact single (by simp only [RepS] at hru; obtain ⟨_, _, rfl, _⟩ := hru; rfl) rfl rfl
      | ref ws _ => exact single (by simp only [RepS] at hru; obtain ⟨_, _, rfl, _⟩ := hru; rfl) rfl rfl
      | fn f ws => exact single (by simp only [RepS] at hru; obtain ⟨_, rfl, _⟩ := hru; rfl) rfl rfl
    obtain ⟨u', hru', hcu'⟩ := hnew
    have hszu : u'.cells.size = sz := by
      have h9 := setAt_length u.cells.toList off (a.eval y).cells.toList (by simp; omega)
      rw [← hcu'] at h9
      simp only [Array.length_toList] at h9
      omega
    refine ⟨undef, w.setRow g (setAt cur.toList (i * sz + off) (a.eval y).cells.toList).toArray, E, .inr ⟨?_, rfl⟩, ?_, ?_⟩
    · unfold execOp
      rw [ho]
      simp only [hv]
      rw [show (do Instr.storeAt ty (.pointer (some ⟨g, i * sz + off, none⟩)) (a.eval y); pure Next.skip : Sem Next) = (Instr.storeAt ty (.pointer (some ⟨g, i * sz + off, none⟩)) (a.eval y) >>= fun _ => pure Next.skip) from rfl, Sem.run_bind, hrun]
      rfl
    · rw [hd]
      refine hI.write hm hg (by simp) (fun i hi => setRow_other w g i _ hi) (.inl ⟨sz, xs, _, rfl, rfl, by simp⟩) ⟨h0, .inr ⟨g, c, e', _, vs.set i u', hg, hheap, fun h9 => h3 (by simpa using h9), by simpa using h4, h5, ?_, ?_, ?_⟩⟩
      · rw [List.size_toArray, setAt_length _ _ _ (by simp; omega)]; simpa using h6
      · exact (h7.set i hru').keep hok
      · intro j v hj
        rw [List.getElem?_set] at hj
        by_cases hij : i = j
        · subst hij
          rw [if_pos rfl] at hj
          split at hj
          case isFalse => cases hj
          simp only [Option.some.injEq] at hj; subst hj
          refine ⟨hszu, ?_, fun k z hk => ?_⟩
          · intro z hz
            have hz' : z ∈ setAt u.cells.toList off (a.eval y).cells.toList := by rw [← hcu']; simpa using hz
            simp only [setAt, List.mem_append] at hz'
            rcases hz' with (hz' | hz') | hz'
            · exact k2 z (by simpa using List.mem_of_mem_take hz')
            · exact h1 z (by simpa using hz')
            · exact k2 z (by simpa using List.mem_of_mem_drop hz')
          · have hk' : (setAt u.cells.toList off (a.eval y).cells.toList)[k]? = some z := by rw [← hcu']; simpa using hk
            have hklt : k < sz := by rw [← hszu]; exact (Array.getElem?_eq_some_iff.1 hk).1
            rw [setAt_get _ _ _ _ (by simp; omega)] at hk'
            rw [List.getElem?_toArray, setAt_get _ _ _ _ (by simp; omega)]
            simp only [Array.length_toList, Array.getElem?_toList] at hk' ⊢
            by_cases c1 : k < off
            · rw [if_pos c1] at hk'
              rw [if_pos (by omega)]
              exact k3 k z hk'
            · rw [if_neg c1] at hk'
              rw [if_neg (by omega)]
              by_cases c2 : k < off + (a.eval y).cells.size
              · rw [if_pos c2] at hk'
                rw [if_pos (by omega), show i * sz + k - (i * sz + off) = k - off by omega]
                exact hk'
              · rw [if_neg c2] at hk'
                rw [if_neg (by omega)]
                exact k3 k z hk'
        · rw [if_neg hij] at hj
          obtain ⟨q1, q2, q3⟩ := h8 j v hj
          refine ⟨q1, q2, fun k z hk => ?_⟩
          have hklt : k < sz := by rw [← q1]; exact (Array.getElem?_eq_some_iff.1 hk).1
          rw [List.getElem?_toArray, setAt_get _ _ _ _ (by simp; omega)]
          simp only [Array.length_toList, Array.getElem?_toList]
          have hsep : j * sz + sz ≤ i * sz ∨ i * sz + sz ≤ j * sz := by
            rcases Nat.lt_or_gt_of_ne hij with h9 | h9
            · right; have := Nat.mul_le_mul_right sz (show i + 1 ≤ j by omega); rw [Nat.add_mul, Nat.one_mul] at this; exact this
            · left; have := Nat.mul_le_mul_right sz (show j + 1 ≤ i by omega); rw [Nat.add_mul, Nat.one_mul] at this; exact this
          rcases hsep with h9 | h9
          · rw [if_pos (by omega)]; exact q3 k z hk
          · rw [if_neg (by omega), if_neg (by omega)]; exact q3 k z hk
    · exact Evo.write hI hm hg ⟨rfl, rfl, rfl⟩ (by simp) (fun i hi => setRow_other w g i _ hi)
  · cases hl
end
end Go.Proofs.Ytimllhflecippaa.Ab
end

section
namespace Go.Proofs.Ytimllhflecippaa.Ab
open Go.RowKit
set_option linter.unusedVariables false
set_option linter.unusedSimpArgs false
section
variable {P : Program} {o : Oper} {st : St} {d : Nat} {e ty : TypeId} {x y : Operand} {X Y : AV}

/-- A pointer, some cells further on. -/
def ashift (st : St) (n : Nat) : AV → Option AV
  | .box t off => match lk st.m t with
    | some (.box _) => some (.box t (off + n))
    | _ => none
  | .elt t i off => match lk st.m t with
    | some (.row _ xs) => match xs[i]? with
      | some x => if x.solid = true ∧ off + n < x.cells.length then some (.elt t i (off + n)) else none
      | none => none
    | _ => none
  | .sv (.ref x off) => some (.sv (.ref x (off + n)))
  | _ => none
theorem add_lit (g o n : Nat) : (⟨g, o, none⟩ : Addr).add n = ⟨g, o + n, none⟩ := by unfold Addr.add; split <;> simp_all
theorem shift_rep {keep : Nat → Prop} {w : World} {E : Env} {a : Act} (hI : Inv keep w E st a) {n : Nat} (hp : ashift st n X = some Y) {v : Value} (hv : RepV w E (lk st.m) X v) :
    ∃ ad, v = .pointer (some ad) ∧ RepV w E (lk st.m) Y (.pointer (some (ad.add n))) := by
  unfold ashift at hp
  split at hp
  · rename_i t off
    split at hp
    · rename_i cs hm
      simp only [Option.some.injEq] at hp; subst hp
      simp only [RepV, hm] at hv ⊢
      obtain ⟨g, c, sz, hg, rfl⟩ := hv
      exact ⟨_, rfl, g, c, sz, hg, by rw [add_lit]⟩
    · cases hp
  · rename_i t i off
    split at hp
    · rename_i xs hm
      split at hp
      · rename_i x hx
        split at hp
        · rename_i hs
          simp only [Option.some.injEq] at hp; subst hp
          simp only [RepV, hm] at hv ⊢
          obtain ⟨g, c, sz, hg, rfl, hi, ho⟩ := hv
          obtain ⟨g', c', e, cur, u, hpos, hg', hh, hcs, hlen, hr, hus, h1, hcur⟩ := row_elem (hI.mm t _ hm) hx
          rw [hg] at hg'
          simp only [Option.some.injEq, Prod.mk.injEq] at hg'
          obtain ⟨rfl, rfl, rfl⟩ := hg'
          have hl := (RepS.cells hs.1 hr).len
          simp only [Array.length_toList] at hl
          exact ⟨_, rfl, g, c, sz, hg, by rw [add_lit, Nat.add_assoc], hi, by omega⟩
        · cases hp
      · cases hp
    · cases hp
  · rename_i x off
    simp only [Option.some.injEq] at hp; subst hp
    simp only [RepV, RepS] at hv ⊢
    obtain ⟨ad, u, rfl, h⟩ := hv
    exact ⟨_, rfl, ad, u, by rw [Go.Deep.add_add], h⟩
  · cases hp

def foff (P : Program) (s : TypeId) (f : Nat) : Option Nat :=
  match P.underlying s with
  | some (.struct fs) => match fs[f]? with
    | some fd => if ((P.info? fd.type).isSome && tsz P fd.type != 0) = true then some fd.offset else none
    | none => none
  | _ => none
def ftype (P : Program) (s : TypeId) (f : Nat) : Option (TypeId × Nat) :=
  match P.underlying s with
  | some (.struct fs) => match fs[f]? with
    | some fd => if (P.underlying fd.type).isSome = true then some (fd.type, fd.offset) else none
    | none => none
  | _ => none
theorem does_fieldAddr {f n : Nat} (ho : o.op = .fieldAddr ty x f) (hx : aval st x = some X) (hf : foff P ty f = some n) (hs : ashift st n X = some Y) (hd : st.fitsDst o.dst = true) : Does P o st (st.put o.dst Y) := by
  refine Does.puts hd fun keep w E a hI => ?_
  obtain ⟨ad, hv, hr⟩ := shift_rep hI hs (aval_rep hI hx)
  refine ⟨_, ?_, hr⟩
  unfold foff at hf
  split at hf
  case h_2 => cases hf
  rename_i fs hu
  split at hf
  case h_2 => cases hf
  rename_i fd hfd
  split at hf
  case isFalse => cases hf
  rename_i hc
  simp only [Bool.and_eq_true, bne_iff_ne, ne_eq] at hc
  simp only [Option.some.injEq] at hf; subst hf
  unfold execOp
  rw [ho]
  simp only [hv]
  simp [Instr.fieldAt, run_underlying hu, hfd, Instr.sureAddr, fieldPlace, run_sizeOf hc.1, hc.2]

theorem does_nilCheck (ho : o.op = .nilCheck x) (hx : aval st x = some X) (hs : ashift st 0 X = some Y) (hd : st.fitsDst o.dst = true) : Does P o st (st.put o.dst X) := by
  refine Does.puts hd fun keep w E a hI => ?_
  obtain ⟨ad, hv, hr⟩ := shift_rep hI hs (aval_rep hI hx)
  refine ⟨a.eval x, ?_, aval_rep hI hx⟩
  unfold execOp
  rw [ho]
  simp only [hv]
  rfl

/-- The element type of a slice's, and of an array's, with its length. -/
def selem (P : Program) (t : TypeId) : Option TypeId := match P.underlying t with | some (.slice e) => if (P.info? e).isSome = true then some e else none | _ => none
def aelem (P : Program) (t : TypeId) : Option (Nat × TypeId) := match P.underlying t with | some (.array n e) => if (P.info? e).isSome = true then some (n, e) else none | _ => none
theorem selem_eq {t e : TypeId} (h : selem P t = some e) : P.underlying t = some (.slice e) ∧ (P.info? e).isSome = true := by
  unfold selem at h
  split at h
  · split at h
    · rename_i h1 h2; simp only [Option.some.injEq] at h; subst h; exact ⟨h1, h2⟩
    · cases h
  · cases h
theorem aelem_eq {t e : TypeId} {n : Nat} (h : aelem P t = some (n, e)) : P.underlying t = some (.array n e) ∧ (P.info? e).isSome = true := by
  unfold aelem at h
  split at h
  · split at h
    · rename_i h1 h2; simp only [Option.some.injEq, Prod.mk.injEq] at h; obtain ⟨rfl, rfl⟩ := h; exact ⟨h1, h2⟩
    · cases h
  · cases h

theorem does_indexAddr_own {k : IntKind} {n : Int} {t : Nat} {xs : List SV} (ho : o.op = .indexAddr ty x y) (hx : aval st x = some (.own t)) (he : selem P ty = some e) (hm : lk st.m t = some (.row (tsz P e) xs)) (hy : aval st y = some (.sv (.val (.int k n))))
    (h0 : 0 ≤ n ∧ n < (xs.length : Int)) (hd : st.fitsDst o.dst = true) : Does P o st (st.put o.dst (.elt t n.toNat 0)) := by
  refine Does.puts hd fun keep w E a hI => ?_
  have rx := aval_rep hI hx
  have ry := (aval_rep hI hy).val
  obtain ⟨hu, hi⟩ := selem_eq he
  obtain ⟨g, c, e', cur, u, hpos, hg, hh, hcs, hlen, hr, hus, h1, hcur⟩ := row_elem (hI.mm t _ hm) (List.getElem?_eq_getElem (show n.toNat < xs.length by omega))
  simp only [RepV, hm, hg] at rx
  refine ⟨.pointer (some ⟨g, n.toNat * tsz P e, none⟩), ?_, ?_⟩
  · unfold execOp
    rw [ho]
    simp only [rx, ry]
    have hadd : (⟨g, 0, none⟩ : Addr).add (n.toNat * tsz P e) = ⟨g, n.toNat * tsz P e, none⟩ := by rw [add_lit, Nat.zero_add]
    simp [Instr.indexAt, run_underlying hu, asIntOf, h0.1, h0.2, run_sizeOf hi, hadd]
  · simp only [RepV, hm]
    exact ⟨g, c, _, hg, rfl, by omega, hpos⟩

theorem does_indexAddr_sl {k : IntKind} {n : Int} {t len : Nat} {cs : List AV} (ho : o.op = .indexAddr ty x y) (hx : aval st x = some (.sl t len)) (he : selem P ty = some e) (h1 : tsz P e = 1) (hm : lk st.m t = some (.box cs)) (hy : aval st y = some (.sv (.val (.int k n))))
    (h0 : 0 ≤ n ∧ n < (len : Int)) (hd : st.fitsDst o.dst = true) : Does P o st (st.put o.dst (.box t n.toNat)) := by
  refine Does.puts hd fun keep w E a hI => ?_
  have rx := aval_rep hI hx
  have ry := (aval_rep hI hy).val
  obtain ⟨hu, hi⟩ := selem_eq he
  simp only [RepV, hm] at rx
  obtain ⟨g, c, sz, hg, rx⟩ := rx
  refine ⟨.pointer (some ⟨g, n.toNat, none⟩), ?_, ?_⟩
  · unfold execOp
    rw [ho]
    simp only [rx, ry]
    have hadd : (⟨g, 0, none⟩ : Addr).add n.toNat = ⟨g, n.toNat, none⟩ := by rw [add_lit, Nat.zero_add]
    simp [Instr.indexAt, run_underlying hu, asIntOf, h0.1, h0.2, run_sizeOf hi, h1, hadd]
  · simp only [RepV, hm]
    exact ⟨g, c, sz, hg, rfl⟩

theorem does_indexAddr_lst {k : IntKind} {n : Int} {xs : List SV} {z : SV} (ho : o.op = .indexAddr ty x y) (hx : aval st x = some (.sv (.lst xs))) (hy : aval st y = some (.sv (.val (.int k n))))
    (he : selem P ty = some e) (h0 : 0 ≤ n) (hz : xs[n.toNat]? = some z) (hs : z.solid = true ∧ z.cells.length = tsz P e) (hd : st.fitsDst o.dst = true) : Does P o st (st.put o.dst (.sv (.ref z 0))) := by
  refine Does.puts hd fun keep w E a hI => ?_
  have rx := aval_rep hI hx
  have ry := (aval_rep hI hy).val
  obtain ⟨hu, hi⟩ := selem_eq he
  have hlt := (List.getElem?_eq_some_iff.1 hz).1
  simp only [RepV, RepS] at rx
  obtain ⟨b, c, hv, hc, hor⟩ := rx
  rcases hor with rfl | ⟨ad, sz, vs, rfl, hok, hr, hat⟩
  · simp at hz
  obtain ⟨u, hu1, hr1⟩ := hr.at hz
  have hl := (RepS.cells hs.1 hr1).len
  simp only [Array.length_toList] at hl
  have hsz : sz = tsz P e := by have := (hat _ u hu1).1; omega
  refine ⟨.pointer (some (ad.add (n.toNat * sz))), ?_, ?_⟩
  · unfold execOp
    rw [ho]
    simp only [hv, ry]
    have hn : n < (xs.length : Int) := by omega
    simp [Instr.indexAt, run_underlying hu, asIntOf, h0, hn, run_sizeOf hi, hsz]
  · simp only [RepV, RepS]
    refine ⟨ad.add (n.toNat * sz), u, by rw [Go.Deep.add_add, Nat.add_zero], by rw [add_block]; exact hok, hr1, (hat _ u hu1).2⟩

theorem does_indexAddr_arr {k : IntKind} {n : Int} {len : Nat} (ho : o.op = .indexAddr ty x y) (hx : aval st x = some X) (hy : aval st y = some (.sv (.val (.int k n))))
    (he : aelem P ty = some (len, e)) (h0 : 0 ≤ n ∧ n < (len : Int)) (hs : ashift st (n.toNat * tsz P e) X = some Y) (hd : st.fitsDst o.dst = true) : Does P o st (st.put o.dst Y) := by
  refine Does.puts hd fun keep w E a hI => ?_
  obtain ⟨ad, hv, hr⟩ := shift_rep hI hs (aval_rep hI hx)
  have ry := (aval_rep hI hy).val
  obtain ⟨hu, hi⟩ := aelem_eq he
  refine ⟨_, ?_, hr⟩
  unfold execOp
  rw [ho]
  simp only [hv, ry]
  simp [Instr.indexAt, run_underlying hu, asIntOf, Instr.sureAddr, h0.1, h0.2, run_sizeOf hi]

/-- A part of a value. -/
def apart (P : Program) (t : TypeId) (xs : List SV) (off : Nat) : Option SV :=
  if tagg P t = true then (if off + tsz P t ≤ xs.length then some (.agg ((xs.drop off).take (tsz P t))) else none) else xs[off]?
theorem part_rep {w : World} {E : Env} {t : TypeId} {xs : List SV} {off : Nat} {z : SV} (hu : (P.underlying t).isSome = true) (h : apart P t xs off = some z) {cs : Array Value} (hr : RepL w E.ok xs cs.toList) :
    ∃ v, (part t cs off).run P w = .ok v w ∧ RepS w E.ok z v := by
  unfold apart at h
  split at h
  · rename_i hg
    split at h
    · rename_i hle
      simp only [Option.some.injEq] at h; subst h
      refine ⟨.agg (cs.extract off (off + tsz P t)), by simp [part, run_isAgg hu, hg, run_sizeOf (info_of_underlying hu)], ?_⟩
      simp only [RepS]
      refine ⟨_, rfl, ?_⟩
      have := (hr.drop off).take (tsz P t)
      simpa [Array.toList_extract, List.extract_eq_take_drop] using this
    · cases h
  · rename_i hg
    obtain ⟨v, hv, hrv⟩ := hr.at h
    refine ⟨v, ?_, hrv⟩
    have : cs[off]? = some v := by simpa using hv
    simp [part, run_isAgg hu, hg, this]
theorem does_field {f n : Nat} {t : TypeId} {xs : List SV} {z : SV} (ho : o.op = .field ty x f) (hx : aval st x = some (.sv (.agg xs))) (hf : ftype P ty f = some (t, n)) (hs : apart P t xs n = some z) (hd : st.fitsDst o.dst = true) :
    Does P o st (st.put o.dst (.sv z)) := by
  refine Does.puts hd fun keep w E a hI => ?_
  have rx := aval_rep hI hx
  simp only [RepV, RepS] at rx
  obtain ⟨cs, hv, hr⟩ := rx
  unfold ftype at hf
  split at hf
  case h_2 => cases hf
  rename_i fs hu
  split at hf
  case h_2 => cases hf
  rename_i fd hfd
  split at hf
  case isFalse => cases hf
  rename_i hc
  simp only [Option.some.injEq, Prod.mk.injEq] at hf
  obtain ⟨rfl, rfl⟩ := hf
  obtain ⟨v, h1, h2⟩ := part_rep hc hs hr
  refine ⟨v, ?_, by simpa only [RepV] using h2⟩
  unfold execOp
  rw [ho]
  simp only [hv]
  simp [Instr.field, run_underlying hu, hfd, asAgg, h1]
theorem does_index_arr {k : IntKind} {n : Int} {len : Nat} {xs : List SV} {z : SV} (ho : o.op = .index ty x y) (hx : aval st x = some (.sv (.agg xs))) (hy : aval st y = some (.sv (.val (.int k n))))
    (he : aelem P ty = some (len, e)) (hu : (P.underlying e).isSome = true) (h0 : 0 ≤ n ∧ n < (len : Int)) (hs : apart P e xs (n.toNat * tsz P e) = some z) (hd : st.fitsDst o.dst = true) : Does P o st (st.put o.dst (.sv z)) := by
  refine Does.puts hd fun keep w E a hI => ?_
  have rx := aval_rep hI hx
  have ry := (aval_rep hI hy).val
  simp only [RepV, RepS] at rx
  obtain ⟨cs, hv, hr⟩ := rx
  obtain ⟨ha, hi⟩ := aelem_eq he
  obtain ⟨v, h1, h2⟩ := part_rep hu hs hr
  refine ⟨v, ?_, by simpa only [RepV] using h2⟩
  unfold execOp
  rw [ho]
  simp only [hv, ry]
  simp [Instr.index, run_underlying ha, asIntOf, h0.1, h0.2, run_sizeOf hi, h1]

/-- A byte of a string. -/
def bt (s : ByteArray) (n : Int) : Int := ((s.data.getD n.toNat 0).toNat : Int)
theorem does_index_str {k : IntKind} {n : Int} {s : ByteArray} (ho : o.op = .index ty x y) (hx : aval st x = some (.sv (.val (.string s)))) (hy : aval st y = some (.sv (.val (.int k n))))
    (ht : P.underlying ty = some .string) (h0 : 0 ≤ n ∧ n < (s.size : Int)) (hd : st.fitsDst o.dst = true) : Does P o st (st.put o.dst (.sv (.val (.int .u8 (bt s n))))) := by
  refine Does.puts hd fun keep w E a hI => ⟨_, ?_, RepV.val_mk _⟩
  have rx := (aval_rep hI hx).val
  have ry := (aval_rep hI hy).val
  have hlt : n.toNat < s.size := by omega
  have hb : s[n.toNat]? = some (s.data.getD n.toNat 0) := by
    rw [getElem?_pos s n.toNat hlt]
    congr 1
    have : n.toNat < s.data.size := hlt
    simp [Array.getD, this]
    rw [dif_pos hlt]
    rfl
  unfold execOp
  rw [ho]
  simp only [rx, ry]
  simp [Instr.index, run_underlying ht, asIntOf, h0.1, hb, bt]
end
end Go.Proofs.Ytimllhflecippaa.Ab
end

section
namespace Go.Proofs.Ytimllhflecippaa.Ab
open Go.RowKit
set_option linter.unusedVariables false
set_option linter.unusedSimpArgs false

/-- An element that is a zero value. -/
def zeroSV (z : Value) : SV := match z with
  | .agg cs => .agg (cs.toList.map svC)
  | v => svC v
theorem zeroSV_rep (w : World) (ok : Nat → Prop) (z : Value) : RepS w ok (zeroSV z) z := by
  unfold zeroSV
  split
  · rename_i cs; simp only [RepS]; exact ⟨cs, rfl, svC_repL _ _ _⟩
  · exact svC_rep _ _ _

section
variable {P : Program} {o : Oper} {st : St} {d : Nat} {e ty : TypeId} {x y : Operand} {X Y : AV}

/-- A new row for a tag that nobody holds; the temporary holds it. -/
theorem row_new {keep : Nat → Prop} {w w' : World} {E : Env} {a : Act} (hI : Inv keep w E st a) (hf : st.fresh d = true) (hn : d < st.n) (xs : List SV) (vs : List Value) (c sz : Nat) (cur : Array Value)
    (hsz : w'.heap.size = w.heap.size + 1) (hold : ∀ i, i < w.heap.size → w'.heap[i]? = w.heap[i]?) (hnew : w'.heap[w.heap.size]? = some (.cells cur e (0, 0)))
    (hr : RepL w E.ok xs vs) (h0 : 0 < sz) (h3 : xs = [] → c = 0) (h4 : xs.length ≤ c) (h5 : c ≤ maxLen) (h6 : cur.size = c * sz)
    (h8 : ∀ (i : Nat) (u : Value), vs[i]? = some u → u.cells.size = sz ∧ (∀ y ∈ u.cells, y.oneCell' = true) ∧ ∀ (j : Nat) (y : Value), u.cells[j]? = some y → cur[i * sz + j]? = some y) :
    Inv keep w' (E.set d (some (w.heap.size, c, sz))) { st with t := up st.t d (.own d), m := up st.m d (.row sz xs) } (a.put (some d) (.slice (some ⟨w.heap.size, 0, none⟩) xs.length c)) := by
  have hok : ∀ b, E.ok b → (E.set d (some (w.heap.size, c, sz))).ok b ∧ w'.heap[b]? = w.heap[b]? := fun b hb => ⟨hb, hold b (hI.okl b hb)⟩
  have h1 := hI.new (w' := w') (t := d) (o := .row sz xs) hf hsz hold c sz ⟨h0, .inr ⟨w.heap.size, c, e, cur, vs, by simp [Env.set], hnew, h3, h4, h5, h6, hr.keep hok, h8⟩⟩
  exact h1.put (dst := some d) (x := .own d) (by simpa [St.fitsDst] using hn) (by
    simp only [RepV]
    rw [lk_up, if_pos rfl]
    simp [Env.set])

/-- The cells of values, one behind the other. -/
theorem flat_get {sz : Nat} : ∀ (vs : List Value), (∀ u ∈ vs, u.cells.size = sz) → ∀ (i : Nat) (u : Value), vs[i]? = some u → ∀ (j : Nat) (y : Value), u.cells[j]? = some y → (vs.flatMap (fun v => v.cells.toList))[i * sz + j]? = some y
  | [], _, i, u, hu, _, _, _ => by simp at hu
  | v :: vs, hs, i, u, hu, j, y, hy => by
    have hv := hs v List.mem_cons_self
    cases i with
    | zero =>
      simp only [List.getElem?_cons_zero, Option.some.injEq] at hu; subst hu
      have hj := (Array.getElem?_eq_some_iff.1 hy).1
      simp only [List.flatMap_cons, Nat.zero_mul, Nat.zero_add]
      rw [List.getElem?_append_left (by simpa using hj)]
      simpa using hy
    | succ i =>
      simp only [List.getElem?_cons_succ] at hu
      simp only [List.flatMap_cons]
      rw [List.getElem?_append_right (by simp [hv, Nat.add_mul]; omega)]
      have := flat_get vs (fun u hu => hs u (List.mem_cons_of_mem _ hu)) i u hu j y hy
      rw [← this]
      congr 1
      simp [hv, Nat.add_mul]; omega
theorem flat_len {sz : Nat} : ∀ (vs : List Value), (∀ u ∈ vs, u.cells.size = sz) → (vs.flatMap (fun v => v.cells.toList)).length = vs.length * sz
  | [], _ => by simp
  | v :: vs, hs => by
    simp only [List.flatMap_cons, List.length_append, Array.length_toList, hs v List.mem_cons_self, flat_len vs (fun u hu => hs u (List.mem_cons_of_mem _ hu)), List.length_cons, Nat.add_mul]
    omega

/-- Elements that may lie in a row. -/
theorem fits_rep {w : World} {ok : Nat → Prop} {sz : Nat} {x : SV} {v : Value} (hf : x.fits sz = true) (h : RepS w ok x v) : v.cells.size = sz ∧ ∀ y ∈ v.cells, y.oneCell' = true := by
  simp only [SV.fits, Bool.and_eq_true, beq_iff_eq] at hf
  have hs : x.solid = true := by
    cases x <;> simp_all [SV.cells, SV.one, SV.solid]
  have hc := RepS.cells hs h
  have hl := hc.len
  simp only [Array.length_toList] at hl
  exact ⟨by omega, fun y hy => RepL.oneCell hf.2 hc y (by simpa using hy)⟩
theorem fits_repL {w : World} {ok : Nat → Prop} {sz : Nat} {xs : List SV} {vs : List Value} (hf : ∀ x ∈ xs, x.fits sz = true) (h : RepL w ok xs vs) : ∀ u ∈ vs, u.cells.size = sz ∧ ∀ y ∈ u.cells, y.oneCell' = true := by
  intro u hu
  obtain ⟨i, hi⟩ := List.getElem?_of_mem hu
  have hlt : i < xs.length := by rw [h.len]; exact (List.getElem?_eq_some_iff.1 hi).1
  exact fits_rep (hf _ (List.getElem_mem hlt)) (h.get i _ _ (List.getElem?_eq_getElem hlt) hi)

theorem made_get (z : Array Value) (n j : Nat) (h : j < n) : (madeCells z n)[j]? = some (z[j % z.size]!) := by
  unfold madeCells
  rw [Array.getElem?_map, Array.getElem?_range, if_pos h]
  rfl

theorem does_make {k k' : IntKind} {n : Int} (ho : o.op = .makeSlice ty x y) (hd : o.dst = some d) (hf : st.fresh d = true) (hn : d < st.n) (hx : aval st x = some (.sv (.val (.int k n)))) (hy : aval st y = some (.sv (.val (.int k' n))))
    (he : selem P ty = some e) {z : Value} (hz : tzero P e = some z) (h0 : 0 ≤ n) (hm : n.toNat * (tby P e + 1) ≤ 140737488355328) (hfit : (zeroSV z).fits (tsz P e) = true) (hp : tsz P e ≠ 0) :
    Does P o st { st with t := up st.t d (.own d), m := up st.m d (.row (tsz P e) (List.replicate n.toNat (zeroSV z))) } := by
  intro keep w E a hI
  obtain ⟨hu, hi⟩ := selem_eq he
  obtain ⟨i, hi⟩ := Option.isSome_iff_exists.1 hi
  have hz' : i.zero = some z := by simpa [tzero, hi] using hz
  have hsz : i.size = tsz P e := by simp [tsz, Program.cellsOf, hi]
  have hby : i.bytes = tby P e := by simp [tby, Program.bytesOf, hi]
  have rx := (aval_rep hI hx).val
  have ry := (aval_rep hI hy).val
  rw [Nat.mul_add, Nat.mul_one] at hm
  have hrun := run_make (P := P) w ty e i z hu hi hz' k k' n n h0 (Int.le_refl _) (by
    rw [hby]
    have : ((n.toNat * tby P e : Nat) : Int) ≤ 140737488355328 := by omega
    rw [Int.natCast_mul, Int.toNat_of_nonneg h0, Int.mul_comm] at this
    omega) (by omega)
  obtain ⟨f1, f2⟩ := fits_rep hfit (zeroSV_rep w E.ok z)
  refine ⟨.slice (some ⟨w.heap.size, 0, none⟩) n.toNat n.toNat, w.alloc (.cells (madeCells z.cells (n.toNat * i.size)) e), E.set d (some (w.heap.size, n.toNat, tsz P e)), .inl ?_, ?_, Evo.grow hI ⟨rfl, rfl, rfl⟩ (by simp) (fun j hj => Go.heap_alloc_old w _ hj) rfl (Env.set_pin (St.fresh_pin hf))⟩
  · unfold execOp
    rw [ho]
    simp only [rx, ry]
    rw [Sem.run_bind, hrun]
    rfl
  · rw [hd]
    have h := row_new (e := e) (w' := w.alloc (.cells (madeCells z.cells (n.toNat * i.size)) e)) hI hf hn (List.replicate n.toNat (zeroSV z)) (List.replicate n.toNat z) n.toNat (tsz P e) (madeCells z.cells (n.toNat * i.size)) (by simp) (fun i hi => Go.heap_alloc_old w _ hi) (Go.heap_alloc_new w _)
      (RepL.replicate _ (zeroSV_rep w E.ok z)) (by omega) (fun h9 => by simpa using h9) (by simp) (by simp only [maxLen]; omega) (by rw [size_madeCells, hsz]) (fun j u hu => by
        rw [List.getElem?_replicate] at hu
        split at hu
        case isFalse => cases hu
        rename_i hj
        simp only [Option.some.injEq] at hu; subst hu
        refine ⟨f1, f2, fun k y hk => ?_⟩
        have hklt : k < tsz P e := by rw [← f1]; exact (Array.getElem?_eq_some_iff.1 hk).1
        have hjm : (j + 1) * tsz P e ≤ n.toNat * tsz P e := Nat.mul_le_mul_right _ hj
        rw [Nat.add_mul, Nat.one_mul] at hjm
        rw [made_get _ _ _ (by rw [hsz]; omega), f1, Nat.add_comm, Nat.add_mul_mod_self_right, Nat.mod_eq_of_lt hklt]
        rw [Array.getElem!_eq_getD, Array.getD_eq_getD_getElem?, hk]; rfl)
    simpa using h

/-- The cells of values. -/
def flat (vs : List Value) : List Value := vs.flatMap (fun v => v.cells.toList)
theorem flat_set {sz : Nat} : ∀ (vs : List Value) (i : Nat) (v : Value), (∀ u ∈ vs, u.cells.size = sz) → v.cells.size = sz → i < vs.length → setAt (flat vs) (i * sz) v.cells.toList = flat (vs.set i v)
  | [], i, v, _, _, h => by simp at h
  | u :: vs, 0, v, hs, hv, _ => by
    have hu := hs u List.mem_cons_self
    simp only [flat, setAt, List.flatMap_cons, Nat.zero_mul, List.take_zero, List.nil_append, List.set_cons_zero, Nat.zero_add, Array.length_toList, hv]
    congr 1
    rw [List.drop_append_of_le_length (by simp [hu]), List.drop_of_length_le (by simp [hu])]
    rfl
  | u :: vs, i + 1, v, hs, hv, h => by
    have hu := hs u List.mem_cons_self
    have ih := flat_set vs i v (fun z hz => hs z (List.mem_cons_of_mem _ hz)) hv (by simpa using h)
    simp only [flat, List.flatMap_cons, List.set_cons_succ] at ih ⊢
    rw [← ih]
    simp only [setAt, Array.length_toList, hv, Nat.add_mul, Nat.one_mul]
    rw [List.take_append, List.take_of_length_le (by simp [hu]), List.drop_append, List.drop_of_length_le (by simp [hu])]
    simp only [Array.length_toList, hu, List.nil_append, List.append_assoc]
    rw [show i * sz + sz - sz = i * sz by omega, show i * sz + sz + sz - sz = i * sz + sz by omega]
theorem flat_append (vs us : List Value) : flat (vs ++ us) = flat vs ++ flat us := by simp [flat]

theorem fold_set (off : Nat) : ∀ (l : List Value) (k : Nat) (cells : Array Value), off + k + l.length ≤ cells.size → ((l.zipIdx k).foldl (fun cs p => cs.setIfInBounds (off + p.2) p.1) cells).toList = setAt cells.toList (off + k) l
  | [], k, cells, _ => by simp [setAt]
  | v :: l, k, cells, h => by
    simp only [List.zipIdx_cons, List.foldl_cons, List.length_cons] at h ⊢
    rw [fold_set off l (k + 1) _ (by simp; omega)]
    simp only [Array.toList_setIfInBounds]
    refine List.ext_getElem? fun i => ?_
    rw [setAt_get _ _ _ _ (by simp; omega), setAt_get _ _ _ _ (by simp; omega), List.getElem?_set]
    simp only [List.length_cons]
    by_cases c1 : i < off + k
    · rw [if_pos (by omega), if_pos c1, if_neg (by omega)]
    · rw [if_neg c1]
      by_cases c2 : i = off + k
      · subst c2
        rw [if_pos (by omega), if_pos rfl, if_pos (by simp; omega), if_pos (by omega)]
        simp
      · rw [if_neg (by omega)]
        by_cases c3 : i < off + k + (l.length + 1)
        · rw [if_pos (by omega), if_pos (by omega), show i - (off + k) = (i - (off + (k + 1))) + 1 by omega]
          simp
        · rw [if_neg (by omega), if_neg (by omega), if_neg (by omega)]
theorem fill_step (place : Nat → Option (Nat × Nat)) (cells : Array Value) (i : Nat) (v : Value) (rest : List (Nat × Value)) (off size : Nat) (hp : place i = some (off, size)) (hs : v.cells.size = size) (hfit : off + size ≤ cells.size) :
    Instr.fill place cells ((i, v) :: rest) = Instr.fill place (setAt cells.toList off v.cells.toList).toArray rest := by
  have h := fold_set off v.cells.toList 0 cells (by simp; omega)
  simp only [Nat.add_zero] at h
  have h2 : (v.cells.zipIdx.foldl (fun cs (p : Value × Nat) => cs.setIfInBounds (off + p.2) p.1) cells) = (setAt cells.toList off v.cells.toList).toArray := by
    apply Array.ext'
    rw [← h, ← Array.foldl_toList, Array.toList_zipIdx]
  simp only [Instr.fill, hp]
  rw [if_neg (by simp; omega)]
  congr 1

/-- An element: nothing that is owned. -/
def AV.elem : AV → Option SV
  | .sv x => some x
  | .nil => some (.lst [])
  | _ => none
theorem elem_rep {w : World} {E : Env} {m : Mem} {z : SV} {v : Value} (h : X.elem = some z) (hr : RepV w E m X v) : RepS w E.ok z v := by
  cases X <;> simp [AV.elem] at h
  · subst h; simpa only [RepV] using hr
  · subst h; simp only [RepV] at hr; subst hr; simp [RepS]

/-- A row, its parts laid in. -/
def aparts (st : St) (sz : Nat) : List SV → List (Nat × Operand) → Option (List SV)
  | xs, [] => some xs
  | xs, (i, x) :: rest => match (aval st x).bind AV.elem with
    | some z => if z.fits sz = true ∧ i < xs.length then aparts st sz (xs.set i z) rest else none
    | none => none
theorem parts_run {keep : Nat → Prop} {w : World} {E : Env} {a : Act} (hI : Inv keep w E st a) {sz : Nat} : ∀ (l : List (Nat × Operand)) {xs ys : List SV} {vs : List Value}, aparts st sz xs l = some ys → RepL w E.ok xs vs → (∀ x ∈ xs, x.fits sz = true) →
    ∃ us, Instr.fill (fun i => some (i * sz, sz)) (flat vs).toArray (l.map fun p => (p.1, a.eval p.2)) = some (flat us).toArray ∧ RepL w E.ok ys us ∧ (∀ y ∈ ys, y.fits sz = true) ∧ ys.length = xs.length
  | [], xs, ys, vs, h, hr, hf => by
    simp only [aparts, Option.some.injEq] at h; subst h
    exact ⟨vs, by simp [Instr.fill], hr, hf, rfl⟩
  | (i, x) :: rest, xs, ys, vs, h, hr, hf => by
    simp only [aparts] at h
    split at h
    case h_2 => cases h
    rename_i z hz
    split at h
    case isFalse => cases h
    rename_i hc
    obtain ⟨X, hX, hz⟩ := Option.bind_eq_some_iff.1 hz
    have hrz := elem_rep hz (aval_rep hI hX)
    obtain ⟨hfz, hi⟩ := hc
    obtain ⟨f1, f2⟩ := fits_rep hfz hrz
    have hvs : ∀ u ∈ vs, u.cells.size = sz := fun u hu => (fits_repL hf hr u hu).1
    have hlen := hr.len
    have hm : (i + 1) * sz ≤ vs.length * sz := Nat.mul_le_mul_right _ (by omega)
    rw [Nat.add_mul, Nat.one_mul] at hm
    obtain ⟨us, h1, h2, h3, h4⟩ := parts_run hI rest h (hr.set i hrz) (fun x hx => by
      rcases List.mem_or_eq_of_mem_set hx with hx | rfl
      · exact hf x hx
      · exact hfz)
    refine ⟨us, ?_, h2, h3, by rw [h4]; simp⟩
    rw [List.map_cons, fill_step (off := i * sz) (size := sz) (hp := rfl) (hs := f1) (hfit := by simp [flat, flat_len vs hvs]; omega)]
    rw [← h1, ← flat_set vs i (a.eval x) hvs f1 (by omega)]

theorem flat_made (z : Value) (n sz : Nat) (hs : z.cells.size = sz) (hp : 0 < sz) : flat (List.replicate n z) = (madeCells z.cells (n * sz)).toList := by
  have hall : ∀ u ∈ List.replicate n z, u.cells.size = sz := fun u hu => by rw [(List.mem_replicate.1 hu).2]; exact hs
  have hl := flat_len _ hall
  refine List.ext_getElem? fun j => ?_
  rw [List.length_replicate] at hl
  by_cases hj : j < n * sz
  · have hd : j = (j / sz) * sz + j % sz := by rw [Nat.mul_comm]; exact (Nat.div_add_mod j sz).symm
    have hq : j / sz < n := by rw [Nat.div_lt_iff_lt_mul hp]; exact hj
    have hr := Nat.mod_lt j hp
    obtain ⟨y, hy⟩ : ∃ y, z.cells[j % sz]? = some y := ⟨_, Array.getElem?_eq_getElem (by omega)⟩
    have h1 := flat_get (List.replicate n z) hall (j / sz) z (by rw [List.getElem?_replicate, if_pos hq]) (j % sz) y hy
    rw [← hd] at h1
    rw [show (flat (List.replicate n z))[j]? = some y from h1, Array.getElem?_toList, made_get _ _ _ hj, hs]
    rw [Array.getElem!_eq_getD, Array.getD_eq_getD_getElem?, hy]; rfl
  · rw [List.getElem?_eq_none (by show _ ≥ _; unfold flat; omega), List.getElem?_eq_none (by simp [size_madeCells]; omega)]

theorem does_buildSlice {len : Nat} {ps : Array (Nat × Operand)} {xs : List SV} (ho : o.op = .buildSlice ty len ps) (hd : o.dst = some d) (hf : st.fresh d = true) (hn : d < st.n) (he : selem P ty = some e) {z : Value} (hz : tzero P e = some z)
    (hfit : (zeroSV z).fits (tsz P e) = true) (hp : tsz P e ≠ 0) (hl : len ≠ 0) (hm : len * tsz P e ≤ 65536) (hxs : aparts st (tsz P e) (List.replicate len (zeroSV z)) ps.toList = some xs) :
    Does P o st { st with t := up st.t d (.own d), m := up st.m d (.row (tsz P e) xs) } := by
  intro keep w E a hI
  obtain ⟨hu, hi⟩ := selem_eq he
  obtain ⟨i, hi⟩ := Option.isSome_iff_exists.1 hi
  have hz' : i.zero = some z := by simpa [tzero, hi] using hz
  have hsz : i.size = tsz P e := by simp [tsz, Program.cellsOf, hi]
  obtain ⟨f1, f2⟩ := fits_rep hfit (zeroSV_rep w E.ok z)
  obtain ⟨us, h1, h2, h3, h4⟩ := parts_run hI ps.toList hxs (RepL.replicate len (zeroSV_rep w E.ok z)) (fun x hx => by rw [(List.mem_replicate.1 hx).2]; exact hfit)
  have hlen2 := h2.len
  rw [List.length_replicate] at h4
  have husz : ∀ u ∈ us, u.cells.size = tsz P e := fun u hu => (fits_repL h3 h2 u hu).1
  have hpos : 0 < len * tsz P e := Nat.mul_pos (by omega) (by omega)
  have hll : len ≤ len * tsz P e := Nat.le_mul_of_pos_right _ (by omega)
  have hrun := run_buildSlice (P := P) w ty e len (ps.map fun (i, x) => (i, a.eval x)) (flat us).toArray i z hu hi hz' (by rw [hsz]; omega) (by rw [hsz]; omega) (by
    rw [hsz, ← h1, Array.toList_map, flat_made z len (tsz P e) f1 (by omega)]
    rfl)
  refine ⟨.slice (some ⟨w.heap.size, 0, none⟩) len len, w.alloc (.cells (flat us).toArray e), E.set d (some (w.heap.size, len, tsz P e)), .inl ?_, ?_, Evo.grow hI ⟨rfl, rfl, rfl⟩ (by simp) (fun j hj => Go.heap_alloc_old w _ hj) rfl (Env.set_pin (St.fresh_pin hf))⟩
  · unfold execOp
    rw [ho]
    dsimp only
    rw [Sem.run_bind, hrun]
    rfl
  · rw [hd]
    have h := row_new (e := e) (w' := w.alloc (.cells (flat us).toArray e)) hI hf hn xs us len (tsz P e) (flat us).toArray (by simp) (fun i hi => Go.heap_alloc_old w _ hi) (Go.heap_alloc_new w _)
      h2 (by omega) (fun h9 => by rw [h9] at h4; simp at h4; omega) (by omega) (by simp only [maxLen]; omega) (by rw [List.size_toArray]; unfold flat; rw [flat_len us husz]; congr 1; omega) (fun j u hu => by
        refine ⟨husz u (List.mem_of_getElem? hu), (fits_repL h3 h2 u (List.mem_of_getElem? hu)).2, fun k y hk => ?_⟩
        rw [List.getElem?_toArray]
        exact flat_get us husz j u hu k y hk)
    rw [h4] at h
    exact h

def acells : SV → Option (List SV) := fun x => if x.solid = true then some x.cells else none
def afill (st : St) (place : Nat → Option (Nat × Nat)) : List SV → List (Nat × Operand) → Option (List SV)
  | xs, [] => some xs
  | xs, (i, x) :: rest => match place i, ((aval st x).bind AV.elem).bind acells with
    | some (off, size), some zs => if zs.length = size ∧ off + size ≤ xs.length then afill st place (setAt xs off zs) rest else none
    | _, _ => none
theorem fill_run {keep : Nat → Prop} {w : World} {E : Env} {a : Act} (hI : Inv keep w E st a) {place : Nat → Option (Nat × Nat)} : ∀ (l : List (Nat × Operand)) {xs ys : List SV} {vs : Array Value}, afill st place xs l = some ys → RepL w E.ok xs vs.toList →
    ∃ us, Instr.fill place vs (l.map fun p => (p.1, a.eval p.2)) = some us ∧ RepL w E.ok ys us.toList
  | [], xs, ys, vs, h, hr => by
    simp only [afill, Option.some.injEq] at h; subst h
    exact ⟨vs, by simp [Instr.fill], hr⟩
  | (i, x) :: rest, xs, ys, vs, h, hr => by
    simp only [afill] at h
    split at h
    case h_2 => cases h
    rename_i off size zs hp hz
    split at h
    case isFalse => cases h
    rename_i hc
    obtain ⟨z, hz1, hz2⟩ := Option.bind_eq_some_iff.1 hz
    obtain ⟨X, hX, hz1⟩ := Option.bind_eq_some_iff.1 hz1
    unfold acells at hz2
    split at hz2
    case isFalse => cases hz2
    rename_i hsol
    simp only [Option.some.injEq] at hz2; subst hz2
    have hrz := RepS.cells hsol (elem_rep hz1 (aval_rep hI hX))
    have hl1 := hrz.len
    have hl2 := hr.len
    simp only [Array.length_toList] at hl1 hl2
    obtain ⟨us, h1, h2⟩ := fill_run hI rest (vs := (setAt vs.toList off (a.eval x).cells.toList).toArray) h (by simpa using hr.setAt hrz off)
    refine ⟨us, ?_, h2⟩
    exact (fill_step place vs i (a.eval x) _ off size hp (by omega) (by omega)).trans h1
def splaces (P : Program) (t : TypeId) : Option (List (Nat × Nat)) := match P.underlying t with
  | some (.struct fs) => fs.toList.mapM (fun f => (P.info? f.type).map fun i => (f.offset, i.size))
  | _ => none
theorem does_build {ps : Array (Nat × Operand)} {xs : List SV} {pl : List (Nat × Nat)} (ho : o.op = .build ty ps) {z : Value} (hz : tzero P ty = some z) (hpl : splaces P ty = some pl) (hxs : afill st (fun i => pl[i]?) (z.cells.toList.map svC) ps.toList = some xs)
    (hd : st.fitsDst o.dst = true) : Does P o st (st.put o.dst (.sv (.agg xs))) := by
  refine Does.puts hd fun keep w E a hI => ?_
  obtain ⟨us, h1, h2⟩ := fill_run hI ps.toList (vs := z.cells) hxs (svC_repL w E.ok _)
  refine ⟨.agg us, ?_, by simp only [RepV, RepS]; exact ⟨us, rfl, h2⟩⟩
  unfold splaces at hpl
  split at hpl
  case h_2 => cases hpl
  rename_i fs hu
  unfold execOp
  rw [ho]
  dsimp only
  have hplaces := run_places (P := P) w fs.toList pl hpl
  simp [Instr.build, run_underlying hu, run_zeroValue hz, Array.mapM_eq_mapM_toList, hplaces, h1]
end
end Go.Proofs.Ytimllhflecippaa.Ab
end

section
namespace Go.Proofs.Ytimllhflecippaa.Ab
open Go.RowKit
set_option linter.unusedVariables false
set_option linter.unusedSimpArgs false

section
variable {kp : Nat → Prop} {w w' : World} {E E' : Env} {st st' : St} {a : Act} {t d : Nat} {o : Obj'}
/-- One tag goes, another one comes, in its block or in a new one. -/
theorem Inv.re (h : Inv kp w E st a) (hf : st.fresh d = true) {x : Option (Nat × Nat × Nat)} (hsz : w.heap.size ≤ w'.heap.size)
    (hold : ∀ i, i < w.heap.size → (∀ o c s, lk st.m t = some o → E.at_ t = some (i, c, s) → False) → w'.heap[i]? = w.heap[i]?)
    (hx : ∀ g c s, x = some (g, c, s) → (w.heap.size ≤ g ∧ g < w'.heap.size) ∨ (∃ o' c' s', lk st.m t = some o' ∧ E.at_ t = some (g, c', s')))
    (hm : MemRep w' (E.set d x) (lk (up (rm st.m t) d o)) d o) : Inv kp w' (E.set d x) { st with m := up (rm st.m t) d o } a := by
  have hf' := hf
  simp only [St.fresh, Bool.and_eq_true, Bool.not_eq_true', Option.isNone_iff_eq_none, decide_eq_true_eq] at hf
  obtain ⟨_, hh, hn⟩ := hf
  have hokb : ∀ b, E.ok b → w'.heap[b]? = w.heap[b]? := fun b hb => hold b (h.okl b hb) (fun o c s h1 h2 => (h.own t o b c s h1 h2).2.1 hb)
  have hok : ∀ b, E.ok b → (E.set d x).ok b ∧ w'.heap[b]? = w.heap[b]? := fun b hb => ⟨hb, hokb b hb⟩
  have hlk : ∀ s, s ≠ d → lk (up (rm st.m t) d o) s = if t = s then none else lk st.m s := fun s hs => by rw [lk_up, if_neg (Ne.symm hs), lk_rm]
  have hpass : ∀ s, s ≠ d → Pass E (E.set d x) (lk st.m) (lk (up (rm st.m t) d o)) s := fun s hs => by
    unfold Pass
    rw [hlk s hs, show (E.set d x).at_ s = E.at_ s by simp [Env.set, hs]]
    split
    · exact .inl rfl
    · exact same_tags E (lk st.m) s
  have hat : ∀ s o', lk (up (rm st.m t) d o) s = some o' → (s = d ∧ o' = o) ∨ (s ≠ d ∧ s ≠ t ∧ lk st.m s = some o') := fun s o' hs => by
    by_cases e : s = d
    · rw [lk_up, if_pos e.symm] at hs; simp at hs; exact .inl ⟨e, hs.symm⟩
    · rw [hlk s e] at hs
      split at hs
      · cases hs
      · exact .inr ⟨e, by omega, hs⟩
  refine h.turn hsz hok (fun s hs => hpass s (fresh_ne hf' hs)) ?_ ?_ ?_ (fun b hb => Nat.lt_of_lt_of_le (h.okl b hb) hsz)
  · intro s o' hs
    rcases hat s o' hs with ⟨rfl, rfl⟩ | ⟨hne, hnt, ks⟩
    · exact hm
    · refine (h.mm s o' ks).keep hok (by simp [Env.set, hne]) (fun g c' s' hg => hold g (h.own s o' g c' s' ks hg).1 (fun o1 c1 s1 h1 h2 => hnt (h.inj s t o' o1 g c' s' c1 s1 ks h1 hg h2))) fun u cs hcs hu => hpass u ?_
      intro hut
      rw [hcs] at ks
      rw [hut, held_m hh ks] at hu
      cases hu
  · intro s s' o1 o2 g c1 z1 c2 z2 h1 h2 e1 e2
    have key : ∀ s o1 c1 z1, s ≠ d → s ≠ t → lk st.m s = some o1 → E.at_ s = some (g, c1, z1) → ∀ c2 z2, x = some (g, c2, z2) → False := fun s o1 c1 z1 n1 n2 k1 q1 c2 z2 q2 => by
      rcases hx g c2 z2 q2 with ⟨h9, _⟩ | ⟨o', c', s', h9, h10⟩
      · have := (h.own s o1 g c1 z1 k1 q1).1; omega
      · exact n2 (h.inj s t o1 o' g c1 z1 c' s' k1 h9 q1 h10)
    rcases hat s o1 h1 with ⟨rfl, rfl⟩ | ⟨n1, n2, k1⟩ <;> rcases hat s' o2 h2 with ⟨rfl, rfl⟩ | ⟨n1', n2', k2⟩
    · rfl
    · simp only [Env.set, if_true, if_neg n1'] at e1 e2
      exact (key s' o2 c2 z2 n1' n2' k2 e2 c1 z1 e1).elim
    · simp only [Env.set, if_true, if_neg n1] at e1 e2
      exact (key s o1 c1 z1 n1 n2 k1 e1 c2 z2 e2).elim
    · simp only [Env.set, if_neg n1, if_neg n1'] at e1 e2
      exact h.inj s s' o1 o2 g c1 z1 c2 z2 k1 k2 e1 e2
  · intro s o' g c' s' hs hg
    rcases hat s o' hs with ⟨rfl, rfl⟩ | ⟨n1, n2, k1⟩
    · simp only [Env.set, if_true] at hg
      rcases hx g c' s' hg with ⟨h9, h10⟩ | ⟨o1, c1, s1, h9, h10⟩
      · exact ⟨h10, fun hk => by have := h.okl _ hk; omega, fun hk => by have := h.kpl _ hk; omega⟩
      · have := h.own t o1 g c1 s1 h9 h10
        exact ⟨by omega, this.2⟩
    · simp only [Env.set, if_neg n1] at hg
      have := h.own s o' g c' s' k1 hg
      exact ⟨by omega, this.2⟩
theorem Evo.re (h : Inv kp w E st a) (hd : w'.os = w.os ∧ w'.tape = w.tape ∧ w'.output = w.output) (hsz : w.heap.size ≤ w'.heap.size)
    (hold : ∀ i, i < w.heap.size → (∀ o c s, lk st.m t = some o → E.at_ t = some (i, c, s) → False) → w'.heap[i]? = w.heap[i]?) (he : E'.ok = E.ok) (hp : ∀ t, 1000000 ≤ t → E'.at_ t = E.at_ t) (hdr : w.drawn ≤ w'.drawn := by first | exact Nat.le_refl _ | exact Nat.le_succ _) : Evo kp w E w' E' :=
  ⟨hd.1, hd.2.1, hd.2.2, hsz, fun b hb => hold b (h.kpl b hb) (fun o c s h1 h2 => (h.own t o b c s h1 h2).2.2 hb), fun b hb => ⟨by rw [he]; exact hb, hold b (h.okl b hb) (fun o c s h1 h2 => (h.own t o b c s h1 h2).2.1 hb)⟩,
    fun b hb => .inl (by rw [he] at hb; exact hb), hp, fun _ => hdr⟩
end

/-- A slice that is read: its elements. -/
def rowOf (st : St) : AV → Option (List SV)
  | .own t => match lk st.m t with
    | some (.row _ xs) => some xs
    | _ => none
  | .sv (.lst xs) => some xs
  | .nil => some []
  | _ => none
theorem src_rep {keep : Nat → Prop} {w : World} {E : Env} {st : St} {a : Act} (hI : Inv keep w E st a) {Y : AV} {ys : List SV} (hy : rowOf st Y = some ys) {v : Value} (hv : RepV w E (lk st.m) Y v) :
    ∃ b c, v = .slice b ys.length c ∧ ys.length ≤ c ∧ (ys = [] ∨ ∃ ad sz vs, b = some ad ∧ RepL w E.ok ys vs ∧ ∀ (i : Nat) (u : Value), vs[i]? = some u → u.cells.size = sz ∧ At w u (ad.add (i * sz))) := by
  unfold rowOf at hy
  split at hy
  · rename_i t
    split at hy
    case h_2 => cases hy
    rename_i sz xs hm
    simp only [Option.some.injEq] at hy; subst hy
    simp only [RepV, hm] at hv
    obtain ⟨h0, hmm⟩ := hI.mm t _ hm
    rcases hmm with ⟨h1, rfl⟩ | ⟨g, c, e, cur, vs, h1, h2, h3, h4, h5, h6, h7, h8⟩
    · rw [h1] at hv
      obtain ⟨b, rfl⟩ := hv
      exact ⟨b, 0, rfl, Nat.le_refl _, .inl rfl⟩
    · rw [h1] at hv
      refine ⟨_, c, hv, h4, .inr ⟨⟨g, 0, none⟩, sz, vs, rfl, h7, fun i u hu => ?_⟩⟩
      obtain ⟨k1, k2, k3⟩ := h8 i u hu
      refine ⟨k1, fun j y hy => ?_⟩
      rw [Go.Deep.add_add, add_lit, cell_of_row w g _ cur e (0, 0) h2, Nat.zero_add]
      exact k3 j y hy
  · rename_i xs
    simp only [Option.some.injEq] at hy; subst hy
    simp only [RepV, RepS] at hv
    obtain ⟨b, c, rfl, hc, hor⟩ := hv
    refine ⟨b, c, rfl, hc, ?_⟩
    rcases hor with h | ⟨ad, sz, vs, rfl, _, h1, h2⟩
    · exact .inl h
    · exact .inr ⟨ad, sz, vs, rfl, h1, h2⟩
  · simp only [Option.some.injEq] at hy; subst hy
    simp only [RepV] at hv
    exact ⟨none, 0, hv, Nat.le_refl _, .inl rfl⟩
  · cases hy

theorem flat_at {w : World} {sz : Nat} : ∀ (vs : List Value) (ad : Addr), (∀ (i : Nat) (u : Value), vs[i]? = some u → u.cells.size = sz ∧ At w u (ad.add (i * sz))) → ∀ (j : Nat) (y : Value), (flat vs)[j]? = some y → w.cell? (ad.add j) = some y
  | [], _, _, j, y, hy => by simp [flat] at hy
  | v :: vs, ad, h, j, y, hy => by
    obtain ⟨h1, h2⟩ := h 0 v rfl
    simp only [flat, List.flatMap_cons] at hy
    by_cases hj : j < sz
    · rw [List.getElem?_append_left (by simpa [h1] using hj)] at hy
      have := h2 j y (by simpa using hy)
      rwa [Nat.zero_mul, show ad.add 0 = ad by simp [Addr.add]] at this
    · rw [List.getElem?_append_right (by simp [h1]; omega)] at hy
      have := flat_at vs (ad.add sz) (fun i u hu => by
        obtain ⟨k1, k2⟩ := h (i + 1) u (by simpa using hu)
        refine ⟨k1, ?_⟩
        rw [Go.Deep.add_add, show sz + i * sz = (i + 1) * sz by rw [Nat.add_mul]; omega]
        exact k2) (j - sz) y (by simpa [flat, h1] using hy)
      rw [Go.Deep.add_add, show sz + (j - sz) = j by omega] at this
      exact this

section
variable {P : Program}
/-- The elements that are appended, as the machine reads them. -/
theorem src_first {keep : Nat → Prop} {w : World} {E : Env} {st : St} {a : Act} (hI : Inv keep w E st a) {Y : AV} {ys : List SV} {sz : Nat} (hy : rowOf st Y = some ys) (hf : ∀ y ∈ ys, y.fits sz = true) {v : Value} (hv : RepV w E (lk st.m) Y v) :
    ∃ us, RepL w E.ok ys us ∧ (∀ u ∈ us, u.cells.size = sz ∧ ∀ y ∈ u.cells, y.oneCell' = true) ∧ (∀ w', w'.heap = w.heap → (Builtin.firstCells sz ys.length v).run P w' = .ok (flat us).toArray w') ∧ (Builtin.lenOf v).run P w = .ok ys.length w := by
  obtain ⟨b, c, rfl, hc, hor⟩ := src_rep hI hy hv
  rcases hor with rfl | ⟨ad, sz', vs, rfl, hr, hat⟩
  · refine ⟨[], RepL.nil, (fun u hu => by cases hu), fun w' _ => ?_, by simp [Builtin.lenOf]⟩
    cases b with
    | none => exact run_firstCells_none _ _ _ _ _
    | some ad => exact run_firstCells_some w' sz 0 ad 0 c [] (by simp) (fun j v hv => by simp at hv)
  · have hall := fits_repL hf hr
    refine ⟨vs, hr, hall, fun w' hw => ?_, by simp [Builtin.lenOf]⟩
    refine run_firstCells_some w' sz ys.length ad ys.length c (flat vs) (by unfold flat; rw [flat_len vs (fun u hu => (hall u hu).1), hr.len]) (fun j y hy => ?_)
    have : w'.cell? (ad.add j) = w.cell? (ad.add j) := by simp [World.cell?, hw]
    rw [this]
    exact flat_at vs ad hat j y hy

theorem run_append_fits {w : World} {t ty e : TypeId} {i : TypeInfo} {g sLen sCap m : Nat} {cur : Array Value} {e' : TypeId} {yv : Value} {news : List Value} (ht : P.underlying t = some (.slice e)) (hi : P.info? e = some i) (hg : w.heap[g]? = some (.cells cur e' (0, 0)))
    (hlen : (Builtin.lenOf yv).run P w = .ok m w) (hf : (Builtin.firstCells i.size m yv).run P w = .ok news.toArray w) (hl : news.length = m * i.size) (h1 : ∀ u ∈ news, u.oneCell' = true) (hroom : sLen + m ≤ sCap) (hfit : sLen * i.size + news.length ≤ cur.size) :
    (Builtin.append_ #[t, t] ty #[.slice (some ⟨g, 0, none⟩) sLen sCap, yv]).run P w = .ok (.slice (some ⟨g, 0, none⟩) (sLen + m) sCap) (w.setRow g (setAt cur.toList (sLen * i.size) news).toArray) := by
  have hst := run_storeCells_at P g (sLen * i.size) e' news 0 cur w hg (by simpa using hfit) h1
  simp only [Nat.add_zero] at hst
  simp [Builtin.append_, run_underlying ht, sizeOf, typeInfo, hi, hlen, hroom, hf, Addr.add_lit, hst, setAt]
theorem run_append_none {w : World} {t ty e : TypeId} {i : TypeInfo} {b : Option Addr} {c : Nat} {yv : Value} (ht : P.underlying t = some (.slice e)) (hi : P.info? e = some i)
    (hlen : (Builtin.lenOf yv).run P w = .ok 0 w) (hf : (Builtin.firstCells i.size 0 yv).run P w = .ok #[] w) :
    (Builtin.append_ #[t, t] ty #[.slice b 0 c, yv]).run P w = .ok (.slice b 0 c) w := by
  cases b <;> simp [Builtin.append_, run_underlying ht, sizeOf, typeInfo, hi, hlen, hf, storeCells]
theorem run_append_grows {w : World} {t ty e : TypeId} {i : TypeInfo} {z : Value} {b : Option Addr} {sLen sCap m : Nat} {yv : Value} {olds news : List Value} (ht : P.underlying t = some (.slice e)) (hi : P.info? e = some i) (hz : i.zero = some z)
    (hlen : (Builtin.lenOf yv).run P w = .ok m w) (ho : (Builtin.firstCells i.size sLen (.slice b sLen sCap)).run P w.drew = .ok olds.toArray w.drew) (hf : (Builtin.firstCells i.size m yv).run P w.drew = .ok news.toArray w.drew)
    (hg : sCap < sLen + m) (h63 : ((sLen + m : Nat) : Int) ≤ 9223372036854775807) (hfit : Builtin.nextslicecap (sLen + m) sCap * i.bytes ≤ 281474976710656) :
    (Builtin.append_ #[t, t] ty #[.slice b sLen sCap, yv]).run P w = .ok (.slice (some ⟨w.heap.size, 0, none⟩) (sLen + m) (grownCap w (sLen + m) sCap e))
      (w.drew.alloc (.cells (olds.toArray ++ news.toArray ++ Builtin.zeroCells z.cells (grownCap w (sLen + m) sCap e - (sLen + m))) e)) := by
  have hn : ¬ (sLen + m ≤ sCap) := by omega
  have h63' : ¬ (9223372036854775807 < ((sLen : Int) + (m : Int))) := by omega
  have h48' : ¬ (281474976710656 < Builtin.nextslicecap (sLen + m) sCap * i.bytes) := by omega
  simp [Builtin.append_, run_underlying ht, sizeOf, typeInfo, zeroValue, hi, hz, hlen, hn, h63', h48', Question.forced, ho, hf, newRow, grownCap]
  congr 2
  apply Array.ext'
  simp

end

theorem rm_none {α : Type} : ∀ {l : List (Nat × α)} {d : Nat}, lk l d = none → rm l d = l
  | [], d, _ => rfl
  | (k, x) :: l, d, h => by
    simp only [lk] at h
    split at h
    · cases h
    · rename_i hk; simp only [rm, if_neg hk, rm_none h]

/-- What 'append' has done: the cells that were, then those that came. -/
theorem grown_row {w : World} {E : Env} {m : Mem} {e : TypeId} {d sz cap : Nat} {xs ys : List SV} {vs us : List Value} {g : Nat} {rest : Array Value} {n : Nat} (h0 : 0 < sz) (hE : E.at_ d = some (g, cap, sz)) (hh : w.heap[g]? = some (.cells ((flat vs).toArray ++ (flat us).toArray ++ rest) e (0, 0)))
    (hr : rest.size = n * sz) (hn : xs.length + ys.length + n = cap) (hne : xs ++ ys = [] → cap = 0) (hm : cap ≤ maxLen) (hv : RepL w E.ok xs vs) (hu : RepL w E.ok ys us) (h1 : ∀ u ∈ vs, u.cells.size = sz ∧ ∀ y ∈ u.cells, y.oneCell' = true) (h2 : ∀ u ∈ us, u.cells.size = sz ∧ ∀ y ∈ u.cells, y.oneCell' = true) :
    MemRep w E m d (.row sz (xs ++ ys)) := by
  have hl1 := hv.len
  have hl2 := hu.len
  have hall : ∀ u ∈ vs ++ us, u.cells.size = sz ∧ ∀ y ∈ u.cells, y.oneCell' = true := fun u hm => by
    rcases List.mem_append.1 hm with hm | hm
    · exact h1 u hm
    · exact h2 u hm
  have hf : ((flat vs).toArray ++ (flat us).toArray ++ rest).toList = flat (vs ++ us) ++ rest.toList := by rw [flat_append]; simp
  have hfl := flat_len (sz := sz) (vs ++ us) (fun u hu => (hall u hu).1)
  refine ⟨h0, .inr ⟨g, cap, e, _, vs ++ us, hE, hh, hne, by rw [List.length_append]; omega, hm, ?_, hv.append hu, fun i u hi => ?_⟩⟩
  · rw [← Array.length_toList, hf, List.length_append, Array.length_toList (xs := rest), hr]
    unfold flat
    rw [hfl, List.length_append, ← hl1, ← hl2, ← hn]
    simp only [Nat.add_mul]
  · have hmem := List.mem_of_getElem? hi
    refine ⟨(hall u hmem).1, (hall u hmem).2, fun j y hy => ?_⟩
    have hg := flat_get (vs ++ us) (fun u hu => (hall u hu).1) i u hi j y hy
    rw [← Array.getElem?_toList, hf]
    rw [List.getElem?_append_left (by have := (List.getElem?_eq_some_iff.1 hg).1; exact this)]
    exact hg

section
variable {P : Program} {o : Oper} {st : St} {d : Nat} {e ty tr : TypeId} {x y : Operand} {X Y : AV}
theorem run_builtin_append {w : World} {ρ : Operand → Value} {v : Value} {w' : World} (ho : o.op = .call { callee := .builtin .append, args := #[x, y], argTypes := #[ty, ty] })
    (h : (Builtin.append_ #[ty, ty] o.type #[ρ x, ρ y]).run P w = .ok v w') : (execOp ρ o).run P w = .ok (.value v) w' := by
  unfold execOp
  rw [ho]
  simp [resolve, invoke, builtin, h]

theorem append_core {keep : Nat → Prop} {w : World} {E : Env} {a : Act} (hI : Inv keep w E st a) (ho : o.op = .call { callee := .builtin .append, args := #[x, y], argTypes := #[ty, ty] }) (hd : o.dst = some d) (hf : st.fresh d = true) (hn : d < st.n)
    (he : selem P ty = some e) {z : Value} (hz : tzero P e = some z) (hzs : z.cells.size = tsz P e) (hp : 0 < tsz P e) (t : Nat) (xs : List SV)
    (hx : (xs = [] ∧ lk st.m t = none ∧ ∃ b, a.eval x = .slice b 0 0) ∨ (lk st.m t = some (.row (tsz P e) xs) ∧ RepV w E (lk st.m) (.own t) (a.eval x)))
    {ys : List SV} (hy : aval st y = some Y) (hys : rowOf st Y = some ys) (hfit : ∀ u ∈ ys, u.fits (tsz P e) = true) (hb : (xs.length + ys.length) * (tby P e + 1) ≤ 140737488355328) :
    ∃ v w' E', (execOp a.eval o).run P w = .ok (.value v) w' ∧ Inv keep w' E' { st with t := up st.t d (.own d), m := up (rm st.m t) d (.row (tsz P e) (xs ++ ys)) } (a.put o.dst v) ∧ Evo keep w E w' E' := by
  obtain ⟨hu, hi⟩ := selem_eq he
  obtain ⟨i, hi⟩ := Option.isSome_iff_exists.1 hi
  have hz' : i.zero = some z := by simpa [tzero, hi] using hz
  have hsz : i.size = tsz P e := by simp [tsz, Program.cellsOf, hi]
  have hby : i.bytes = tby P e := by simp [tby, Program.bytesOf, hi]
  obtain ⟨us, hru, hus, hfirst, hlen⟩ := src_first (P := P) hI hys hfit (aval_rep hI hy)
  have hyl := hru.len
  rw [Nat.mul_add, Nat.mul_one] at hb
  have fin : ∀ (v : Value) (w' : World) (x : Option (Nat × Nat × Nat)), Inv keep w' (E.set d x) { st with m := up (rm st.m t) d (.row (tsz P e) (xs ++ ys)) } a → (match x with | none => ∃ b, v = .slice b 0 0 | some (g, c, _) => v = .slice (some ⟨g, 0, none⟩) (xs ++ ys).length c) →
      Inv keep w' (E.set d x) { st with t := up st.t d (.own d), m := up (rm st.m t) d (.row (tsz P e) (xs ++ ys)) } (a.put o.dst v) := fun v w' x h hv => by
    rw [hd]
    exact h.put (dst := some d) (x := .own d) (by simpa [St.fitsDst] using hn) (by
      simp only [RepV]
      rw [lk_up, if_pos rfl]
      cases x with
      | none => simpa [Env.set] using hv
      | some p => simpa [Env.set] using hv)
  have newsOne : ∀ u ∈ flat us, u.oneCell' = true := fun u hu => by
    simp only [flat, List.mem_flatMap] at hu
    obtain ⟨v, hv, hu⟩ := hu
    exact (hus v hv).2 u (by simpa using hu)
  have newsLen : (flat us).length = ys.length * i.size := by unfold flat; rw [flat_len us (fun u hu => (hus u hu).1), ← hyl, hsz]
  -- nothing that was
  have empty : ∀ b : Option Addr, a.eval x = .slice b 0 0 → xs = [] → ∃ v w' E', (execOp a.eval o).run P w = .ok (.value v) w' ∧ Inv keep w' E' { st with t := up st.t d (.own d), m := up (rm st.m t) d (.row (tsz P e) (xs ++ ys)) } (a.put o.dst v) ∧ Evo keep w E w' E' := by
    intro b hb0 hx0
    subst hx0
    by_cases hm : ys.length = 0
    · have hy0 : ys = [] := List.eq_nil_of_length_eq_zero hm
      subst hy0
      have hus0 : us = [] := List.eq_nil_of_length_eq_zero (by simpa using hyl.symm)
      subst hus0
      have hr := run_append_none (P := P) (w := w) (t := ty) (ty := o.type) (b := b) (c := 0) hu hi hlen (by rw [hsz]; exact hfirst w rfl)
      refine ⟨_, w, E.set d none, run_builtin_append ho (by rw [hb0]; exact hr), fin _ _ none ?_ ⟨b, rfl⟩, Evo.re hI (t := t) ⟨rfl, rfl, rfl⟩ (Nat.le_refl _) (fun _ _ _ => rfl) rfl (Env.set_pin (St.fresh_pin hf))⟩
      exact hI.re hf (x := none) (Nat.le_refl _) (fun _ _ _ => rfl) (fun g c s h => by cases h) ⟨hp, .inl ⟨by simp [Env.set], rfl⟩⟩
    · have hr := run_append_grows (P := P) (w := w) (t := ty) (ty := o.type) (b := b) (sLen := 0) (sCap := 0) (olds := []) (news := flat us) hu hi hz' hlen (by
          cases b with
          | none => exact run_firstCells_none _ _ _ _ _
          | some ad => exact run_firstCells_some w.drew i.size 0 ad 0 0 [] (by simp) (fun j v hv => by simp at hv)) (by rw [hsz]; exact hfirst w.drew rfl) (by omega) (by simp only [List.length_nil] at hb; omega) (by
          rw [hby]; exact growslice_fits (by omega) (by simp only [List.length_nil, Nat.zero_add] at hb ⊢; omega))
      simp only [Nat.zero_add] at hr
      have hge := grownCap_ge w ys.length 0 e
      have hle := grownCap_le_maxLen w ys.length 0 e (by simp only [maxLen, List.length_nil] at hb ⊢; omega)
      refine ⟨_, w.drew.alloc (.cells (([] : List Value).toArray ++ (flat us).toArray ++ Builtin.zeroCells z.cells (grownCap w ys.length 0 e - ys.length)) e), E.set d (some (w.heap.size, grownCap w ys.length 0 e, tsz P e)), run_builtin_append ho (by rw [hb0]; exact hr), fin _ _ (some (w.heap.size, grownCap w ys.length 0 e, tsz P e)) ?_ (by simp), Evo.re hI (t := t) ⟨rfl, rfl, rfl⟩ (by simp) (fun i hi _ => Go.heap_alloc_old w.drew _ hi) rfl (Env.set_pin (St.fresh_pin hf))⟩
      refine hI.re hf (x := some (w.heap.size, grownCap w ys.length 0 e, tsz P e)) (by simp) (fun i hi _ => Go.heap_alloc_old w.drew _ hi) (fun g c s h => by simp at h; obtain ⟨rfl, _, _⟩ := h; exact .inl ⟨by omega, by simp⟩) ?_
      have hok : ∀ b, E.ok b → (E.set d (some (w.heap.size, grownCap w ys.length 0 e, tsz P e))).ok b ∧ (w.drew.alloc (.cells (([] : List Value).toArray ++ (flat us).toArray ++ Builtin.zeroCells z.cells (grownCap w ys.length 0 e - ys.length)) e)).heap[b]? = w.heap[b]? := fun b hb => ⟨hb, Go.heap_alloc_old w.drew _ (hI.okl b hb)⟩
      exact grown_row (g := w.heap.size) (cap := grownCap w ys.length 0 e) (e := e) (vs := []) (n := grownCap w ys.length 0 e - ys.length) hp (by simp [Env.set]) (Go.heap_alloc_new w.drew _) (by rw [size_zeroCells, hzs]) (by simp; omega) (fun h => by simp at h; simp [h] at hm) hle RepL.nil (hru.keep hok) (fun u hu => by cases hu) hus
  rcases hx with ⟨h1, h2, b, h3⟩ | ⟨hm, hrx⟩
  · exact empty b h3 h1
  · obtain ⟨h0, hmm⟩ := hI.mm t _ hm
    simp only [RepV, hm] at hrx
    rcases hmm with ⟨h1, hx0⟩ | ⟨g, c, e', cur, vs, h1, h2, h3, h4, h5, h6, h7, h8⟩
    · rw [h1] at hrx
      obtain ⟨b, hb0⟩ := hrx
      exact empty b hb0 hx0
    rw [h1] at hrx
    dsimp only at hrx
    have hvs : ∀ u ∈ vs, u.cells.size = tsz P e ∧ ∀ y ∈ u.cells, y.oneCell' = true := fun u hu => by
      obtain ⟨j, hj⟩ := List.getElem?_of_mem hu
      exact ⟨(h8 j u hj).1, (h8 j u hj).2.1⟩
    have hxl := h7.len
    have oldLen : (flat vs).length = xs.length * i.size := by unfold flat; rw [flat_len vs (fun u hu => (hvs u hu).1), ← hxl, hsz]
    have hcur : cur.toList.take (xs.length * tsz P e) = flat vs := by
      refine List.ext_getElem? fun j => ?_
      rw [List.getElem?_take]
      by_cases hj : j < xs.length * tsz P e
      · rw [if_pos hj]
        have hdj : j = (j / tsz P e) * tsz P e + j % tsz P e := by rw [Nat.mul_comm]; exact (Nat.div_add_mod j _).symm
        have hq : j / tsz P e < vs.length := by rw [Nat.div_lt_iff_lt_mul hp, ← hxl]; exact hj
        obtain ⟨k1, k2, k3⟩ := h8 _ _ (List.getElem?_eq_getElem hq)
        have hlt : j % tsz P e < vs[j / tsz P e].cells.size := by rw [k1]; exact Nat.mod_lt j hp
        have a1 := k3 _ _ (Array.getElem?_eq_getElem hlt)
        have a2 := flat_get vs (fun u hu => (hvs u hu).1) _ _ (List.getElem?_eq_getElem hq) _ _ (Array.getElem?_eq_getElem hlt)
        rw [← hdj] at a1 a2
        rw [Array.getElem?_toList, a1]
        exact a2.symm
      · rw [if_neg hj, List.getElem?_eq_none (by rw [oldLen, hsz]; omega)]
    by_cases hroom : xs.length + ys.length ≤ c
    · have hcap : (xs.length + ys.length) * tsz P e ≤ c * tsz P e := Nat.mul_le_mul_right _ hroom
      rw [Nat.add_mul] at hcap
      have hr := run_append_fits (P := P) (w := w) (t := ty) (ty := o.type) (sLen := xs.length) (sCap := c) (news := flat us) hu hi h2 hlen (by rw [hsz]; exact hfirst w rfl) newsLen newsOne hroom (by rw [newsLen, hsz, h6]; exact hcap)
      have hheap := setRow_heap w g cur (setAt cur.toList (xs.length * i.size) (flat us)).toArray e' _ h2
      have hhold : ∀ j, j < w.heap.size → (∀ o c s, lk st.m t = some o → E.at_ t = some (j, c, s) → False) → (w.setRow g (setAt cur.toList (xs.length * i.size) (flat us)).toArray).heap[j]? = w.heap[j]? := fun j hj hne => setRow_other w g j _ (fun h9 => hne _ c _ hm (h9 ▸ h1))
      refine ⟨_, w.setRow g (setAt cur.toList (xs.length * i.size) (flat us)).toArray, E.set d (some (g, c, tsz P e)), run_builtin_append ho (by rw [hrx]; exact hr), fin _ _ (some (g, c, tsz P e)) ?_ (by simp), Evo.re hI (t := t) ⟨rfl, rfl, rfl⟩ (by simp) hhold rfl (Env.set_pin (St.fresh_pin hf))⟩
      refine hI.re hf (x := some (g, c, tsz P e)) (by simp) hhold (fun g' c' s' h => by simp at h; obtain ⟨rfl, rfl, rfl⟩ := h; exact .inr ⟨_, c, _, hm, h1⟩) ?_
      have hown := hI.own t _ g c _ hm h1
      have hok : ∀ b, E.ok b → (E.set d (some (g, c, tsz P e))).ok b ∧ (w.setRow g (setAt cur.toList (xs.length * i.size) (flat us)).toArray).heap[b]? = w.heap[b]? := fun b hb => ⟨hb, setRow_other w g b _ (fun h9 => hown.2.1 (h9 ▸ hb))⟩
      have hcs : (setAt cur.toList (xs.length * i.size) (flat us)).toArray = (flat vs).toArray ++ (flat us).toArray ++ (cur.toList.drop (xs.length * i.size + (flat us).length)).toArray := by
        apply Array.ext'
        simp [setAt, hsz, hcur]
      refine grown_row (g := g) (cap := c) (e := e') (vs := vs) (n := c - (xs.length + ys.length)) hp (by simp [Env.set]) (by rw [← hcs]; exact hheap) ?_ (by omega) (fun h9 => h3 (by simpa using (List.append_eq_nil_iff.1 h9).1)) h5 (h7.keep hok) (hru.keep hok) hvs hus
      rw [List.size_toArray, List.length_drop, Array.length_toList, newsLen, hsz, h6, Nat.sub_mul, Nat.add_mul]
    · have hr := run_append_grows (P := P) (w := w) (t := ty) (ty := o.type) (b := some ⟨g, 0, none⟩) (sLen := xs.length) (sCap := c) (olds := flat vs) (news := flat us) hu hi hz' hlen (run_firstCells_some w.drew i.size xs.length ⟨g, 0, none⟩ xs.length c (flat vs) oldLen (fun j v hv => by
          rw [add_lit, Nat.zero_add]
          show w.cell? _ = _
          rw [cell_of_row w g _ cur e' (0, 0) h2, ← Array.getElem?_toList]
          rw [← hcur, List.getElem?_take] at hv
          split at hv
          · exact hv
          · cases hv)) (by rw [hsz]; exact hfirst w.drew rfl) (by omega) (by omega) (by rw [hby]; exact growslice_fits (by omega) (by omega))
      have hge := grownCap_ge w (xs.length + ys.length) c e
      have hle := grownCap_le_maxLen w (xs.length + ys.length) c e (by simp only [maxLen]; omega)
      refine ⟨_, w.drew.alloc (.cells ((flat vs).toArray ++ (flat us).toArray ++ Builtin.zeroCells z.cells (grownCap w (xs.length + ys.length) c e - (xs.length + ys.length))) e), E.set d (some (w.heap.size, grownCap w (xs.length + ys.length) c e, tsz P e)), run_builtin_append ho (by rw [hrx]; exact hr), fin _ _ (some (w.heap.size, grownCap w (xs.length + ys.length) c e, tsz P e)) ?_ (by simp), Evo.re hI (t := t) ⟨rfl, rfl, rfl⟩ (by simp) (fun i hi _ => Go.heap_alloc_old w.drew _ hi) rfl (Env.set_pin (St.fresh_pin hf))⟩
      refine hI.re hf (x := some (w.heap.size, grownCap w (xs.length + ys.length) c e, tsz P e)) (by simp) (fun i hi _ => Go.heap_alloc_old w.drew _ hi) (fun g c s h => by simp at h; obtain ⟨rfl, _, _⟩ := h; exact .inl ⟨by omega, by simp⟩) ?_
      have hok : ∀ b, E.ok b → (E.set d (some (w.heap.size, grownCap w (xs.length + ys.length) c e, tsz P e))).ok b ∧ (w.drew.alloc (.cells ((flat vs).toArray ++ (flat us).toArray ++ Builtin.zeroCells z.cells (grownCap w (xs.length + ys.length) c e - (xs.length + ys.length))) e)).heap[b]? = w.heap[b]? := fun b hb => ⟨hb, Go.heap_alloc_old w.drew _ (hI.okl b hb)⟩
      exact grown_row (g := w.heap.size) (cap := grownCap w (xs.length + ys.length) c e) (e := e) (vs := vs) (n := grownCap w (xs.length + ys.length) c e - (xs.length + ys.length)) hp (by simp [Env.set]) (Go.heap_alloc_new w.drew _) (by rw [size_zeroCells, hzs]) (by omega) (fun h => by obtain ⟨ha, hb'⟩ := List.append_eq_nil_iff.1 h; subst ha; subst hb'; simp at hroom) hle (h7.keep hok) (hru.keep hok) hvs hus

theorem does_append_own (ho : o.op = .call { callee := .builtin .append, args := #[x, y], argTypes := #[ty, ty] }) (hd : o.dst = some d) (hf : st.fresh d = true) (hn : d < st.n) (he : selem P ty = some e) {z : Value} (hz : tzero P e = some z) (hzs : z.cells.size = tsz P e) (hp : 0 < tsz P e)
    {t : Nat} {xs ys : List SV} (hx : aval st x = some (.own t)) (hm : lk st.m t = some (.row (tsz P e) xs)) (hy : aval st y = some Y) (hys : rowOf st Y = some ys) (hfit : ∀ u ∈ ys, u.fits (tsz P e) = true) (hb : (xs.length + ys.length) * (tby P e + 1) ≤ 140737488355328) :
    Does P o st { st with t := up st.t d (.own d), m := up (rm st.m t) d (.row (tsz P e) (xs ++ ys)) } := by
  intro keep w E a hI
  obtain ⟨v, w', E', h1, h2, h3⟩ := append_core hI ho hd hf hn he hz hzs hp t xs (.inr ⟨hm, aval_rep hI hx⟩) hy hys hfit hb
  exact ⟨v, w', E', .inl h1, h2, h3⟩
theorem does_append_nil (ho : o.op = .call { callee := .builtin .append, args := #[x, y], argTypes := #[ty, ty] }) (hd : o.dst = some d) (hf : st.fresh d = true) (hn : d < st.n) (he : selem P ty = some e) {z : Value} (hz : tzero P e = some z) (hzs : z.cells.size = tsz P e) (hp : 0 < tsz P e)
    {ys : List SV} (hx : aval st x = some .nil) (hy : aval st y = some Y) (hys : rowOf st Y = some ys) (hfit : ∀ u ∈ ys, u.fits (tsz P e) = true) (hb : ys.length * (tby P e + 1) ≤ 140737488355328) :
    Does P o st { st with t := up st.t d (.own d), m := up st.m d (.row (tsz P e) ys) } := by
  intro keep w E a hI
  have hl : lk st.m d = none := by simp only [St.fresh, Bool.and_eq_true, Option.isNone_iff_eq_none] at hf; exact hf.2.2
  obtain ⟨v, w', E', h1, h2, h3⟩ := append_core hI ho hd hf hn he hz hzs hp d [] (.inl ⟨rfl, hl, none, by have := aval_rep hI hx; simpa only [RepV] using this⟩) hy hys hfit (by simpa using hb)
  rw [rm_none hl] at h2
  exact ⟨v, w', E', .inl h1, h2, h3⟩
end
end Go.Proofs.Ytimllhflecippaa.Ab
end

section
namespace Go.Proofs.Ytimllhflecippaa.Ab
open Go.RowKit
set_option linter.unusedVariables false
set_option linter.unusedSimpArgs false
section
variable {P : Program} {o : Oper} {st : St} {d : Nat} {e ty tr : TypeId} {x y : Operand} {X Y : AV}

theorem does_len {xs : List SV} (ho : o.op = .call { callee := .builtin .len, args := #[x], argTypes := #[ty] }) (hx : aval st x = some X) (he : selem P ty = some e) (hxs : rowOf st X = some xs) (hd : st.fitsDst o.dst = true) :
    Does P o st (st.put o.dst (.sv (.val (.int .i64 xs.length)))) := by
  refine Does.puts hd fun keep w E a hI => ⟨_, ?_, RepV.val_mk _⟩
  obtain ⟨b, c, hv, _⟩ := src_rep hI hxs (aval_rep hI hx)
  obtain ⟨hu, hi⟩ := selem_eq he
  unfold execOp
  rw [ho]
  simp [resolve, invoke, builtin, hv, Builtin.len_, run_underlying hu, goInt]
theorem does_len_str {s : ByteArray} (ho : o.op = .call { callee := .builtin .len, args := #[x], argTypes := #[ty] }) (hx : aval st x = some (.sv (.val (.string s)))) (hu : P.underlying ty = some .string) (hd : st.fitsDst o.dst = true) :
    Does P o st (st.put o.dst (.sv (.val (.int .i64 s.size)))) := by
  refine Does.puts hd fun keep w E a hI => ⟨_, ?_, RepV.val_mk _⟩
  have hv := (aval_rep hI hx).val
  unfold execOp
  rw [ho]
  simp [resolve, invoke, builtin, hv, Builtin.len_, run_underlying hu, goInt]

theorem does_min {k : IntKind} {m n : Int} (ho : o.op = .call { callee := .builtin .min, args := #[x, y], argTypes := #[ty, tr] }) (hx : aval st x = some (.sv (.val (.int k m)))) (hy : aval st y = some (.sv (.val (.int k n)))) (hd : st.fitsDst o.dst = true) :
    Does P o st (st.put o.dst (.sv (.val (.int k (if n < m then n else m))))) := by
  refine Does.puts hd fun keep w E a hI => ⟨_, ?_, RepV.val_mk _⟩
  have hv := (aval_rep hI hx).val
  have hw := (aval_rep hI hy).val
  unfold execOp
  rw [ho]
  simp [resolve, invoke, builtin, hv, hw, Builtin.min_, Builtin.min2]
theorem does_max {k : IntKind} {m n : Int} (ho : o.op = .call { callee := .builtin .max, args := #[x, y], argTypes := #[ty, tr] }) (hx : aval st x = some (.sv (.val (.int k m)))) (hy : aval st y = some (.sv (.val (.int k n)))) (hd : st.fitsDst o.dst = true) :
    Does P o st (st.put o.dst (.sv (.val (.int k (if m < n then n else m))))) := by
  refine Does.puts hd fun keep w E a hI => ⟨_, ?_, RepV.val_mk _⟩
  have hv := (aval_rep hI hx).val
  have hw := (aval_rep hI hy).val
  unfold execOp
  rw [ho]
  simp [resolve, invoke, builtin, hv, hw, Builtin.max_, Builtin.max2]

/-- A bound of a slice: not told, or a number. -/
def bnd (st : St) (z : Int) : Option Operand → Option Int
  | none => some z
  | some y => match aval st y with
    | some (.sv (.val (.int _ n))) => some n
    | _ => none
theorem bnd_run {keep : Nat → Prop} {w : World} {E : Env} {a : Act} (hI : Inv keep w E st a) {z n : Int} {y : Option Operand} (h : bnd st z y = some n) : (y = none ∧ n = z) ∨ ∃ y' k, y = some y' ∧ a.eval y' = .int k n := by
  cases y with
  | none => simp only [bnd, Option.some.injEq] at h; exact .inl ⟨rfl, h.symm⟩
  | some y =>
    simp only [bnd] at h
    split at h
    · rename_i k m hy
      simp only [Option.some.injEq] at h; subst h
      exact .inr ⟨y, k, rfl, (aval_rep hI hy).val⟩
    · cases h

theorem does_slice {lo hi : Option Operand} {xs : List SV} {l h : Int} (ho : o.op = .slice ty x lo hi none) (hx : aval st x = some (.sv (.lst xs))) (he : selem P ty = some e) (hl : bnd st 0 lo = some l) (hh : bnd st xs.length hi = some h)
    (hb : 0 ≤ l ∧ l ≤ h ∧ h ≤ (xs.length : Int)) (hsz : ∀ z ∈ xs, z.fits (tsz P e) = true) (hd : st.fitsDst o.dst = true) : Does P o st (st.put o.dst (.sv (.lst ((xs.take h.toNat).drop l.toNat)))) := by
  refine Does.puts hd fun keep w E a hI => ?_
  have rx := aval_rep hI hx
  simp only [RepV, RepS] at rx
  obtain ⟨b, c, hv, hc, hor⟩ := rx
  obtain ⟨hu, hi'⟩ := selem_eq he
  have hlen : ((xs.take h.toNat).drop l.toNat).length = h.toNat - l.toNat := by rw [List.length_drop, List.length_take]; omega
  have hrun : (execOp a.eval o).run P w = .ok (.value (.slice (if c = l.toNat then b else b.map (·.add (l.toNat * tsz P e))) (h.toNat - l.toNat) (c - l.toNat))) w := by
    unfold execOp
    rw [ho]
    have b1 : 0 ≤ h := by omega
    have b2 : h ≤ (c : Int) := by omega
    rcases bnd_run hI hl with ⟨rfl, rfl⟩ | ⟨y1, k1, rfl, e1⟩ <;> rcases bnd_run hI hh with ⟨rfl, rfl⟩ | ⟨y2, k2, rfl, e2⟩
    · simp [hv, Instr.sliceAt, Instr.slice, run_underlying hu, Instr.sliceBounds, run_sizeOf hi']
    · simp [hv, e2, Instr.sliceAt, Instr.slice, run_underlying hu, Instr.sliceBounds, Instr.sliceBound, asIntOf, run_sizeOf hi', b1, b2]
    · have b3 : l ≤ (xs.length : Int) := by omega
      simp [hv, e1, Instr.sliceAt, Instr.slice, run_underlying hu, Instr.sliceBounds, Instr.sliceBound, asIntOf, run_sizeOf hi', hb.1, b3]
    · have b3 : l ≤ (h.toNat : Int) := by omega
      simp [hv, e1, e2, Instr.sliceAt, Instr.slice, run_underlying hu, Instr.sliceBounds, Instr.sliceBound, asIntOf, run_sizeOf hi', b1, b2, hb.1, b3]
      omega
  refine ⟨_, hrun, ?_⟩
  simp only [RepV, RepS]
  refine ⟨_, c - l.toNat, by rw [hlen], by rw [hlen]; omega, ?_⟩
  rcases hor with rfl | ⟨ad, sz, vs, rfl, hok, hr, hat⟩
  · left; simp
  · by_cases hemp : (xs.take h.toNat).drop l.toNat = []
    · exact .inl hemp
    · refine .inr ⟨ad.add (l.toNat * tsz P e), sz, (vs.take h.toNat).drop l.toNat, ?_, by rw [add_block]; exact hok, (hr.take _).drop _, fun i u hu' => ?_⟩
      · have hpos : 0 < h.toNat - l.toNat := by
          rw [← hlen]; exact List.length_pos_iff.2 hemp
        rw [if_neg (by omega)]
        rfl
      · rw [List.getElem?_drop, List.getElem?_take] at hu'
        split at hu'
        case isFalse => cases hu'
        obtain ⟨k1, k2⟩ := hat _ u hu'
        have hsz' : sz = tsz P e := by rw [← k1]; exact (fits_repL hsz hr u (List.mem_of_getElem? hu')).1
        refine ⟨k1, ?_⟩
        rw [Go.Deep.add_add, ← hsz', ← Nat.add_mul]
        exact k2

/-- 'xs[:0:0]': nothing, and no room. -/
theorem does_slice0 {lo : Option Operand} {xs : List SV} {k1 k2 : IntKind} {sz : Nat} (ho : o.op = .slice ty x lo (some (.const (.int k1 0))) (some (.const (.int k2 0)))) (hx : aval st x = some X) (hxs : rowOf st X = some xs) (he : selem P ty = some e) (hl : bnd st 0 lo = some 0)
    (hd : o.dst = some d) (hf : st.fresh d = true) (hn : d < st.n) (hsz : 0 < tsz P e) : Does P o st { st with t := up st.t d (.own d), m := up st.m d (.row (tsz P e) []) } := by
  intro keep w E a hI
  obtain ⟨b, c, hv, hc, _⟩ := src_rep hI hxs (aval_rep hI hx)
  obtain ⟨hu, hi'⟩ := selem_eq he
  have hlk : lk st.m d = none := by simp only [St.fresh, Bool.and_eq_true, Option.isNone_iff_eq_none] at hf; exact hf.2.2
  have hrun : (execOp a.eval o).run P w = .ok (.value (.slice b 0 0)) w := by
    unfold execOp
    rw [ho]
    have c1 : a.eval (.const (.int k1 0)) = .int k1 0 := rfl
    have c2 : a.eval (.const (.int k2 0)) = .int k2 0 := rfl
    rcases bnd_run hI hl with ⟨rfl, _⟩ | ⟨y1, k3, rfl, e1⟩
    · simp [hv, c1, c2, Instr.sliceAt, Instr.slice, run_underlying hu, Instr.sliceBounds, Instr.sliceBound, asIntOf, run_sizeOf hi']
    · simp [hv, c1, c2, e1, Instr.sliceAt, Instr.slice, run_underlying hu, Instr.sliceBounds, Instr.sliceBound, asIntOf, run_sizeOf hi']
  refine ⟨_, w, E.set d none, .inl hrun, ?_, Evo.re hI (t := d) ⟨rfl, rfl, rfl⟩ (Nat.le_refl _) (fun _ _ _ => rfl) rfl (Env.set_pin (St.fresh_pin hf))⟩
  have h1 := hI.re hf (t := d) (o := .row (tsz P e) []) (x := none) (w' := w) (Nat.le_refl _) (fun _ _ _ => rfl) (fun g c s h => by cases h) ⟨hsz, .inl ⟨by simp [Env.set], rfl⟩⟩
  rw [rm_none hlk] at h1
  rw [hd]
  exact h1.put (dst := some d) (x := .own d) (by simpa [St.fitsDst] using hn) (by
    simp only [RepV]
    rw [lk_up, if_pos rfl]
    simp [Env.set])

theorem does_slice_str {lo hi : Option Operand} {s : ByteArray} {l h : Int} (ho : o.op = .slice ty x lo hi none) (hx : aval st x = some (.sv (.val (.string s)))) (hu : P.underlying ty = some .string) (hl : bnd st 0 lo = some l) (hh : bnd st s.size hi = some h)
    (hb : 0 ≤ l ∧ l ≤ h ∧ h ≤ (s.size : Int)) (hd : st.fitsDst o.dst = true) : Does P o st (st.put o.dst (.sv (.val (.string (s.extract l.toNat h.toNat))))) := by
  refine Does.puts hd fun keep w E a hI => ⟨_, ?_, RepV.val_mk _⟩
  have hv := (aval_rep hI hx).val
  unfold execOp
  rw [ho]
  have b1 : 0 ≤ h := by omega
  rcases bnd_run hI hl with ⟨rfl, rfl⟩ | ⟨y1, k1, rfl, e1⟩ <;> rcases bnd_run hI hh with ⟨rfl, rfl⟩ | ⟨y2, k2, rfl, e2⟩
  · simp [hv, Instr.sliceAt, Instr.slice, run_underlying hu, Instr.sliceBounds]
  · simp [hv, e2, Instr.sliceAt, Instr.slice, run_underlying hu, Instr.sliceBounds, Instr.sliceBound, asIntOf, b1, hb.2.2]
  · have b3 : l ≤ (s.size : Int) := by omega
    simp [hv, e1, Instr.sliceAt, Instr.slice, run_underlying hu, Instr.sliceBounds, Instr.sliceBound, asIntOf, hb.1, b3]
  · have b3 : l ≤ (h.toNat : Int) := by omega
    simp [hv, e1, e2, Instr.sliceAt, Instr.slice, run_underlying hu, Instr.sliceBounds, Instr.sliceBound, asIntOf, b1, hb.1, hb.2.2, b3]
    omega
end

mutual
def AV.frz (t : Nat) (o : Obj') : AV → AV
  | .own s => if s = t then (match o with | .row _ xs => .sv (.lst xs) | _ => .sv .any) else .own s
  | .elt s i off => if s = t then (match o with | .row _ xs => (match xs[i]? with | some x => .sv (.ref x off) | none => .sv .any) | _ => .sv .any) else .elt s i off
  | .box s off => if s = t then (match o with | .box cs => (match AV.svs cs with | some xs => .sv (.ref (.agg xs) off) | none => .sv .any) | _ => .sv .any) else .box s off
  | .sv x => .sv x
  | .nil => .nil
  | .tup xs => .tup (AV.frzL t o xs)
  | .agg xs => .agg (AV.frzL t o xs)
  | .sl s n => if s = t then (match o with | .box cs => (match AV.svs cs with | some xs => if n = xs.length ∧ xs.all SV.one = true then .sv (.lst xs) else .sv .any | none => .sv .any) | _ => .sv .any) else .sl s n
  | .fnv f xs => .fnv f (AV.frzL t o xs)
def AV.frzL (t : Nat) (o : Obj') : List AV → List AV
  | [] => []
  | x :: xs => AV.frz t o x :: AV.frzL t o xs
end
def Obj'.frz (t : Nat) (o : Obj') : Obj' → Obj'
  | .row sz xs => .row sz xs
  | .box cs => .box (AV.frzL t o cs)
def mapv {α β : Type} (f : α → β) : List (Nat × α) → List (Nat × β)
  | [] => []
  | (k, x) :: l => (k, f x) :: mapv f l
theorem lk_mapv {α β : Type} (f : α → β) : ∀ (l : List (Nat × α)) (d : Nat), lk (mapv f l) d = (lk l d).map f
  | [], d => rfl
  | (k, x) :: l, d => by
    simp only [mapv, lk]
    split
    · rfl
    · exact lk_mapv f l d
def St.freeze (st : St) (t : Nat) : St :=
  match lk st.m t with
  | some o => { st with t := mapv (AV.frz t o) st.t, m := mapv (Obj'.frz t o) (rm st.m t) }
  | none => st

section
variable {kp : Nat → Prop} {w : World} {E : Env} {st : St} {a : Act} {t : Nat} {o : Obj'}
def Env.share (E : Env) (t : Nat) : Env := { E with ok := fun b => E.ok b ∨ ∃ c s, E.at_ t = some (b, c, s) }

theorem frz_rep (hmm : MemRep w E (lk st.m) t o) (ho : lk st.m t = some o) (m' : Mem) (hm' : ∀ s, s ≠ t → (m' s = none ∧ lk st.m s = none) ∨ (∃ k xs, lk st.m s = some (.row k xs) ∧ m' s = some (.row k xs)) ∨ (∃ cs ds, lk st.m s = some (.box cs) ∧ m' s = some (.box ds))) :
    ∀ {x : AV} {v : Value}, RepV w E (lk st.m) x v → RepV w (E.share t) m' (x.frz t o) v := by
  have hok : ∀ b, E.ok b → (E.share t).ok b ∧ w.heap[b]? = w.heap[b]? := fun b hb => ⟨.inl hb, rfl⟩
  have row : ∀ {sz xs}, o = .row sz xs → ∀ {v}, RepV w E (lk st.m) (.own t) v → RepS w (E.share t).ok (.lst xs) v := by
    intro sz xs ho' v hv
    subst ho'
    simp only [RepV, ho] at hv
    obtain ⟨h0, h⟩ := hmm
    simp only [RepS]
    rcases h with ⟨h1, rfl⟩ | ⟨g, c, e, cur, vs, h1, h2, h3, h4, h5, h6, h7, h8⟩
    · rw [h1] at hv; obtain ⟨b, rfl⟩ := hv; exact ⟨b, 0, rfl, Nat.le_refl _, .inl rfl⟩
    · rw [h1] at hv
      refine ⟨_, c, hv, h4, .inr ⟨⟨g, 0, none⟩, sz, vs, rfl, .inr ⟨c, sz, h1⟩, h7.keep hok, fun i u hu => ⟨(h8 i u hu).1, fun j y hy => ?_⟩⟩⟩
      rw [Go.Deep.add_add, add_lit, cell_of_row w g _ cur e (0, 0) h2, Nat.zero_add]
      exact (h8 i u hu).2.2 j y hy
  intro x
  refine AV.rec (motive_1 := fun x => ∀ {v : Value}, RepV w E (lk st.m) x v → RepV w (E.share t) m' (x.frz t o) v) (motive_2 := fun l => ∀ {vs : List Value}, RepVL w E (lk st.m) l vs → RepVL w (E.share t) m' (AV.frzL t o l) vs)
    ?_ ?_ ?_ ?_ ?_ ?_ ?_ ?_ ?_ ?_ ?_ x
  · intro x v h; simp only [RepV, AV.frz] at h ⊢; exact h.keep hok
  · intro v h; simpa only [RepV, AV.frz] using h
  · intro s v h
    simp only [AV.frz]
    by_cases hs : s = t
    · subst hs
      rw [if_pos rfl]
      cases o with
      | row sz xs => simp only [RepV]; exact row rfl h
      | box cs => simp only [RepV, RepS]
    · rw [if_neg hs]
      simp only [RepV] at h ⊢
      rcases hm' s hs with ⟨h1, h2⟩ | ⟨k, xs, h1, h2⟩ | ⟨cs, ds, h1, h2⟩
      · rw [h1]; trivial
      · rw [h1] at h; rw [h2]; exact h
      · rw [h2]; trivial
  · intro s off v h
    simp only [AV.frz]
    by_cases hs : s = t
    · subst hs
      rw [if_pos rfl]
      cases o with
      | row sz xs => simp only [RepV, RepS]
      | box cs =>
        simp only
        split
        · rename_i xs hxs
          simp only [RepV, ho] at h
          obtain ⟨g, c, sz, hg, rfl⟩ := h
          obtain ⟨g', c', sz', e, cur, hg', hh, hr⟩ := hmm
          rw [hg] at hg'
          simp only [Option.some.injEq, Prod.mk.injEq] at hg'
          obtain ⟨rfl, rfl, rfl⟩ := hg'
          simp only [RepV, RepS]
          refine ⟨⟨g, 0, none⟩, .agg cur, by rw [add_lit, Nat.zero_add], .inr ⟨c, sz, hg⟩, ⟨cur, rfl, (RepVL.svs hxs hr).keep hok⟩, fun j y hy => ?_⟩
          rw [add_lit, cell_of_row w g _ cur e (0, 0) hh, Nat.zero_add]
          exact hy
        · simp only [RepV, RepS]
    · rw [if_neg hs]
      simp only [RepV] at h ⊢
      rcases hm' s hs with ⟨h1, h2⟩ | ⟨k, xs, h1, h2⟩ | ⟨cs, ds, h1, h2⟩
      · rw [h1]; trivial
      · rw [h2]; trivial
      · rw [h1] at h; rw [h2]; exact h
  · intro s i off v h
    simp only [AV.frz]
    by_cases hs : s = t
    · subst hs
      rw [if_pos rfl]
      cases o with
      | row sz xs =>
        simp only
        split
        · rename_i x hx
          simp only [RepV, ho] at h
          obtain ⟨g, c, sz', hg, rfl, hi, hof⟩ := h
          obtain ⟨g', c', e, cur, u, hpos, hg', hh, hcs, hlen, hr, hus, h1, hcur⟩ := row_elem hmm hx
          rw [hg] at hg'
          simp only [Option.some.injEq, Prod.mk.injEq] at hg'
          obtain ⟨rfl, rfl, rfl⟩ := hg'
          simp only [RepV, RepS]
          refine ⟨⟨g, i * sz', none⟩, u, by rw [add_lit], .inr ⟨c, _, hg⟩, hr.keep hok, fun j y hy => ?_⟩
          rw [add_lit, cell_of_row w g _ cur e (0, 0) hh]
          exact hcur j y hy
        · simp only [RepV, RepS]
      | box cs => simp only [RepV, RepS]
    · rw [if_neg hs]
      simp only [RepV] at h ⊢
      rcases hm' s hs with ⟨h1, h2⟩ | ⟨k, xs, h1, h2⟩ | ⟨cs, ds, h1, h2⟩
      · rw [h1]; trivial
      · rw [h1] at h; rw [h2]; exact h
      · rw [h2]; trivial
  · intro xs ih v h
    simp only [RepV, AV.frz] at h ⊢
    obtain ⟨cs, rfl, h⟩ := h
    exact ⟨cs, rfl, ih h⟩
  · intro f xs ih v h
    simp only [RepV, AV.frz] at h ⊢
    obtain ⟨cs, rfl, h⟩ := h
    exact ⟨cs, rfl, ih h⟩
  · intro xs ih v h
    simp only [RepV, AV.frz] at h ⊢
    obtain ⟨cs, rfl, h⟩ := h
    exact ⟨cs, rfl, ih h⟩
  · intro s n v h
    simp only [AV.frz]
    by_cases hs : s = t
    · subst hs
      rw [if_pos rfl]
      cases o with
      | row sz xs => simp only [RepV, RepS]
      | box cs =>
        simp only
        split
        · rename_i xs hxs
          split
          · rename_i hn
            obtain ⟨hn, hone⟩ := hn
            subst hn
            simp only [RepV, ho] at h
            obtain ⟨g, c, sz, hg, rfl⟩ := h
            obtain ⟨g', c', sz', e, cur, hg', hh, hr⟩ := hmm
            rw [hg] at hg'
            simp only [Option.some.injEq, Prod.mk.injEq] at hg'
            obtain ⟨rfl, rfl, rfl⟩ := hg'
            simp only [RepV, RepS]
            have hrs := RepVL.svs hxs hr
            refine ⟨_, _, rfl, Nat.le_refl _, .inr ⟨⟨g, 0, none⟩, 1, cur.toList, rfl, .inr ⟨c, sz, hg⟩, hrs.keep hok, fun i u hu => ?_⟩⟩
            have hu1 : u.oneCell' = true := RepL.oneCell hone hrs u (List.mem_of_getElem? hu)
            refine ⟨by rw [cells_one hu1]; rfl, fun j y hy => ?_⟩
            rw [cells_one hu1] at hy
            have hj : j = 0 := by
              have := (Array.getElem?_eq_some_iff.1 hy).1
              simp at this; omega
            subst hj
            simp only [List.getElem?_toArray, List.getElem?_cons_zero, Option.some.injEq] at hy
            subst hy
            rw [Go.Deep.add_add, add_lit, cell_of_row w g _ cur e (0, 0) hh, Nat.zero_add, Nat.mul_one, Nat.add_zero]
            simpa using hu
          · simp only [RepV, RepS]
        · simp only [RepV, RepS]
    · rw [if_neg hs]
      simp only [RepV] at h ⊢
      rcases hm' s hs with ⟨h1, h2⟩ | ⟨k, xs, h1, h2⟩ | ⟨cs, ds, h1, h2⟩
      · rw [h1]; trivial
      · rw [h2]; trivial
      · rw [h1] at h; rw [h2]; exact h
  · intro vs h; simpa only [RepVL, AV.frzL] using h
  · intro x xs ihx ihs vs h
    simp only [RepVL, AV.frzL] at h ⊢
    obtain ⟨v, vs', rfl, hx, hs⟩ := h
    exact ⟨v, vs', rfl, ihx hx, ihs hs⟩
theorem frzL_rep (hmm : MemRep w E (lk st.m) t o) (ho : lk st.m t = some o) (m' : Mem) (hm' : ∀ s, s ≠ t → (m' s = none ∧ lk st.m s = none) ∨ (∃ k xs, lk st.m s = some (.row k xs) ∧ m' s = some (.row k xs)) ∨ (∃ cs ds, lk st.m s = some (.box cs) ∧ m' s = some (.box ds))) :
    ∀ {l : List AV} {vs : List Value}, RepVL w E (lk st.m) l vs → RepVL w (E.share t) m' (AV.frzL t o l) vs
  | [], vs, h => by simpa only [RepVL, AV.frzL] using h
  | x :: xs, vs, h => by
    simp only [RepVL, AV.frzL] at h ⊢
    obtain ⟨v, vs', rfl, hx, hs⟩ := h
    exact ⟨v, vs', rfl, frz_rep hmm ho m' hm' hx, frzL_rep hmm ho m' hm' hs⟩

theorem freeze_inv (hI : Inv kp w E st a) (t : Nat) : ∃ E', Inv kp w E' (st.freeze t) a ∧ Evo kp w E w E' := by
  unfold St.freeze
  split
  case h_2 => exact ⟨E, hI, Evo.refl _ _ _⟩
  rename_i o ho
  have hmm := hI.mm t o ho
  have hok : ∀ b, E.ok b → (E.share t).ok b ∧ w.heap[b]? = w.heap[b]? := fun b hb => ⟨.inl hb, rfl⟩
  have hlk : ∀ s, lk (mapv (Obj'.frz t o) (rm st.m t)) s = if t = s then none else (lk st.m s).map (Obj'.frz t o) := fun s => by
    rw [lk_mapv, lk_rm]; split <;> rfl
  have hm' : ∀ s, s ≠ t → (lk (mapv (Obj'.frz t o) (rm st.m t)) s = none ∧ lk st.m s = none) ∨ (∃ k xs, lk st.m s = some (.row k xs) ∧ lk (mapv (Obj'.frz t o) (rm st.m t)) s = some (.row k xs)) ∨ (∃ cs ds, lk st.m s = some (.box cs) ∧ lk (mapv (Obj'.frz t o) (rm st.m t)) s = some (.box ds)) := by
    intro s hs
    rw [hlk, if_neg (Ne.symm hs)]
    cases lk st.m s with
    | none => exact .inl ⟨rfl, rfl⟩
    | some o' => cases o' with
      | row k xs => exact .inr (.inl ⟨k, xs, rfl, rfl⟩)
      | box cs => exact .inr (.inr ⟨cs, _, rfl, rfl⟩)
  have hsome : ∀ s o1, lk (mapv (Obj'.frz t o) (rm st.m t)) s = some o1 → s ≠ t ∧ ∃ o2, lk st.m s = some o2 ∧ o1 = Obj'.frz t o o2 := fun s o1 hs => by
    rw [hlk] at hs
    split at hs
    · cases hs
    · obtain ⟨o2, h1, h2⟩ := Option.map_eq_some_iff.1 hs
      exact ⟨by omega, o2, h1, h2.symm⟩
  refine ⟨E.share t, ⟨hI.df, hI.sz, fun d x hx => ?_, fun s o1 hs => ?_, fun s s' o1 o2 g c1 z1 c2 z2 h1 h2 e1 e2 => ?_, fun s o1 g c z hs hg => ?_, ⟨fun b hb => ?_, hI.okl.gw.keep hok⟩, hI.kpl⟩, ⟨rfl, rfl, rfl, Nat.le_refl _, fun _ _ => rfl, hok, fun b hb => ?_, fun _ _ => rfl, fun _ => Nat.le_refl _⟩⟩
  · rw [lk_mapv] at hx
    obtain ⟨x0, hx0, rfl⟩ := Option.map_eq_some_iff.1 hx
    obtain ⟨v, hv, hr⟩ := hI.tm d x0 hx0
    exact ⟨v, hv, frz_rep hmm ho _ hm' hr⟩
  · obtain ⟨hne, o2, h1, rfl⟩ := hsome s o1 hs
    have h2 := hI.mm s o2 h1
    cases o2 with
    | row sz xs =>
      obtain ⟨h0, h⟩ := h2
      refine ⟨h0, ?_⟩
      rcases h with h | ⟨g, c, e, cur, vs, k1, k2, k3, k4, k5, k6, k7, k8⟩
      · exact .inl h
      · exact .inr ⟨g, c, e, cur, vs, k1, k2, k3, k4, k5, k6, k7.keep hok, k8⟩
    | box cs =>
      obtain ⟨g, c, sz, e, cur, k1, k2, k3⟩ := h2
      exact ⟨g, c, sz, e, cur, k1, k2, frzL_rep hmm ho _ hm' k3⟩
  · obtain ⟨_, p1, h1, _⟩ := hsome s o1 h1
    obtain ⟨_, p2, h2, _⟩ := hsome s' o2 h2
    exact hI.inj s s' p1 p2 g c1 z1 c2 z2 h1 h2 e1 e2
  · obtain ⟨hne, p1, h1, _⟩ := hsome s o1 hs
    have h2 := hI.own s p1 g c z h1 hg
    refine ⟨h2.1, ?_, h2.2.2⟩
    rintro (h3 | ⟨c', s', h3⟩)
    · exact h2.2.1 h3
    · exact hne (hI.inj s t p1 o g c z c' s' h1 ho hg h3)
  · rcases hb with hb | ⟨c, s, hb⟩
    · exact hI.okl b hb
    · exact (hI.own t o b c s ho hb).1
  · rcases hb with hb | ⟨c, s, hb⟩
    · exact .inl hb
    · exact .inr (hI.own t o b c s ho hb).2.2

/-- A nil slice is a row of nothing. -/
theorem thaw_inv (hI : Inv kp w E st a) {d t sz : Nat} (hd : lk st.t d = some .nil) (hf : st.fresh t = true) (hs : 0 < sz) : Inv kp w (E.set t none) { st with t := up st.t d (.own t), m := up st.m t (.row sz []) } a ∧ Evo kp w E w (E.set t none) := by
  have hlk : lk st.m t = none := by simp only [St.fresh, Bool.and_eq_true, Option.isNone_iff_eq_none] at hf; exact hf.2.2
  have h1 := hI.re hf (t := t) (o := .row sz []) (x := none) (w' := w) (Nat.le_refl _) (fun _ _ _ => rfl) (fun g c s h => by cases h) ⟨hs, .inl ⟨by simp [Env.set], rfl⟩⟩
  rw [rm_none hlk] at h1
  refine ⟨⟨h1.df, h1.sz, fun e x hx => ?_, h1.mm, h1.inj, h1.own, h1.okl, h1.kpl⟩, Evo.re hI (t := t) ⟨rfl, rfl, rfl⟩ (Nat.le_refl _) (fun _ _ _ => rfl) rfl (Env.set_pin (St.fresh_pin hf))⟩
  simp only at hx
  rw [lk_up] at hx
  split at hx
  · rename_i he; subst he
    simp only [Option.some.injEq] at hx; subst hx
    obtain ⟨v, hv, hr⟩ := hI.tm d .nil hd
    refine ⟨v, hv, ?_⟩
    simp only [RepV] at hr ⊢
    rw [lk_up, if_pos rfl]
    simp only [Env.set, if_true]
    exact ⟨none, hr⟩
  · exact h1.tm e x hx
end
end Go.Proofs.Ytimllhflecippaa.Ab
end

section
namespace Go.Proofs.Ytimllhflecippaa.Ab
open Go.RowKit
set_option linter.unusedVariables false
set_option linter.unusedSimpArgs false

/-- What a piece of code comes to, from a state. -/
def Tr (P : Program) (c : Code) (Q : Exit → St → Prop) (st : St) : Prop :=
  ∀ (keep : Nat → Prop) (w : World) (E : Env) (a : Act), Inv keep w E st a → c.wp P (fun e a' w' => ∃ st' E', Inv keep w' E' st' a' ∧ Evo keep w E w' E' ∧ Q e st') a w
/-- What the rest of a region comes to. -/
def Rn (P : Program) (ops : Array Oper) (l : List Oper) (K : St → Prop) (st : St) : Prop :=
  ∀ (keep : Nat → Prop) (w : World) (E : Env) (a : Act), Inv keep w E st a → wpList P ops (fun e a' w' => ∃ st' E', Inv keep w' E' st' a' ∧ Evo keep w E w' E' ∧ e = .normal ∧ K st') l a w

def thenQ (K : St → Prop) (Q : Exit → St → Prop) : Exit → St → Prop
  | .normal, st => K st
  | e, st => Q e st
def blockQ (id : Nat) (Q : Exit → St → Prop) : Exit → St → Prop
  | .exit i, st => if i = id then Q .normal st else Q (.exit i) st
  | e, st => Q e st

section
variable {P : Program} {Q Q' : Exit → St → Prop} {K K' : St → Prop} {st : St} {ops : Array Oper} {l : List Oper} {o : Oper}

theorem Tr.mono {c : Code} (h : Tr P c Q st) (hq : ∀ e st, Q e st → Q' e st) : Tr P c Q' st := fun keep w E a hI =>
  Code.wp_mono (fun e a' w' ⟨st', E', h1, h2, h3⟩ => ⟨st', E', h1, h2, hq _ _ h3⟩) (h keep w E a hI)
theorem Tr.skip (h : Q .normal st) : Tr P .skip Q st := fun keep w E a hI => wp_skip ⟨st, E, hI, Evo.refl _ _ _, h⟩
theorem Tr.ret (h : Q .ret st) : Tr P .ret Q st := fun keep w E a hI => wp_ret ⟨st, E, hI, Evo.refl _ _ _, h⟩
theorem Tr.exit {id : Nat} (h : Q (.exit id) st) : Tr P (.exit id) Q st := fun keep w E a hI => wp_exit ⟨st, E, hI, Evo.refl _ _ _, h⟩
theorem Tr.label {id : Nat} (h : Q .normal st) : Tr P (.label id) Q st := fun keep w E a hI => wp_label ⟨st, E, hI, Evo.refl _ _ _, h⟩
theorem Tr.seq {x y : Code} (h : Tr P x (thenQ (Tr P y Q) Q) st) : Tr P (.seq x y) Q st := fun keep w E a hI => by
  refine wp_seq (Code.wp_mono ?_ (h keep w E a hI))
  rintro e a' w' ⟨st', E', h1, h2, h3⟩
  cases e with
  | normal =>
    refine Code.wp_mono ?_ (h3 keep w' E' a' h1)
    rintro e a2 w2 ⟨st2, E2, k1, k2, k3⟩
    exact ⟨st2, E2, k1, h2.trans k2, k3⟩
  | _ => exact ⟨st', E', h1, h2, h3⟩
theorem Tr.block {id : Nat} {c : Code} (h : Tr P c (blockQ id Q) st) : Tr P (.block id c) Q st := fun keep w E a hI => by
  refine wp_block (Code.wp_mono ?_ (h keep w E a hI))
  rintro e a' w' ⟨st', E', h1, h2, h3⟩
  cases e with
  | exit i =>
    simp only [blockQ, Exit.inBlock] at h3 ⊢
    split at h3
    · rw [if_pos ‹_›]; exact ⟨st', E', h1, h2, h3⟩
    · rw [if_neg ‹_›]; exact ⟨st', E', h1, h2, h3⟩
  | _ => exact ⟨st', E', h1, h2, h3⟩
/-- No jump leaves it. -/
def scopeQ (Q : Exit → St → Prop) (e : Exit) (st : St) : Prop :=
  match e with
  | .goto _ => False
  | e => Q e st
theorem Tr.scope {c : Code} (h : Tr P c (scopeQ Q) st) : Tr P (.scope c) Q st := fun keep w E a hI => by
  refine wp_scope_straight (Code.wp_mono ?_ (h keep w E a hI))
  rintro e a' w' ⟨st', E', h1, h2, h3⟩
  cases e with
  | goto l => exact h3.elim
  | _ => exact ⟨st', E', h1, h2, h3⟩
theorem Tr.cond {c : Operand} {x y : Code} {b : Bool} (hc : aval st c = some (.sv (.val (.bool b)))) (ht : b = true → Tr P x Q st) (hf : b = false → Tr P y Q st) : Tr P (.cond c x y) Q st := fun keep w E a hI => by
  have hv := (aval_rep hI hc).val
  cases b with
  | true => exact wp_cond (t := true) hv (ht rfl keep w E a hI)
  | false => exact wp_cond (t := false) hv (hf rfl keep w E a hI)
theorem Rn.nil (h : K st) : Rn P ops [] K st := fun keep w E a hI => ⟨st, E, hI, Evo.refl _ _ _, rfl, h⟩
theorem Rn.freeze (t : Nat) (h : Rn P ops l K (st.freeze t)) : Rn P ops l K st := fun keep w E a hI => by
  obtain ⟨E', h1, h2⟩ := freeze_inv hI t
  refine wpList_mono' ?_ (h keep w E' a h1)
  rintro e a' w' ⟨st', E2, k1, k2, k3⟩
  exact ⟨st', E2, k1, h2.trans k2, k3⟩
  where wpList_mono' {Q Q' : Exit → Act → World → Prop} (hq : ∀ e a w, Q e a w → Q' e a w) : ∀ {l : List Oper} {a : Act} {w : World}, wpList P ops Q l a w → wpList P ops Q' l a w
  | [], a, w, h => hq _ _ _ h
  | o :: l, a, w, h => by
    unfold wpList at h ⊢
    split at h
    · rename_i hw
      rw [if_pos hw]
      rcases h with h | ⟨h1, a0, w0, h2⟩
      · left
        have key : ∀ {r : Result Next}, o.upon P a (wpList P ops Q l) Q r → o.upon P a (wpList P ops Q' l) Q' r := by
          intro r hr
          unfold Oper.upon at hr ⊢
          split at hr
          · exact wpList_mono' hq hr
          · exact wpList_mono' hq hr
          · exact wpList_mono' hq hr
          · refine Calls.mono hr ?_
            intro e w' he
            cases e with
            | returned v => exact wpList_mono' hq he
            | panicked c => exact hq _ _ _ he
            | outgrown => obtain ⟨a1, w1, h1⟩ := he; exact ⟨a1, w1, hq _ _ _ h1⟩
          · refine Rows.mono hr ?_
            intro v w' he
            exact wpList_mono' hq he
          · exact hq _ _ _ hr
          · exact hr.elim
        exact key h
      · exact .inr ⟨h1, a0, w0, hq _ _ _ h2⟩
    · rename_i hw
      rw [if_neg hw]
      exact wpList_mono' hq h
theorem Tr.region {id : Nat} {l : List Oper} (h : Rn P l.toArray l (fun st' => Q .normal st') st) : Tr P (.region id l.toArray false) Q st := fun keep w E a hI => by
  refine wp_region_lit (Rn.freeze.wpList_mono' ?_ (h keep w E a hI))
  rintro e a' w' ⟨st', E', h1, h2, rfl, h3⟩
  exact ⟨st', E', h1, h2, h3⟩

/-- Is an operation wanted? -/
def grd (ops : Array Oper) (st : St) (o : Oper) : Option Bool :=
  match o.guard with
  | none => some true
  | some (j, want) => match (ops[j]?).bind (·.dst) with
    | some d => match lk st.t d with
      | some (.sv (.val (.bool b))) => some (b == want)
      | some (.sv (.val _)) => some false
      | _ => none
    | none => none
theorem grd_run {keep : Nat → Prop} {w : World} {E : Env} {a : Act} {b : Bool} (hI : Inv keep w E st a) (h : grd ops st o = some b) : Region.wanted o (yielded ops a.tmps) = b := by
  unfold grd at h
  unfold Region.wanted
  split at h
  · rename_i hg; rw [hg]; simpa using h
  · rename_i j want hg
    rw [hg]
    dsimp only
    split at h
    case h_2 => cases h
    rename_i d hd
    split at h
    · rename_i b' hl
      obtain ⟨v, hv, hr⟩ := hI.tm d _ hl
      have := hr.val; subst this
      simp only [Option.some.injEq] at h; subst h
      simp [yielded, hd, hv]
    · rename_i u hnb hl
      obtain ⟨v, hv, hr⟩ := hI.tm d _ hl
      have := hr.val; subst this
      simp only [Option.some.injEq] at h; subst h
      have : yielded ops a.tmps j = none := by
        unfold yielded
        rw [hd]
        simp only [Option.bind_some, hv]
        split
        · rename_i b hb; exact (hnb b (by simpa using hb)).elim
        · rfl
      rw [this]
      rfl
    · cases h

theorem Does.wp {P : Program} {o : Oper} {st st' : St} (h : Does P o st st') {keep : Nat → Prop} {w : World} {E : Env} {a : Act} (hI : Inv keep w E st a) {N : Act → World → Prop} {Q : Exit → Act → World → Prop}
    (hN : ∀ a' w' E', Inv keep w' E' st' a' → Evo keep w E w' E' → N a' w') : o.wp P a w N Q := by
  obtain ⟨v, w', E', h1, h2, h3⟩ := h keep w E a hI
  unfold Oper.wp
  rcases h1 with h1 | ⟨h1, rfl⟩
  · rw [h1]; exact hN _ _ _ h2 h3
  · rw [h1]; exact hN _ _ _ h2 h3
theorem Rn.step {st' : St} (hg : grd ops st o = some true) (hd : Does P o st st') (h : Rn P ops l K st') : Rn P ops (o :: l) K st := fun keep w E a hI => by
  unfold wpList
  rw [if_pos (grd_run hI hg)]
  refine .inl (hd.wp hI fun a' w' E' h1 h2 => ?_)
  refine Rn.freeze.wpList_mono' ?_ (h keep w' E' a' h1)
  rintro e a2 w2 ⟨st2, E2, k1, k2, k3⟩
  exact ⟨st2, E2, k1, h2.trans k2, k3⟩
theorem Rn.skip (hg : grd ops st o = some false) (hd : st.fitsDst o.dst = true) (h : Rn P ops l K (st.put o.dst (.sv (.val undef)))) : Rn P ops (o :: l) K st := fun keep w E a hI => by
  unfold wpList
  rw [if_neg (by rw [grd_run hI hg]; simp)]
  exact h keep w E _ (hI.put hd (RepV.val_mk _))
end

/-- So much of a state is known at least. -/
def St.le (st st' : St) : Prop := st.n = st'.n ∧ (∀ d x, lk st'.t d = some x → lk st.t d = some x) ∧ ∀ t o, lk st'.m t = some o → lk st.m t = some o
theorem Inv.le {keep : Nat → Prop} {w : World} {E : Env} {st st' : St} {a : Act} (h : Inv keep w E st a) (hl : st.le st') : Inv keep w E st' a := by
  obtain ⟨h1, h2, h3⟩ := hl
  have hp : ∀ s, Pass E E (lk st.m) (lk st'.m) s := fun s => by
    unfold Pass
    cases hs : lk st'.m s with
    | none => exact .inl rfl
    | some o =>
      refine .inr ⟨rfl, ?_⟩
      rw [h3 s o hs]
      cases o with
      | row k xs => exact .inl ⟨k, xs, xs, rfl, rfl, rfl⟩
      | box cs => exact .inr ⟨cs, cs, rfl, rfl⟩
  have hk : ∀ b, E.ok b → E.ok b ∧ w.heap[b]? = w.heap[b]? := fun b hb => ⟨hb, rfl⟩
  exact ⟨h.df, h.sz.trans h1, fun d x hx => let ⟨v, k1, k2⟩ := h.tm d x (h2 d x hx); ⟨v, k1, k2.keep hk (fun t _ => hp t)⟩,
    fun t o ho => (h.mm t o (h3 t o ho)).keep hk rfl (fun _ _ _ _ => rfl) (fun s _ _ _ => hp s),
    fun t t' o o' g c s c' s' k1 k2 => h.inj t t' o o' g c s c' s' (h3 _ _ k1) (h3 _ _ k2), fun t o g c s k1 => h.own t o g c s (h3 _ _ k1), h.okl, h.kpl⟩

mutual
/-- A tag is named anew. -/
def AV.ren (t t' : Nat) : AV → AV
  | .own s => .own (if s = t then t' else s)
  | .box s off => .box (if s = t then t' else s) off
  | .elt s i off => .elt (if s = t then t' else s) i off
  | .sv x => .sv x
  | .nil => .nil
  | .tup xs => .tup (AV.renL t t' xs)
  | .agg xs => .agg (AV.renL t t' xs)
  | .sl s n => .sl (if s = t then t' else s) n
  | .fnv g xs => .fnv g (AV.renL t t' xs)
def AV.renL (t t' : Nat) : List AV → List AV
  | [] => []
  | x :: xs => AV.ren t t' x :: AV.renL t t' xs
end
def Obj'.ren (t t' : Nat) : Obj' → Obj'
  | .row sz xs => .row sz xs
  | .box cs => .box (AV.renL t t' cs)
def St.rename (st : St) (t t' : Nat) : St :=
  match lk st.m t with
  | some o => { st with t := mapv (AV.ren t t') st.t, m := up (mapv (Obj'.ren t t') (rm st.m t)) t' (Obj'.ren t t' o) }
  | none => st
section
variable {kp : Nat → Prop} {w : World} {E : Env} {st : St} {a : Act} {t t' : Nat} {o : Obj'}
theorem ren_rep (m m' : Mem) (hne : t ≠ t') (h1 : ∀ s, s ≠ t → s ≠ t' → (m' s = none ∧ m s = none) ∨ (∃ k xs, m s = some (.row k xs) ∧ m' s = some (.row k xs)) ∨ (∃ cs ds, m s = some (.box cs) ∧ m' s = some (.box ds)))
    (h2 : (∃ k xs, m t = some (.row k xs) ∧ m' t' = some (.row k xs)) ∨ (∃ cs ds, m t = some (.box cs) ∧ m' t' = some (.box ds))) :
    ∀ {x : AV} {v : Value}, x.holds t' = false → RepV w E m x v → RepV w (E.set t' (E.at_ t)) m' (x.ren t t') v := by
  have hE : ∀ s, s ≠ t' → (E.set t' (E.at_ t)).at_ s = E.at_ s := fun s hs => by simp [Env.set, hs]
  have hE' : (E.set t' (E.at_ t)).at_ t' = E.at_ t := by simp [Env.set]
  intro x
  refine AV.rec (motive_1 := fun x => ∀ {v : Value}, x.holds t' = false → RepV w E m x v → RepV w (E.set t' (E.at_ t)) m' (x.ren t t') v) (motive_2 := fun l => ∀ {vs : List Value}, AV.holdsL t' l = false → RepVL w E m l vs → RepVL w (E.set t' (E.at_ t)) m' (AV.renL t t' l) vs)
    ?_ ?_ ?_ ?_ ?_ ?_ ?_ ?_ ?_ ?_ ?_ x
  · intro x v _ h; simp only [RepV, AV.ren] at h ⊢; exact h
  · intro v _ h; simpa only [RepV, AV.ren] using h
  · intro s v hh h
    simp only [AV.ren]
    simp only [AV.holds, beq_eq_false_iff_ne, ne_eq] at hh
    by_cases hs : s = t
    · subst hs
      rw [if_pos rfl]
      simp only [RepV] at h ⊢
      rcases h2 with ⟨k, xs, e1, e2⟩ | ⟨cs, ds, e1, e2⟩
      · rw [e1] at h; rw [e2, hE']; exact h
      · rw [e2]; trivial
    · rw [if_neg hs]
      simp only [RepV] at h ⊢
      rcases h1 s hs hh with ⟨e1, e2⟩ | ⟨k, xs, e1, e2⟩ | ⟨cs, ds, e1, e2⟩
      · rw [e1]; trivial
      · rw [e1] at h; rw [e2, hE s hh]; exact h
      · rw [e2]; trivial
  · intro s off v hh h
    simp only [AV.ren]
    simp only [AV.holds, beq_eq_false_iff_ne, ne_eq] at hh
    by_cases hs : s = t
    · subst hs
      rw [if_pos rfl]
      simp only [RepV] at h ⊢
      rcases h2 with ⟨k, xs, e1, e2⟩ | ⟨cs, ds, e1, e2⟩
      · rw [e2]; trivial
      · rw [e1] at h; rw [e2, hE']; exact h
    · rw [if_neg hs]
      simp only [RepV] at h ⊢
      rcases h1 s hs hh with ⟨e1, e2⟩ | ⟨k, xs, e1, e2⟩ | ⟨cs, ds, e1, e2⟩
      · rw [e1]; trivial
      · rw [e2]; trivial
      · rw [e1] at h; rw [e2, hE s hh]; exact h
  · intro s i off v hh h
    simp only [AV.ren]
    simp only [AV.holds, beq_eq_false_iff_ne, ne_eq] at hh
    by_cases hs : s = t
    · subst hs
      rw [if_pos rfl]
      simp only [RepV] at h ⊢
      rcases h2 with ⟨k, xs, e1, e2⟩ | ⟨cs, ds, e1, e2⟩
      · rw [e1] at h; rw [e2, hE']; exact h
      · rw [e2]; trivial
    · rw [if_neg hs]
      simp only [RepV] at h ⊢
      rcases h1 s hs hh with ⟨e1, e2⟩ | ⟨k, xs, e1, e2⟩ | ⟨cs, ds, e1, e2⟩
      · rw [e1]; trivial
      · rw [e1] at h; rw [e2, hE s hh]; exact h
      · rw [e2]; trivial
  · intro xs ih v hh h
    simp only [RepV, AV.ren] at h ⊢
    obtain ⟨cs, rfl, h⟩ := h
    exact ⟨cs, rfl, ih (by simpa only [AV.holds] using hh) h⟩
  · intro f xs ih v hh h
    simp only [RepV, AV.ren] at h ⊢
    obtain ⟨cs, rfl, h⟩ := h
    exact ⟨cs, rfl, ih (by simpa only [AV.holds] using hh) h⟩
  · intro xs ih v hh h
    simp only [RepV, AV.ren] at h ⊢
    obtain ⟨cs, rfl, h⟩ := h
    exact ⟨cs, rfl, ih (by simpa only [AV.holds] using hh) h⟩
  · intro s n v hh h
    simp only [AV.ren]
    simp only [AV.holds, beq_eq_false_iff_ne, ne_eq] at hh
    by_cases hs : s = t
    · subst hs
      rw [if_pos rfl]
      simp only [RepV] at h ⊢
      rcases h2 with ⟨k, xs, e1, e2⟩ | ⟨cs, ds, e1, e2⟩
      · rw [e2]; trivial
      · rw [e1] at h; rw [e2, hE']; exact h
    · rw [if_neg hs]
      simp only [RepV] at h ⊢
      rcases h1 s hs hh with ⟨e1, e2⟩ | ⟨k, xs, e1, e2⟩ | ⟨cs, ds, e1, e2⟩
      · rw [e1]; trivial
      · rw [e2]; trivial
      · rw [e1] at h; rw [e2, hE s hh]; exact h
  · intro vs _ h; simpa only [RepVL, AV.renL] using h
  · intro x xs ihx ihs vs hh h
    simp only [AV.holdsL, Bool.or_eq_false_iff] at hh
    simp only [RepVL, AV.renL] at h ⊢
    obtain ⟨v, vs', rfl, hx, hs⟩ := h
    exact ⟨v, vs', rfl, ihx hh.1 hx, ihs hh.2 hs⟩
theorem renL_rep (m m' : Mem) (hne : t ≠ t') (h1 : ∀ s, s ≠ t → s ≠ t' → (m' s = none ∧ m s = none) ∨ (∃ k xs, m s = some (.row k xs) ∧ m' s = some (.row k xs)) ∨ (∃ cs ds, m s = some (.box cs) ∧ m' s = some (.box ds)))
    (h2 : (∃ k xs, m t = some (.row k xs) ∧ m' t' = some (.row k xs)) ∨ (∃ cs ds, m t = some (.box cs) ∧ m' t' = some (.box ds))) :
    ∀ {l : List AV} {vs : List Value}, AV.holdsL t' l = false → RepVL w E m l vs → RepVL w (E.set t' (E.at_ t)) m' (AV.renL t t' l) vs
  | [], vs, _, h => by simpa only [RepVL, AV.renL] using h
  | x :: xs, vs, hh, h => by
    simp only [AV.holdsL, Bool.or_eq_false_iff] at hh
    simp only [RepVL, AV.renL] at h ⊢
    obtain ⟨v, vs', rfl, hx, hs⟩ := h
    exact ⟨v, vs', rfl, ren_rep m m' hne h1 h2 hh.1 hx, renL_rep m m' hne h1 h2 hh.2 hs⟩

theorem rename_inv (hI : Inv kp w E st a) (t t' : Nat) (hf : st.fresh t' = true) : ∃ E', Inv kp w E' (st.rename t t') a ∧ Evo kp w E w E' := by
  unfold St.rename
  split
  case h_2 => exact ⟨E, hI, Evo.refl _ _ _⟩
  rename_i o ho
  simp only [St.fresh, Bool.and_eq_true, Bool.not_eq_true', Option.isNone_iff_eq_none, decide_eq_true_eq] at hf
  obtain ⟨hpin, hh, hn⟩ := hf
  have hne : t ≠ t' := fun e => by rw [e, hn] at ho; cases ho
  have hlk : ∀ s, lk (up (mapv (Obj'.ren t t') (rm st.m t)) t' (Obj'.ren t t' o)) s = if t' = s then some (Obj'.ren t t' o) else if t = s then none else (lk st.m s).map (Obj'.ren t t') := fun s => by
    rw [lk_up, lk_mapv, lk_rm]
    split
    · rfl
    · split <;> rfl
  have h1 : ∀ s, s ≠ t → s ≠ t' → (lk (up (mapv (Obj'.ren t t') (rm st.m t)) t' (Obj'.ren t t' o)) s = none ∧ lk st.m s = none) ∨ (∃ k xs, lk st.m s = some (.row k xs) ∧ lk (up (mapv (Obj'.ren t t') (rm st.m t)) t' (Obj'.ren t t' o)) s = some (.row k xs)) ∨ (∃ cs ds, lk st.m s = some (.box cs) ∧ lk (up (mapv (Obj'.ren t t') (rm st.m t)) t' (Obj'.ren t t' o)) s = some (.box ds)) := by
    intro s hs hs'
    rw [hlk, if_neg (Ne.symm hs'), if_neg (Ne.symm hs)]
    cases lk st.m s with
    | none => exact .inl ⟨rfl, rfl⟩
    | some o' => cases o' with
      | row k xs => exact .inr (.inl ⟨k, xs, rfl, rfl⟩)
      | box cs => exact .inr (.inr ⟨cs, _, rfl, rfl⟩)
  have h2 : (∃ k xs, lk st.m t = some (.row k xs) ∧ lk (up (mapv (Obj'.ren t t') (rm st.m t)) t' (Obj'.ren t t' o)) t' = some (.row k xs)) ∨ (∃ cs ds, lk st.m t = some (.box cs) ∧ lk (up (mapv (Obj'.ren t t') (rm st.m t)) t' (Obj'.ren t t' o)) t' = some (.box ds)) := by
    rw [hlk, if_pos rfl, ho]
    cases o with
    | row k xs => exact .inl ⟨k, xs, rfl, rfl⟩
    | box cs => exact .inr ⟨cs, _, rfl, rfl⟩
  -- where each of the new memory's objects was
  have hsome : ∀ s o1, lk (up (mapv (Obj'.ren t t') (rm st.m t)) t' (Obj'.ren t t' o)) s = some o1 → ∃ s0 o2, lk st.m s0 = some o2 ∧ o1 = Obj'.ren t t' o2 ∧ (E.set t' (E.at_ t)).at_ s = E.at_ s0 ∧ ((s = t' ∧ s0 = t) ∨ (s ≠ t' ∧ s0 = s)) := by
    intro s o1 hs
    rw [hlk] at hs
    split at hs
    · rename_i e
      simp only [Option.some.injEq] at hs
      exact ⟨t, o, ho, hs.symm, by simp [Env.set, e], .inl ⟨e.symm, rfl⟩⟩
    · rename_i e
      split at hs
      · cases hs
      · obtain ⟨o2, k1, k2⟩ := Option.map_eq_some_iff.1 hs
        exact ⟨s, o2, k1, k2.symm, by simp [Env.set, Ne.symm e], .inr ⟨Ne.symm e, rfl⟩⟩
  refine ⟨E.set t' (E.at_ t), ⟨hI.df, hI.sz, fun d x hx => ?_, fun s o1 hs => ?_, fun s s' o1 o2 g c1 z1 c2 z2 k1 k2 e1 e2 => ?_, fun s o1 g c z hs hg => ?_, hI.okl, hI.kpl⟩, ⟨rfl, rfl, rfl, Nat.le_refl _, fun _ _ => rfl, fun b hb => ⟨hb, rfl⟩, fun b hb => .inl hb, Env.set_pin hpin, fun _ => Nat.le_refl _⟩⟩
  · rw [lk_mapv] at hx
    obtain ⟨x0, hx0, rfl⟩ := Option.map_eq_some_iff.1 hx
    obtain ⟨v, hv, hr⟩ := hI.tm d x0 hx0
    exact ⟨v, hv, ren_rep _ _ hne h1 h2 (held_t hh hx0) hr⟩
  · obtain ⟨s0, o2, k1, rfl, k3, _⟩ := hsome s o1 hs
    have k4 := hI.mm s0 o2 k1
    cases o2 with
    | row sz xs =>
      obtain ⟨h0, h⟩ := k4
      refine ⟨h0, ?_⟩
      rw [k3]
      exact h
    | box cs =>
      obtain ⟨g, c, sz, e, cur, q1, q2, q3⟩ := k4
      exact ⟨g, c, sz, e, cur, by rw [k3]; exact q1, q2, renL_rep _ _ hne h1 h2 (held_m hh k1) q3⟩
  · obtain ⟨s0, p1, q1, _, q3, q4⟩ := hsome s o1 k1
    obtain ⟨s1, p2, r1, _, r3, r4⟩ := hsome s' o2 k2
    rw [q3] at e1
    rw [r3] at e2
    have := hI.inj s0 s1 p1 p2 g c1 z1 c2 z2 q1 r1 e1 e2
    have n1 : s0 ≠ t' := fun e => by rw [e, hn] at q1; cases q1
    have n2 : s1 ≠ t' := fun e => by rw [e, hn] at r1; cases r1
    have n3 : s ≠ t := fun e => by rw [e, hlk, if_neg (Ne.symm hne), if_pos rfl] at k1; cases k1
    have n4 : s' ≠ t := fun e => by rw [e, hlk, if_neg (Ne.symm hne), if_pos rfl] at k2; cases k2
    omega
  · obtain ⟨s0, p1, q1, _, q3, _⟩ := hsome s o1 hs
    rw [q3] at hg
    exact hI.own s0 p1 g c z q1 hg
end

/-- What a state says, another one says too. -/
def Ent (st st' : St) : Prop := ∀ (keep : Nat → Prop) (w : World) (E : Env) (a : Act), Inv keep w E st a → ∃ E', Inv keep w E' st' a ∧ Evo keep w E w E'
theorem Ent.refl (st : St) : Ent st st := fun _ _ E _ h => ⟨E, h, Evo.refl _ _ _⟩
theorem Ent.trans {a b c : St} (h : Ent a b) (k : Ent b c) : Ent a c := fun kp w E x hI => by
  obtain ⟨E1, h1, h2⟩ := h kp w E x hI
  obtain ⟨E2, k1, k2⟩ := k kp w E1 x h1
  exact ⟨E2, k1, h2.trans k2⟩
theorem Ent.le {a b : St} (h : a.le b) : Ent a b := fun kp w E x hI => ⟨E, hI.le h, Evo.refl _ _ _⟩
theorem Ent.freeze {a b : St} (t : Nat) (h : Ent (a.freeze t) b) : Ent a b := fun kp w E x hI => by
  obtain ⟨E1, h1, h2⟩ := freeze_inv hI t
  obtain ⟨E2, k1, k2⟩ := h kp w E1 x h1
  exact ⟨E2, k1, h2.trans k2⟩
theorem Ent.rename {a b : St} (t t' : Nat) (hf : a.fresh t' = true) (h : Ent (a.rename t t') b) : Ent a b := fun kp w E x hI => by
  obtain ⟨E1, h1, h2⟩ := rename_inv hI t t' hf
  obtain ⟨E2, k1, k2⟩ := h kp w E1 x h1
  exact ⟨E2, k1, h2.trans k2⟩
theorem Ent.thaw {a b : St} (d t sz : Nat) (hd : lk a.t d = some .nil) (hf : a.fresh t = true) (hs : 0 < sz) (h : Ent { a with t := up a.t d (.own t), m := up a.m t (.row sz []) } b) : Ent a b := fun kp w E x hI => by
  obtain ⟨h1, h2⟩ := thaw_inv hI hd hf hs
  obtain ⟨E2, k1, k2⟩ := h kp w _ x h1
  exact ⟨E2, k1, h2.trans k2⟩
theorem wp_loop' {P : Program} {Q : Exit → Act → World → Prop} {c : Code} (I : Nat → Act → World → Prop)
    (round : ∀ n a w, I n a w → c.wp P (Exit.then (fun a' w' => ∃ m, m < n ∧ I m a' w') Q) a w) {n0 : Nat} {a : Act} {w : World} (h₀ : I n0 a w) : (Code.loop c).wp P Q a w := by
  intro b k cs
  have key : ∀ n a w, I n a w → ∃ e a' w', Q e a' w' ∧ Arrives P (lone (b.at a (.code c :: .inLoop c :: k)) cs w) b k cs e a' w' := by
    intro n
    induction n using Nat.strongRecOn with
    | _ n ih =>
      intro a w hI
      obtain ⟨e, a₁, w₁, hq, harr⟩ := round n a w hI b (.inLoop c :: k) cs
      cases e with
      | normal =>
        obtain ⟨m, hlt, hI₁⟩ := hq
        obtain ⟨e₂, a₂, w₂, hq₂, harr₂⟩ := ih m hlt a₁ w₁ hI₁
        exact ⟨e₂, a₂, w₂, hq₂, .of_steps (Steps.trans harr (.one step_inLoop)) harr₂⟩
      | exit id => exact ⟨_, a₁, w₁, hq, .pass (x := .inLoop c) rfl (fun _ _ => .inl (by simp)) harr⟩
      | goto l => exact ⟨_, a₁, w₁, hq, .pass (x := .inLoop c) rfl (fun _ _ => .inl (by simp)) harr⟩
      | ret => exact ⟨_, a₁, w₁, hq, .pass (x := .inLoop c) rfl (fun _ _ => .inl (by simp)) harr⟩
      | panic ch => exact ⟨_, a₁, w₁, hq, .pass (x := .inLoop c) rfl (fun _ _ => .inl (by simp)) harr⟩
      | outgrown => exact ⟨_, a₁, w₁, hq, .pass (x := .inLoop c) rfl (fun _ _ => .inl (by simp)) harr⟩
  obtain ⟨e, a', w', hq, harr⟩ := key _ a w h₀
  exact ⟨e, a', w', hq, .of_steps (.one step_loop) harr⟩

/-- A loop: states told by s, of which I holds; what is left grows less. -/
theorem Tr.loop {P : Program} {c : Code} {Q : Exit → St → Prop} {st : St} {σ : Type} (S : σ → St) (I : σ → Prop) (μ : σ → Nat) (s0 : σ) (h0 : I s0) (hst : Ent st (S s0))
    (round : ∀ s, I s → Tr P c (thenQ (fun st' => ∃ s', I s' ∧ μ s' < μ s ∧ Ent st' (S s')) Q) (S s)) : Tr P (.loop c) Q st := fun keep w E a hI => by
  obtain ⟨E0, k1, k2⟩ := hst keep w E a hI
  refine wp_loop' (fun n a' w' => ∃ s E', μ s = n ∧ I s ∧ Inv keep w' E' (S s) a' ∧ Evo keep w E w' E') ?_ ⟨s0, E0, rfl, h0, k1, k2⟩
  rintro n a1 w1 ⟨s, E1, rfl, hs, q1, q2⟩
  refine Code.wp_mono ?_ (round s hs keep w1 E1 a1 q1)
  rintro e a2 w2 ⟨st2, E2, r1, r2, r3⟩
  cases e with
  | normal =>
    obtain ⟨s', hs', hlt, hent⟩ := r3
    obtain ⟨E3, u1, u2⟩ := hent keep w2 E2 a2 r1
    exact ⟨μ s', hlt, s', E3, rfl, hs', u1, q2.trans (r2.trans u2)⟩
  | _ => exact ⟨st2, E2, r1, q2.trans r2, r3⟩
end Go.Proofs.Ytimllhflecippaa.Ab
end

section
namespace Go.Proofs.Ytimllhflecippaa.Ab
open Go.RowKit
set_option linter.unusedVariables false
set_option linter.unusedSimpArgs false

/-- One result. -/
inductive R1 where
  | sv (x : SV)
  | nil
  | own (sz : Nat) (xs : List SV)
def R1.av (t : Nat) : R1 → AV
  | .sv x => .sv x
  | .nil => .nil
  | .own _ _ => .own t
def R1.flat : R1 → Prop
  | .sv x => x.flat = true
  | .nil => True
  | .own _ xs => ∀ x ∈ xs, x.flat = true
/-- The memory of results, by tags f i, f (i + 1), .. -/
def impM (f : Nat → Nat) : Nat → List R1 → List (Nat × Obj') → List (Nat × Obj')
  | _, [], m => m
  | i, .own sz xs :: rs, m => impM f (i + 1) rs (up m (f i) (.row sz xs))
  | i, _ :: rs, m => impM f (i + 1) rs m
def impT (f : Nat → Nat) : Nat → List R1 → List AV
  | _, [] => []
  | i, r :: rs => r.av (f i) :: impT f (i + 1) rs
/-- Are the tags fresh? -/
def impF (st : St) (f : Nat → Nat) : Nat → List R1 → Bool
  | _, [] => true
  | i, .own _ _ :: rs => st.fresh (f i) && impF st f (i + 1) rs
  | i, _ :: rs => impF st f (i + 1) rs
theorem impM_lk {f : Nat → Nat} (hf : ∀ i j, f i = f j → i = j) : ∀ (rs : List R1) (i : Nat) (m : List (Nat × Obj')) (t : Nat), (∃ j sz xs, rs[j]? = some (.own sz xs) ∧ t = f (i + j) ∧ lk (impM f i rs m) t = some (.row sz xs)) ∨ ((∀ j sz xs, rs[j]? = some (.own sz xs) → t ≠ f (i + j)) ∧ lk (impM f i rs m) t = lk m t)
  | [], i, m, t => .inr ⟨fun j sz xs h => by simp at h, rfl⟩
  | r :: rs, i, m, t => by
    have skip : (∀ sz xs, r ≠ .own sz xs) → impM f i (r :: rs) m = impM f (i + 1) rs m → ((∃ j sz xs, (r :: rs)[j]? = some (.own sz xs) ∧ t = f (i + j) ∧ lk (impM f i (r :: rs) m) t = some (.row sz xs)) ∨ ((∀ j sz xs, (r :: rs)[j]? = some (.own sz xs) → t ≠ f (i + j)) ∧ lk (impM f i (r :: rs) m) t = lk m t)) := fun hr he => by
      rw [he]
      rcases impM_lk hf rs (i + 1) m t with ⟨j, sz, xs, h1, h2, h3⟩ | ⟨h1, h2⟩
      · exact Or.inl ⟨j + 1, sz, xs, by simpa using h1, by rw [h2]; congr 1; omega, h3⟩
      · refine Or.inr ⟨fun j sz xs h => ?_, h2⟩
        cases j with
        | zero => simp at h; exact (hr sz xs h).elim
        | succ j => have := h1 j sz xs (by simpa using h); rw [show i + (j + 1) = i + 1 + j by omega]; exact this
    cases r with
    | sv x => exact skip (fun _ _ h => by cases h) rfl
    | nil => exact skip (fun _ _ h => by cases h) rfl
    | own sz xs =>
      simp only [impM]
      rcases impM_lk hf rs (i + 1) (up m (f i) (.row sz xs)) t with ⟨j, sz', xs', h1, h2, h3⟩ | ⟨h1, h2⟩
      · exact .inl ⟨j + 1, sz', xs', by simpa using h1, by rw [h2]; congr 1; omega, h3⟩
      · by_cases ht : t = f i
        · refine .inl ⟨0, sz, xs, rfl, by simpa using ht, ?_⟩
          rw [h2, lk_up, if_pos ht.symm]
        · refine .inr ⟨fun j sz' xs' h => ?_, ?_⟩
          · cases j with
            | zero => simpa using ht
            | succ j => have := h1 j sz' xs' (by simpa using h); rw [show i + (j + 1) = i + 1 + j by omega]; exact this
          · rw [h2, lk_up, if_neg (Ne.symm ht)]
theorem impT_get {f : Nat → Nat} : ∀ (rs : List R1) (i j : Nat), (impT f i rs)[j]? = (rs[j]?).map (R1.av (f (i + j)))
  | [], i, j => by simp [impT]
  | r :: rs, i, 0 => by simp [impT]
  | r :: rs, i, j + 1 => by
    simp only [impT, List.getElem?_cons_succ]
    rw [impT_get rs (i + 1) j, show i + 1 + j = i + (j + 1) by omega]
theorem impT_len {f : Nat → Nat} : ∀ (rs : List R1) (i : Nat), (impT f i rs).length = rs.length
  | [], _ => rfl
  | r :: rs, i => by simp [impT, impT_len rs (i + 1)]
theorem impF_get {st : St} {f : Nat → Nat} : ∀ (rs : List R1) (i : Nat), impF st f i rs = true → ∀ j sz xs, rs[j]? = some (.own sz xs) → st.fresh (f (i + j)) = true
  | [], i, _, j, sz, xs, h => by simp at h
  | r :: rs, i, hF, 0, sz, xs, h => by
    simp at h; subst h
    simp only [impF, Bool.and_eq_true] at hF
    exact hF.1
  | r :: rs, i, hF, j + 1, sz, xs, h => by
    have hF' : impF st f (i + 1) rs = true := by cases r <;> simp_all [impF]
    rw [show i + (j + 1) = i + 1 + j by omega]
    exact impF_get rs (i + 1) hF' j sz xs (by simpa using h)

/-- What a function returns. -/
inductive RV where
  | one (r : R1)
  | many (rs : List R1)
def RV.comps : RV → List R1
  | .one r => [r]
  | .many rs => rs
def RV.val : RV → List Value → Value
  | .one _, vs => vs.headD undef
  | .many _, vs => .tuple vs.toArray
def RV.flat (r : RV) : Prop := ∀ c ∈ r.comps, c.flat

/-- The results as a state of their own. -/
def ent1 (f : Nat → Nat) : Nat → List R1 → List (Nat × AV)
  | _, [] => []
  | i, r :: rs => (i, r.av (f i)) :: ent1 f (i + 1) rs
def cst (rs : List R1) : St := { n := rs.length, t := ent1 id 0 rs, m := impM id 0 rs [] }
theorem ent1_get {f : Nat → Nat} : ∀ (rs : List R1) (i j : Nat), lk (ent1 f i rs) (i + j) = (rs[j]?).map (R1.av (f (i + j)))
  | [], i, j => by simp [ent1, lk]
  | r :: rs, i, 0 => by simp [ent1, lk]
  | r :: rs, i, j + 1 => by
    simp only [ent1, lk]
    rw [if_neg (by omega), show i + (j + 1) = i + 1 + j by omega, ent1_get rs (i + 1) j, List.getElem?_cons_succ]

/-- The contract of a function: from arguments that are shared it returns what R tells; nothing that was has turned. -/
def ACalls (P : Program) (g : FuncId) (args : List SV) (R : RV → Prop) : Prop :=
  ∃ g', (∀ (cargs : Array Value) (w : World), (callFunc g cargs).run P w = .ok (.enter g' cargs) w) ∧
    ∀ (w : World) (ok : Nat → Prop) (cargs : Array Value), Okl w ok → RepL w ok args cargs.toList →
      Calls P g' cargs w (fun e w' => ∃ (r : RV) (vs : List Value) (E1 : Env), R r ∧ e = .returned (r.val vs) ∧ Inv (· < w.heap.size) w' E1 (cst r.comps) ⟨vs.toArray, []⟩ ∧ Evo (· < w.heap.size) w ⟨ok, E1.at_⟩ w' E1)
theorem ACalls.mono {P : Program} {g : FuncId} {args : List SV} {R R' : RV → Prop} (h : ACalls P g args R) (hr : ∀ r, R r → R' r) : ACalls P g args R' := by
  obtain ⟨g', h1, h2⟩ := h
  refine ⟨g', h1, fun w ok cargs k1 k2 => (h2 w ok cargs k1 k2).mono ?_⟩
  rintro e w' ⟨r, vs, E1, q1, q2⟩
  exact ⟨r, vs, E1, hr _ q1, q2⟩

/-- The state behind a call. -/
def tagf (d : Nat) (i : Nat) : Nat := d + 1000 * i
theorem tagf_inj (d : Nat) : ∀ i j, tagf d i = tagf d j → i = j := fun i j h => by unfold tagf at h; omega
def RV.av (f : Nat → Nat) : RV → AV
  | .one r => r.av (f 0)
  | .many rs => .tup (impT f 0 rs)
def St.imp (st : St) (dst : Option Nat) (r : RV) : St :=
  match dst with
  | some d => { st with t := up st.t d (r.av (tagf d)), m := impM (tagf d) 0 r.comps st.m }
  | none => st
def St.impFresh (st : St) (dst : Option Nat) (r : RV) : Bool :=
  match dst with
  | some d => impF st (tagf d) 0 r.comps && decide (d < st.n)
  | none => true

section
variable {kp : Nat → Prop} {w w' : World} {E E1 : Env} {st : St} {a : Act} {ok : Nat → Prop}

theorem cst_mem (rs : List R1) (t : Nat) (o : Obj') (h : lk (cst rs).m t = some o) : ∃ sz xs, rs[t]? = some (.own sz xs) ∧ o = .row sz xs := by
  rcases impM_lk (f := id) (fun _ _ h => h) rs 0 [] t with ⟨j, sz, xs, h1, h2, h3⟩ | ⟨h1, h2⟩
  · simp only [id, Nat.zero_add] at h2
    subst h2
    rw [show lk (cst rs).m t = lk (impM id 0 rs []) t from rfl, h3] at h
    simp only [Option.some.injEq] at h
    exact ⟨sz, xs, h1, h.symm⟩
  · rw [show lk (cst rs).m t = lk (impM id 0 rs []) t from rfl, h2] at h
    simp [lk] at h

open Classical in
theorem Inv.import (hI : Inv kp w E st a) {r : RV} {vs : List Value} (h1 : Inv (· < w.heap.size) w' E1 (cst r.comps) ⟨vs.toArray, []⟩) (hev : Evo (· < w.heap.size) w ⟨ok, E1.at_⟩ w' E1) {dst : Option Nat} (hF : st.impFresh dst r = true)
    (hok : (∀ b, ok b → E.ok b) ∨ r.flat) : ∃ E2, Inv kp w' E2 (st.imp dst r) (a.put dst (r.val vs)) ∧ Evo kp w E w' E2 := by
  have hsz := hev.size
  have hkeep : ∀ b, b < w.heap.size → w'.heap[b]? = w.heap[b]? := hev.kp
  -- what is shared now
  let ok2 : Nat → Prop := fun b => E.ok b ∨ (E1.ok b ∧ w.heap.size ≤ b)
  have hevo : ∀ at2, (∀ t, 1000000 ≤ t → at2 t = E.at_ t) → Evo kp w E w' ⟨ok2, at2⟩ := fun at2 hat2 =>
    ⟨hev.os, hev.tape, hev.output, hsz, fun b hb => hkeep b (hI.kpl b hb), fun b hb => ⟨.inl hb, hkeep b (hI.okl b hb)⟩, fun b hb => hb.elim .inl fun ⟨_, h9⟩ => .inr fun hk => by have := hI.kpl b hk; omega, hat2, hev.drawn⟩
  have hokold : ∀ b, E.ok b → ok2 b ∧ w'.heap[b]? = w.heap[b]? := fun b hb => ⟨.inl hb, hkeep b (hI.okl b hb)⟩
  have hok2l : Okl w' ok2 := ⟨fun b hb => hb.elim (fun h => Nat.lt_of_lt_of_le (hI.okl b h) hsz) (fun h => h1.okl b h.1), hI.okl.gw.keep hokold⟩
  cases dst with
  | none =>
    refine ⟨⟨ok2, E.at_⟩, ?_, hevo _ (fun _ _ => rfl)⟩
    have hp : ∀ s, Pass E ⟨ok2, E.at_⟩ (lk st.m) (lk st.m) s := fun s => by
      rcases same_tags E (lk st.m) s with h | ⟨_, h⟩
      · exact .inl h
      · exact .inr ⟨rfl, h⟩
    refine ⟨hI.df, hI.sz, fun d x hx => ?_, fun t o ho => ?_, hI.inj, fun t o g c s h9 h10 => ?_, hok2l, fun b hb => Nat.lt_of_lt_of_le (hI.kpl b hb) hsz⟩
    · obtain ⟨v, k1, k2⟩ := hI.tm d x hx
      exact ⟨v, k1, k2.keep hokold (fun t _ => hp t)⟩
    · exact (hI.mm t o ho).keep hokold rfl (fun g c s hg => hkeep g (hI.own t o g c s ho hg).1) (fun s _ _ _ => hp s)
    · have := hI.own t o g c s h9 h10
      exact ⟨by omega, fun h => h.elim this.2.1 (fun h => by omega), this.2.2⟩
  | some d =>
    simp only [St.impFresh, Bool.and_eq_true, decide_eq_true_eq] at hF
    obtain ⟨hF, hdn⟩ := hF
    have hfr := impF_get r.comps 0 hF
    -- where the results' tags are
    let at2 : Nat → Option (Nat × Nat × Nat) := fun t => if ∃ j sz xs, r.comps[j]? = some (.own sz xs) ∧ t = tagf d (0 + j) then E1.at_ ((t - d) / 1000) else E.at_ t
    have hdiv : ∀ j, (tagf d (0 + j) - d) / 1000 = j := fun j => by unfold tagf; omega
    have at_new : ∀ j sz xs, r.comps[j]? = some (.own sz xs) → at2 (tagf d (0 + j)) = E1.at_ j := fun j sz xs h => by
      show (if _ then _ else _) = _
      rw [if_pos ⟨j, sz, xs, h, rfl⟩, hdiv]
    have hnone : ∀ j sz xs, r.comps[j]? = some (.own sz xs) → lk st.m (tagf d (0 + j)) = none ∧ st.held (tagf d (0 + j)) = false := fun j sz xs h => by
      have := hfr j sz xs h
      simp only [St.fresh, Bool.and_eq_true, Bool.not_eq_true', Option.isNone_iff_eq_none] at this
      exact ⟨this.2.2, this.2.1⟩
    have at_old : ∀ t, (∀ j sz xs, r.comps[j]? = some (.own sz xs) → t ≠ tagf d (0 + j)) → at2 t = E.at_ t := fun t h => by
      show (if _ then _ else _) = _
      rw [if_neg]
      rintro ⟨j, sz, xs, h9, h10⟩
      exact h j sz xs h9 h10
    have hlk := impM_lk (tagf_inj d) r.comps 0 st.m
    have hp : ∀ s, (∀ j sz xs, r.comps[j]? = some (.own sz xs) → s ≠ tagf d (0 + j)) → Pass E ⟨ok2, at2⟩ (lk st.m) (lk (impM (tagf d) 0 r.comps st.m)) s := fun s hs => by
      unfold Pass
      rcases hlk s with ⟨j, sz, xs, h9, h10, _⟩ | ⟨_, h10⟩
      · exact (hs j sz xs h9 h10).elim
      · rw [h10]
        rcases same_tags E (lk st.m) s with h | ⟨_, h⟩
        · exact .inl h
        · exact .inr ⟨at_old s hs, h⟩
    have hlive : ∀ s, st.held s = true → ∀ j sz xs, r.comps[j]? = some (.own sz xs) → s ≠ tagf d (0 + j) := fun s hs j sz xs h e => by
      rw [e, (hnone j sz xs h).2] at hs; cases hs
    have hmem : ∀ s o, lk st.m s = some o → ∀ j sz xs, r.comps[j]? = some (.own sz xs) → s ≠ tagf d (0 + j) := fun s o hs j sz xs h e => by
      rw [e, (hnone j sz xs h).1] at hs; cases hs
    -- parts of results, seen from here
    have part : ∀ (c : R1), c ∈ r.comps → ∀ (x : SV), (c = .sv x ∨ ∃ sz xs, c = .own sz xs ∧ x ∈ xs) → ∀ {v : Value}, RepS w' E1.ok x v → RepS w' ok2 x v := fun c hc x hx v hv => by
      rcases hok with hok | hfl
      · refine hv.keep fun b hb => ⟨?_, rfl⟩
        by_cases hlt : b < w.heap.size
        · rcases hev.new b hb with h | h
          · exact .inl (hok b h)
          · exact (h hlt).elim
        · exact .inr ⟨hb, by omega⟩
      · have h9 := hfl c hc
        rcases hx with rfl | ⟨sz, xs, rfl, hx⟩
        · exact hv.flat h9
        · exact hv.flat (h9 x hx)
    have hdisj : ∀ j sz xs g c s, r.comps[j]? = some (.own sz xs) → E1.at_ j = some (g, c, s) → w.heap.size ≤ g ∧ g < w'.heap.size ∧ ¬ E1.ok g := fun j sz xs g c s hj hg => by
      have hl : lk (cst r.comps).m j = some (.row sz xs) := by
        rcases impM_lk (f := id) (fun _ _ h => h) r.comps 0 [] j with ⟨j', sz', xs', h1', h2', h3'⟩ | ⟨h1', _⟩
        · simp only [id, Nat.zero_add] at h2'; subst h2'
          rw [hj] at h1'; simp only [Option.some.injEq, R1.own.injEq] at h1'; obtain ⟨rfl, rfl⟩ := h1'
          exact h3'
        · exact (h1' j sz xs hj (by simp)).elim
      have := h1.own j _ g c s hl hg
      exact ⟨by omega, this.1, this.2.1⟩
    have hrow : ∀ j sz xs, r.comps[j]? = some (.own sz xs) → MemRep w' E1 (lk (cst r.comps).m) j (.row sz xs) := fun j sz xs hj => by
      have hl : lk (cst r.comps).m j = some (.row sz xs) := by
        rcases impM_lk (f := id) (fun _ _ h => h) r.comps 0 [] j with ⟨j', sz', xs', h1', h2', h3'⟩ | ⟨h1', _⟩
        · simp only [id, Nat.zero_add] at h2'; subst h2'
          rw [hj] at h1'; simp only [Option.some.injEq, R1.own.injEq] at h1'; obtain ⟨rfl, rfl⟩ := h1'
          exact h3'
        · exact (h1' j sz xs hj (by simp)).elim
      exact h1.mm j _ hl
    have hInv : Inv kp w' ⟨ok2, at2⟩ { st with m := impM (tagf d) 0 r.comps st.m } a := by
      refine ⟨hI.df, hI.sz, fun e x hx => ?_, fun t o ho => ?_, fun t t' o o' g c s c' s' k1 k2 e1 e2 => ?_, fun t o g c s ho hg => ?_, hok2l, fun b hb => Nat.lt_of_lt_of_le (hI.kpl b hb) hsz⟩
      · obtain ⟨v, k1, k2⟩ := hI.tm e x hx
        refine ⟨v, k1, k2.keep hokold (fun t ht => hp t (hlive t ?_))⟩
        cases hh : st.held t with
        | true => rfl
        | false => rw [held_t hh hx] at ht; cases ht
      · rcases hlk t with ⟨j, sz, xs, h9, h10, h11⟩ | ⟨h9, h10⟩
        · rw [h11] at ho
          simp only [Option.some.injEq] at ho; subst ho
          obtain ⟨h0, hr⟩ := hrow j sz xs h9
          refine ⟨h0, ?_⟩
          rw [h10, show (⟨ok2, at2⟩ : Env).at_ (tagf d (0 + j)) = E1.at_ j from at_new j sz xs h9]
          rcases hr with hr | ⟨g, c, e, cur, vs', k1, k2, k3, k4, k5, k6, k7, k8⟩
          · exact .inl hr
          · refine .inr ⟨g, c, e, cur, vs', k1, k2, k3, k4, k5, k6, RepL.of k7.len (fun i x v hx hv => ?_), k8⟩
            exact part _ (List.mem_of_getElem? h9) x (.inr ⟨sz, xs, rfl, List.mem_of_getElem? hx⟩) (k7.get i x v hx hv)
        · rw [h10] at ho
          refine (hI.mm t o ho).keep hokold (at_old t h9) (fun g c s hg => hkeep g (hI.own t o g c s ho hg).1) (fun s cs hcs hs => hp s (hlive s ?_))
          subst hcs
          cases hh : st.held s with
          | true => rfl
          | false => rw [held_m hh ho] at hs; cases hs
      · rcases hlk t with ⟨j, sz, xs, h9, h10, h11⟩ | ⟨h9, h10⟩ <;> rcases hlk t' with ⟨j', sz', xs', h9', h10', h11'⟩ | ⟨h9', h10'⟩
        · rw [h10] at e1 ⊢
          rw [h10'] at e2 ⊢
          simp only at e1 e2
          rw [at_new j sz xs h9] at e1
          rw [at_new j' sz' xs' h9'] at e2
          have l1 : ∃ o, lk (cst r.comps).m j = some o := by
            rcases impM_lk (f := id) (fun _ _ h => h) r.comps 0 [] j with ⟨_, _, _, _, _, h3'⟩ | ⟨h1', _⟩
            · exact ⟨_, h3'⟩
            · exact (h1' j sz xs h9 (by simp)).elim
          have l2 : ∃ o, lk (cst r.comps).m j' = some o := by
            rcases impM_lk (f := id) (fun _ _ h => h) r.comps 0 [] j' with ⟨_, _, _, _, _, h3'⟩ | ⟨h1', _⟩
            · exact ⟨_, h3'⟩
            · exact (h1' j' sz' xs' h9' (by simp)).elim
          obtain ⟨o1, l1⟩ := l1
          obtain ⟨o2, l2⟩ := l2
          rw [h1.inj j j' o1 o2 g c s c' s' l1 l2 e1 e2]
        · rw [h10] at e1
          simp only at e1 e2
          rw [at_new j sz xs h9] at e1
          rw [at_old t' h9'] at e2
          rw [h10'] at k2
          have q1 := (hdisj j sz xs g c s h9 e1).1
          have q2 := (hI.own t' o' g c' s' k2 e2).1
          omega
        · rw [h10'] at e2
          simp only at e1 e2
          rw [at_new j' sz' xs' h9'] at e2
          rw [at_old t h9] at e1
          rw [h10] at k1
          have q1 := (hdisj j' sz' xs' g c' s' h9' e2).1
          have q2 := (hI.own t o g c s k1 e1).1
          omega
        · simp only at e1 e2
          rw [at_old t h9] at e1
          rw [at_old t' h9'] at e2
          rw [h10] at k1
          rw [h10'] at k2
          exact hI.inj t t' o o' g c s c' s' k1 k2 e1 e2
      · rcases hlk t with ⟨j, sz, xs, h9, h10, h11⟩ | ⟨h9, h10⟩
        · rw [h10] at hg
          simp only at hg
          rw [at_new j sz xs h9] at hg
          have q := hdisj j sz xs g c s h9 hg
          refine ⟨q.2.1, fun h => ?_, fun h => by have := hI.kpl g h; omega⟩
          rcases h with h | h
          · have := hI.okl g h; omega
          · exact q.2.2 h.1
        · simp only at hg
          rw [at_old t h9] at hg
          rw [h10] at ho
          have q := hI.own t o g c s ho hg
          exact ⟨by omega, fun h => h.elim q.2.1 (fun h => by omega), q.2.2⟩
    refine ⟨⟨ok2, at2⟩, ?_, hevo _ (fun t ht => at_old t fun j sz xs h e => by have := St.fresh_pin (hfr j sz xs h); omega)⟩
    refine hInv.put (dst := some d) (by simpa [St.fitsDst] using hdn) ?_
    -- the value itself
    have comp : ∀ (j : Nat) (c : R1), r.comps[j]? = some c → ∃ v, vs[j]? = some v ∧ RepV w' ⟨ok2, at2⟩ (lk (impM (tagf d) 0 r.comps st.m)) (c.av (tagf d (0 + j))) v := fun j c hc => by
      have hl := ent1_get (f := id) r.comps 0 j
      rw [hc] at hl
      simp only [Nat.zero_add, Option.map_some, id] at hl
      obtain ⟨v, k1, k2⟩ := h1.tm j (c.av j) hl
      refine ⟨v, by simpa using k1, ?_⟩
      cases c with
      | sv x =>
        simp only [R1.av, RepV] at k2 ⊢
        exact part _ (List.mem_of_getElem? hc) x (.inl rfl) k2
      | nil => simpa only [R1.av, RepV] using k2
      | own sz xs =>
        simp only [R1.av, RepV] at k2 ⊢
        have l1 : lk (cst r.comps).m j = some (.row sz xs) := by
          rcases impM_lk (f := id) (fun _ _ h => h) r.comps 0 [] j with ⟨j', sz', xs', h1', h2', h3'⟩ | ⟨h1', _⟩
          · simp only [id, Nat.zero_add] at h2'; subst h2'
            rw [hc] at h1'; simp only [Option.some.injEq, R1.own.injEq] at h1'; obtain ⟨rfl, rfl⟩ := h1'
            exact h3'
          · exact (h1' j sz xs hc (by simp)).elim
        have l2 : lk (impM (tagf d) 0 r.comps st.m) (tagf d (0 + j)) = some (.row sz xs) := by
          rcases hlk (tagf d (0 + j)) with ⟨j', sz', xs', h9, h10, h11⟩ | ⟨h9, _⟩
          · have := tagf_inj d _ _ h10
            rw [show j' = j by omega, hc] at h9
            simp only [Option.some.injEq, R1.own.injEq] at h9
            obtain ⟨rfl, rfl⟩ := h9
            exact h11
          · exact (h9 j sz xs hc rfl).elim
        rw [l1] at k2
        rw [l2, at_new j sz xs hc]
        exact k2
    cases r with
    | one c =>
      obtain ⟨v, k1, k2⟩ := comp 0 c rfl
      simp only [RV.av, RV.val]
      cases vs with
      | nil => simp at k1
      | cons u vs => simp at k1; subst k1; exact k2
    | many rs =>
      simp only [RV.av, RV.val, RepV]
      refine ⟨vs.toArray, rfl, RepVL.of ?_ fun i x v hx hv => ?_⟩
      · have hn := h1.sz
        simp only [List.size_toArray, cst, RV.comps] at hn
        simp [impT_len, hn]
      · rw [impT_get] at hx
        obtain ⟨c, hc, rfl⟩ := Option.map_eq_some_iff.1 hx
        obtain ⟨u, k1, k2⟩ := comp i c hc
        simp only at hv
        rw [k1] at hv
        simp only [Option.some.injEq] at hv; subst hv
        exact k2
end

mutual
/-- A frame value as an argument: what is owned is lent. -/
def AV.arg (m : Mem) : AV → Option SV
  | .sv x => some x
  | .nil => some (.lst [])
  | .own t => match m t with
    | some (.row _ xs) => some (.lst xs)
    | _ => none
  | .box t off => match m t with
    | some (.box cs) => (AV.svs cs).map fun xs => .ref (.agg xs) off
    | _ => none
  | .elt _ _ _ => none
  | .tup _ | .agg _ | .sl _ _ => none
  | .fnv f caps => (AV.argL m caps).map fun xs => .fn f xs
def AV.argL (m : Mem) : List AV → Option (List SV)
  | [] => some []
  | x :: xs => match AV.arg m x, AV.argL m xs with
    | some y, some ys => some (y :: ys)
    | _, _ => none
end
theorem arg_rep {kp : Nat → Prop} {w : World} {E : Env} {st : St} {a : Act} (hI : Inv kp w E st a) : ∀ {X : AV} {y : SV} {v : Value}, X.arg (lk st.m) = some y → RepV w E (lk st.m) X v → RepS w (· < w.heap.size) y v := by
  have hok : ∀ b, E.ok b → (b < w.heap.size) ∧ w.heap[b]? = w.heap[b]? := fun b hb => ⟨hI.okl b hb, rfl⟩
  intro X
  refine AV.rec (motive_1 := fun X => ∀ {y : SV} {v : Value}, X.arg (lk st.m) = some y → RepV w E (lk st.m) X v → RepS w (· < w.heap.size) y v) (motive_2 := fun l => ∀ {ys : List SV} {vs : List Value}, AV.argL (lk st.m) l = some ys → RepVL w E (lk st.m) l vs → RepL w (· < w.heap.size) ys vs)
    ?_ ?_ ?_ ?_ ?_ ?_ ?_ ?_ ?_ ?_ ?_ X
  · intro x y v h hr; simp only [AV.arg, Option.some.injEq] at h; subst h; simp only [RepV] at hr; exact hr.keep hok
  · intro y v h hr; simp only [AV.arg, Option.some.injEq] at h; subst h; simp only [RepV] at hr; subst hr; simp [RepS]
  · intro t y v h hr
    simp only [AV.arg] at h
    split at h
    case h_2 => cases h
    rename_i sz xs hm
    simp only [Option.some.injEq] at h; subst h
    simp only [RepV, hm] at hr
    obtain ⟨h0, hmm⟩ := hI.mm t _ hm
    simp only [RepS]
    rcases hmm with ⟨h1, rfl⟩ | ⟨g, c, e, cur, vs, h1, h2, h3, h4, h5, h6, h7, h8⟩
    · rw [h1] at hr; obtain ⟨b, rfl⟩ := hr; exact ⟨b, 0, rfl, Nat.le_refl _, .inl rfl⟩
    · rw [h1] at hr
      refine ⟨_, c, hr, h4, .inr ⟨⟨g, 0, none⟩, sz, vs, rfl, (hI.own t _ g c sz hm h1).1, h7.keep hok, fun i u hu => ⟨(h8 i u hu).1, fun j y hy => ?_⟩⟩⟩
      rw [Go.Deep.add_add, add_lit, cell_of_row w g _ cur e (0, 0) h2, Nat.zero_add]
      exact (h8 i u hu).2.2 j y hy
  · intro t off y v h hr
    simp only [AV.arg] at h
    split at h
    case h_2 => cases h
    rename_i cs hm
    obtain ⟨xs, hxs, rfl⟩ := Option.map_eq_some_iff.1 h
    simp only [RepV, hm] at hr
    obtain ⟨g, c, sz, hg, rfl⟩ := hr
    obtain ⟨g', c', sz', e, cur, hg', hh, hr⟩ := hI.mm t _ hm
    rw [hg] at hg'
    simp only [Option.some.injEq, Prod.mk.injEq] at hg'
    obtain ⟨rfl, rfl, rfl⟩ := hg'
    simp only [RepS]
    refine ⟨⟨g, 0, none⟩, .agg cur, by rw [add_lit, Nat.zero_add], (hI.own t _ g c sz hm hg).1, ⟨cur, rfl, (RepVL.svs hxs hr).keep hok⟩, fun j y hy => ?_⟩
    rw [add_lit, cell_of_row w g _ cur e (0, 0) hh, Nat.zero_add]
    exact hy
  · intro t i off y v h; simp [AV.arg] at h
  · intro xs ih y v h; simp [AV.arg] at h
  · intro f caps ih y v h hr
    simp only [AV.arg] at h
    obtain ⟨xs, hxs, rfl⟩ := Option.map_eq_some_iff.1 h
    simp only [RepV, RepS] at hr ⊢
    obtain ⟨cs, rfl, hr⟩ := hr
    exact ⟨cs, rfl, ih hxs hr⟩
  · intro xs ih y v h; simp [AV.arg] at h
  · intro t n y v h; simp [AV.arg] at h
  · intro ys vs h hr; simp only [AV.argL, Option.some.injEq] at h; subst h; simp only [RepVL] at hr; subst hr; exact RepL.nil
  · intro x xs ihx ihs ys vs h hr
    simp only [RepVL] at hr
    obtain ⟨v, vs', rfl, hx, hs⟩ := hr
    simp only [AV.argL] at h
    split at h
    · rename_i y ys' h1 h2
      simp only [Option.some.injEq] at h; subst h
      exact RepL.cons (ihx h1 hx) (ihs h2 hs)
    · cases h

/-- The arguments of a call: shared (lent = false), or lent. -/
def argv (st : St) : List Operand → Option (List SV)
  | [] => some []
  | x :: xs => match (aval st x).bind (AV.arg (lk st.m)), argv st xs with
    | some y, some ys => some (y :: ys)
    | _, _ => none
def argS (st : St) : List Operand → Option (List SV)
  | [] => some []
  | x :: xs => match (aval st x).bind AV.elem, argS st xs with
    | some y, some ys => some (y :: ys)
    | _, _ => none
section
variable {kp : Nat → Prop} {w w' : World} {E E1 : Env} {st : St} {a : Act}
theorem argv_rep (hI : Inv kp w E st a) : ∀ {l : List Operand} {ys : List SV}, argv st l = some ys → RepL w (· < w.heap.size) ys (l.map a.eval)
  | [], ys, h => by simp only [argv, Option.some.injEq] at h; subst h; exact RepL.nil
  | x :: xs, ys, h => by
    simp only [argv] at h
    split at h
    · rename_i y ys' h1 h2
      simp only [Option.some.injEq] at h; subst h
      obtain ⟨X, hX, h1⟩ := Option.bind_eq_some_iff.1 h1
      exact RepL.cons (arg_rep hI h1 (aval_rep hI hX)) (argv_rep hI h2)
    · cases h
theorem argS_rep (hI : Inv kp w E st a) : ∀ {l : List Operand} {ys : List SV}, argS st l = some ys → RepL w E.ok ys (l.map a.eval)
  | [], ys, h => by simp only [argS, Option.some.injEq] at h; subst h; exact RepL.nil
  | x :: xs, ys, h => by
    simp only [argS] at h
    split at h
    · rename_i y ys' h1 h2
      simp only [Option.some.injEq] at h; subst h
      obtain ⟨X, hX, h1⟩ := Option.bind_eq_some_iff.1 h1
      exact RepL.cons (elem_rep h1 (aval_rep hI hX)) (argS_rep hI h2)
    · cases h

/-- The function that is called, and what it has captured. -/
def calle (st : St) (lent : Bool) : Operand → Option (FuncId × List SV)
  | .func f => some (f, [])
  | x => match aval st x with
    | some (.sv (.fn f caps)) => some (f, caps)
    | some (.fnv f caps) => if lent = true then (AV.argL (lk st.m) caps).map fun xs => (f, xs) else none
    | _ => none
variable {P : Program} {ops : Array Oper} {l : List Oper} {K : St → Prop} {o : Oper}
theorem Rn.call {f : Operand} {xs : Array Operand} {ts : Array TypeId} {g : FuncId} {caps ys : List SV} {R : RV → Prop} (lent : Bool) (hg : grd ops st o = some true) (ho : o.op = .call { callee := .value f, args := xs, argTypes := ts }) (hf : calle st lent f = some (g, caps))
    (ha : (if lent = true then argv st xs.toList else argS st xs.toList) = some ys) (hc : ACalls P g (ys ++ caps) R) (hl : lent = true → ∀ r, R r → r.flat) (h : ∀ r, R r → st.impFresh o.dst r = true ∧ Rn P ops l K (st.imp o.dst r)) : Rn P ops (o :: l) K st := fun keep w E a hI => by
  unfold wpList
  rw [if_pos (grd_run hI hg)]
  refine .inl ?_
  obtain ⟨g', hc1, hc2⟩ := hc
  have hargs : ∃ ok : Nat → Prop, Okl w ok ∧ RepL w ok ys (xs.toList.map a.eval) ∧ ((∀ b, ok b → E.ok b) ∨ lent = true) ∧ ∃ cs : Array Value, a.eval f = .func (.func g) #[] cs ∧ RepL w ok caps cs.toList := by
    have hE : ∀ b, E.ok b → (b < w.heap.size) ∧ w.heap[b]? = w.heap[b]? := fun b hb => ⟨hI.okl b hb, rfl⟩
    cases lent with
    | true =>
      refine ⟨(· < w.heap.size), ⟨fun b h => h, hI.okl.gw.keep hE⟩, argv_rep hI (by simpa using ha), .inr rfl, ?_⟩
      cases f with
      | func f' => simp only [calle, Option.some.injEq, Prod.mk.injEq] at hf; obtain ⟨rfl, rfl⟩ := hf; exact ⟨#[], rfl, RepL.nil⟩
      | global g =>
        simp only [calle, aval] at hf
        cases hg2 : lk Gtab g <;> rw [hg2] at hf <;> simp at hf
      | const v =>
        simp only [calle] at hf
        split at hf
        · rename_i f' caps' hX
          simp only [Option.some.injEq, Prod.mk.injEq] at hf; obtain ⟨rfl, rfl⟩ := hf
          have hr := aval_rep hI hX
          simp only [RepV, RepS] at hr
          obtain ⟨cs, h1, h2⟩ := hr
          exact ⟨cs, h1, h2.keep hE⟩
        · rename_i f' caps' hX
          rw [if_pos trivial] at hf
          obtain ⟨zs, hz, he⟩ := Option.map_eq_some_iff.1 hf
          simp only [Prod.mk.injEq] at he; obtain ⟨rfl, rfl⟩ := he
          have hr := arg_rep hI (X := .fnv f' caps') (y := .fn f' zs) (by simp [AV.arg, hz]) (aval_rep hI hX)
          simp only [RepS] at hr
          exact hr
        · cases hf
      | tmp t =>
        simp only [calle] at hf
        split at hf
        · rename_i f' caps' hX
          simp only [Option.some.injEq, Prod.mk.injEq] at hf; obtain ⟨rfl, rfl⟩ := hf
          have hr := aval_rep hI hX
          simp only [RepV, RepS] at hr
          obtain ⟨cs, h1, h2⟩ := hr
          exact ⟨cs, h1, h2.keep hE⟩
        · rename_i f' caps' hX
          rw [if_pos trivial] at hf
          obtain ⟨zs, hz, he⟩ := Option.map_eq_some_iff.1 hf
          simp only [Prod.mk.injEq] at he; obtain ⟨rfl, rfl⟩ := he
          have hr := arg_rep hI (X := .fnv f' caps') (y := .fn f' zs) (by simp [AV.arg, hz]) (aval_rep hI hX)
          simp only [RepS] at hr
          exact hr
        · cases hf
    | false =>
      refine ⟨E.ok, hI.okl, argS_rep hI (by simpa using ha), .inl fun b h => h, ?_⟩
      cases f with
      | func f' => simp only [calle, Option.some.injEq, Prod.mk.injEq] at hf; obtain ⟨rfl, rfl⟩ := hf; exact ⟨#[], rfl, RepL.nil⟩
      | global g =>
        simp only [calle, aval] at hf
        cases hg2 : lk Gtab g <;> rw [hg2] at hf <;> simp at hf
      | const v =>
        simp only [calle] at hf
        split at hf
        · rename_i f' caps' hX
          simp only [Option.some.injEq, Prod.mk.injEq] at hf; obtain ⟨rfl, rfl⟩ := hf
          have hr := aval_rep hI hX
          simp only [RepV, RepS] at hr
          exact hr
        · simp at hf
        · cases hf
      | tmp t =>
        simp only [calle] at hf
        split at hf
        · rename_i f' caps' hX
          simp only [Option.some.injEq, Prod.mk.injEq] at hf; obtain ⟨rfl, rfl⟩ := hf
          have hr := aval_rep hI hX
          simp only [RepV, RepS] at hr
          exact hr
        · simp at hf
        · cases hf
  obtain ⟨ok, hok, hr, hor, cs, hfe, hcs⟩ := hargs
  have hcall := hc2 w ok ((xs.map a.eval) ++ cs) hok (by simpa using hr.append hcs)
  have hrun : (execOp a.eval o).run P w = .ok (.enter g' (xs.map a.eval ++ cs)) w := by
    unfold execOp
    rw [ho]
    simp [resolve, Deferred.ofValue, hfe, invoke, hc1]
  unfold Oper.wp
  rw [hrun, Oper.upon_enter]
  refine hcall.mono ?_
  rintro e w' ⟨r, vs, E1, hR, rfl, h1, h2⟩
  obtain ⟨hF, hk⟩ := h r hR
  obtain ⟨E2, q1, q2⟩ := hI.import h1 h2 hF (hor.imp (fun h => h) (fun h => hl h r hR))
  refine Rn.freeze.wpList_mono' ?_ (hk keep w' E2 _ q1)
  rintro e a2 w2 ⟨st2, E3, k1, k2, k3⟩
  exact ⟨st2, E3, k1, q2.trans k2, k3⟩
end

def params : Nat → List SV → List (Nat × AV)
  | _, [] => []
  | i, x :: xs => (i, .sv x) :: params (i + 1) xs
theorem params_get : ∀ (xs : List SV) (i d : Nat) (x : AV), lk (params i xs) d = some x → ∃ j y, d = i + j ∧ xs[j]? = some y ∧ x = .sv y
  | [], i, d, x, h => by simp [params, lk] at h
  | y :: xs, i, d, x, h => by
    simp only [params, lk] at h
    split at h
    · rename_i e; simp only [Option.some.injEq] at h; exact ⟨0, y, by omega, rfl, h.symm⟩
    · obtain ⟨j, z, h1, h2, h3⟩ := params_get xs (i + 1) d x h
      exact ⟨j + 1, z, by omega, by simpa using h2, h3⟩
/-- What the results' places hold. -/
def resAV (P : Program) (st : St) : List ResultVar → Option (List AV)
  | [] => some []
  | .tmp t :: l => match lk st.t t, resAV P st l with
    | some x, some xs => some (x :: xs)
    | _, _ => none
  | .cell p ty :: l => match (lk st.t p).bind (aload P st ty), resAV P st l with
    | some x, some xs => if (P.underlying ty).isSome = true then some (x :: xs) else none
    | _, _ => none
def toR1 (st : St) : AV → Option R1
  | .sv x => some (.sv x)
  | .nil => some .nil
  | .own t => match lk st.m t with
    | some (.row sz xs) => some (.own sz xs)
    | _ => none
  | _ => none
def ownIn : AV → List AV → Bool
  | .own t, xs => AV.holdsL t xs
  | _, _ => false
def toR (st : St) : List AV → Option (List R1)
  | [] => some []
  | x :: xs => match toR1 st x, toR st xs with
    | some y, some ys => if ownIn x xs = true then none else some (y :: ys)
    | _, _ => none
def mkRV : List R1 → RV
  | [r] => .one r
  | rs => .many rs
/-- What a state returns. -/
def retv (P : Program) (fn : Func) (st : St) : Option RV := ((resAV P st fn.results.toList).bind (toR st)).map mkRV
def Ret (P : Program) (fn : Func) (st : St) (r : RV) : Prop := retv P fn st = some r
/-- The post of a body. -/
def bodyQ (P : Program) (fn : Func) (R : RV → Prop) (e : Exit) (st : St) : Prop := (e = .ret ∨ e = .normal) ∧ ∃ r, R r ∧ Ret P fn st r
theorem bodyQ_ret {P : Program} {fn : Func} {R : RV → Prop} {st : St} : bodyQ P fn R .ret st ↔ match retv P fn st with | some r => R r | none => False := by
  unfold bodyQ Ret
  cases retv P fn st with
  | none => simp
  | some r => simp
section
variable {kp : Nat → Prop} {w : World} {E : Env} {st : St} {a : Act} {P : Program}
theorem load_ptr (hI : Inv kp w E st a) {X Y : AV} {v : Value} {ty : TypeId} (hv : RepV w E (lk st.m) X v) (hu : (P.underlying ty).isSome = true) (hl : aload P st ty X = some Y) : ∃ ad u, v = .pointer (some ad) ∧ (loadVar ty ad).run P w = .ok u w ∧ RepV w E (lk st.m) Y u := by
  unfold aload at hl
  split at hl
  · rename_i cl hp
    obtain ⟨ad, us, hv, hr, hc⟩ := ptr_rep hI hp hv
    refine ⟨ad, ?_⟩
    split at hl
    · rename_i hg
      split at hl
      · rename_i hle
        obtain ⟨xs, hs, rfl⟩ := Option.map_eq_some_iff.1 hl
        have hrt := hr.take (tsz P ty)
        have hlen : (us.take (tsz P ty)).length = tsz P ty := by rw [List.length_take, ← hr.len]; omega
        refine ⟨.agg (us.take (tsz P ty)).toArray, hv, ?_, by simp only [RepV, RepS]; exact ⟨_, rfl, RepVL.svs hs hrt⟩⟩
        have hcells := run_loadCells_list (P := P) w ad (us.take (tsz P ty)) (fun j u hu => hc j u (by rw [List.getElem?_take] at hu; split at hu <;> simp_all))
        rw [hlen] at hcells
        unfold loadVar
        simp [run_isAgg hu, hg, run_sizeOf (info_of_underlying hu), hcells]
      · cases hl
    · rename_i hg
      cases cl with
      | nil => simp at hl
      | cons Z cl =>
        simp only [List.head?_cons, Option.some.injEq] at hl
        subst hl
        simp only [RepVL] at hr
        obtain ⟨u, us', rfl, hZ, _⟩ := hr
        refine ⟨u, hv, ?_, hZ⟩
        have h0 := hc 0 u rfl
        have hz : ad.add 0 = ad := by simp [Addr.add]
        rw [hz] at h0
        unfold loadVar
        simp [run_isAgg hu, hg, load, Sem.run, h0]
  · cases hl
def resOne (tmps : Array Value) : ResultVar → Sem Value
  | .tmp t => pure (tmps.getD t undef)
  | .cell p t => do loadVar t (← asAddr (tmps.getD p undef))
theorem resAV_run (hI : Inv kp w E st a) : ∀ {l : List ResultVar} {xs : List AV}, resAV P st l = some xs → ∃ vs, (l.mapM (resOne a.tmps)).run P w = .ok vs w ∧ RepVL w E (lk st.m) xs vs
  | [], xs, h => by simp only [resAV, Option.some.injEq] at h; subst h; exact ⟨[], by simp, RepVL.nil⟩
  | .tmp t :: l, xs, h => by
    simp only [resAV] at h
    split at h
    · rename_i x xs' h1 h2
      simp only [Option.some.injEq] at h; subst h
      obtain ⟨vs, k1, k2⟩ := resAV_run hI h2
      obtain ⟨v, k3, k4⟩ := hI.tm t x h1
      refine ⟨v :: vs, ?_, RepVL.cons k4 k2⟩
      have k5 : (resOne a.tmps (.tmp t)).run P w = .ok v w := by simp [resOne, k3]
      simp [List.mapM_cons, k1, k5]
    · cases h
  | .cell p ty :: l, xs, h => by
    simp only [resAV] at h
    split at h
    · rename_i x xs' h1 h2
      split at h
      case isFalse => cases h
      rename_i hu
      simp only [Option.some.injEq] at h; subst h
      obtain ⟨X, hX, h1⟩ := Option.bind_eq_some_iff.1 h1
      obtain ⟨vs, k1, k2⟩ := resAV_run hI h2
      obtain ⟨v, k3, k4⟩ := hI.tm p X hX
      obtain ⟨ad, u, rfl, q1, q2⟩ := load_ptr (P := P) hI k4 hu h1
      refine ⟨u :: vs, ?_, RepVL.cons q2 k2⟩
      have k5 : (resOne a.tmps (.cell p ty)).run P w = .ok u w := by simp [resOne, k3, asAddr, q1]
      simp [List.mapM_cons, k1, k5]
    · cases h
theorem toR_get : ∀ {xs : List AV} {rs : List R1}, toR st xs = some rs → xs.length = rs.length ∧ ∀ (i : Nat) (x : AV) (c : R1), xs[i]? = some x → rs[i]? = some c → toR1 st x = some c
  | [], rs, h => by simp only [toR, Option.some.injEq] at h; subst h; exact ⟨rfl, fun i x c hx => by simp at hx⟩
  | x :: xs, rs, h => by
    simp only [toR] at h
    split at h
    · rename_i y ys h1 h2
      split at h
      case isTrue => cases h
      simp only [Option.some.injEq] at h; subst h
      obtain ⟨k1, k2⟩ := toR_get h2
      refine ⟨by simp [k1], fun i z c hz hc => ?_⟩
      cases i with
      | zero => simp at hz hc; subst hz; subst hc; exact h1
      | succ i => exact k2 i z c (by simpa using hz) (by simpa using hc)
    · cases h
theorem toR_tags : ∀ {xs : List AV} {rs : List R1}, toR st xs = some rs → ∀ (i j t : Nat), xs[i]? = some (.own t) → xs[j]? = some (.own t) → i = j
  | [], rs, h, i, j, t, hi, hj => by simp at hi
  | x :: xs, rs, h, i, j, t, hi, hj => by
    simp only [toR] at h
    split at h
    case h_2 => cases h
    rename_i y ys h1 h2
    split at h
    case isTrue => cases h
    rename_i hc
    have hno : ∀ (k : Nat), xs[k]? = some (AV.own t) → x = AV.own t → False := fun k hk hx => by
      subst hx
      simp only [ownIn] at hc
      have : ∀ {l : List AV} {k : Nat}, l[k]? = some (.own t) → AV.holdsL t l = true := by
        intro l
        induction l with
        | nil => intro k h; simp at h
        | cons z l ih =>
          intro k h
          cases k with
          | zero => simp at h; subst h; simp [AV.holdsL, AV.holds]
          | succ k => simp [AV.holdsL, ih (by simpa using h)]
      exact hc (this hk)
    cases i with
    | zero =>
      simp at hi
      cases j with
      | zero => rfl
      | succ j => exact (hno j (by simpa using hj) hi).elim
    | succ i =>
      cases j with
      | zero => simp at hj; exact (hno i (by simpa using hi) hj).elim
      | succ j => rw [toR_tags h2 i j t (by simpa using hi) (by simpa using hj)]

theorem ACalls.of_body {g : FuncId} {fn : Func} {c : Code} {args : List SV} {R : RV → Prop} (hcall : ∀ (cargs : Array Value) (w : World), (callFunc g cargs).run P w = .ok (.enter g cargs) w) (hf : P.funcs[g]? = some fn) (hb : fn.body = some c) {n : Nat} (hn : fn.ntmps = n) (hle : args.length ≤ n)
    (h : Tr P c (bodyQ P fn R) { n := n, t := params 0 args, m := [] }) : ACalls P g args R := by
  refine ⟨g, hcall, fun w ok cargs hok hargs => calls_of_wp hf hb (Code.wp_mono ?_ (h (· < w.heap.size) w ⟨ok, fun _ => none⟩ _ ?_))⟩
  · rintro e a' w' ⟨st', E', hI, hev, he, r, hR, hret⟩
    unfold Ret retv at hret
    obtain ⟨rs, hrs, rfl⟩ := Option.map_eq_some_iff.1 hret
    obtain ⟨xs, h1, h2⟩ := Option.bind_eq_some_iff.1 hrs
    obtain ⟨vs, hrun, hr⟩ := resAV_run (P := P) hI h1
    obtain ⟨hlen, hget⟩ := toR_get h2
    have htag := toR_tags h2
    have hcomps : (mkRV rs).comps = rs := by
      unfold mkRV
      split <;> rfl
    have hres : (results fn a'.tmps).run P w' = .ok ((mkRV rs).val vs) w' := by
      have h3 : (fn.results.mapM (resOne a'.tmps)).run P w' = .ok vs.toArray w' := by
        rw [Array.mapM_eq_mapM_toList]
        simp [hrun]
      have h4 : results fn a'.tmps = (do let vs ← fn.results.mapM (resOne a'.tmps); pure (if h : vs.size = 1 then vs[0] else .tuple vs)) := by
        unfold results
        congr 2
      rw [h4, Sem.run_bind, h3]
      have hl3 := hr.len
      match rs, hlen with
      | [r], hlen =>
        have : ∃ u, vs = [u] := List.length_eq_one_iff.1 (by simp at hlen; omega)
        obtain ⟨u, rfl⟩ := this
        simp [mkRV, RV.val]
      | [], hlen =>
        have : vs = [] := List.eq_nil_of_length_eq_zero (by simp at hlen; simp [hlen] at hl3; omega)
        subst this
        simp [mkRV, RV.val]
      | r1 :: r2 :: rs', hlen =>
        simp only [mkRV, RV.val]
        have : vs.length ≠ 1 := by simp at hlen; omega
        simp [this]
    have hfin : ∃ (r : RV) (us : List Value) (E1 : Env), R r ∧ Ending.returned ((mkRV rs).val vs) = .returned (r.val us) ∧ Inv (· < w.heap.size) w' E1 (cst r.comps) ⟨us.toArray, []⟩ ∧ Evo (· < w.heap.size) w ⟨ok, E1.at_⟩ w' E1 := by
      refine ⟨mkRV rs, vs, ⟨E'.ok, fun i => match xs[i]? with | some (.own t) => E'.at_ t | _ => none⟩, hR, rfl, ?_, ⟨hev.os, hev.tape, hev.output, hev.size, hev.kp, hev.oks, hev.new, fun _ _ => rfl, hev.drawn⟩⟩
      rw [hcomps]
      have hl3 := hr.len
      -- each of the results' rows
      have own : ∀ (i sz : Nat) (ys : List SV), rs[i]? = some (R1.own sz ys) → ∃ t, xs[i]? = some (AV.own t) ∧ lk st'.m t = some (.row sz ys) := fun i sz ys hi => by
        have hlt : i < xs.length := by rw [hlen]; exact (List.getElem?_eq_some_iff.1 hi).1
        have hx := List.getElem?_eq_getElem hlt
        have hc := hget i _ _ hx hi
        rw [hx]
        unfold toR1 at hc
        split at hc
        · cases hc
        · cases hc
        · rename_i t he
          split at hc
          · rename_i sz' xs' hm
            simp only [Option.some.injEq, R1.own.injEq] at hc
            obtain ⟨rfl, rfl⟩ := hc
            exact ⟨t, by rw [he], hm⟩
          · cases hc
        · cases hc
      have hcl : ∀ (i sz : Nat) (ys : List SV), rs[i]? = some (R1.own sz ys) → lk (cst rs).m i = some (.row sz ys) := fun i sz ys hi => by
        rcases impM_lk (f := id) (fun _ _ h => h) rs 0 [] i with ⟨j', sz', xs', h1', h2', h3'⟩ | ⟨h1', _⟩
        · simp only [id, Nat.zero_add] at h2'; subst h2'
          rw [hi] at h1'; simp only [Option.some.injEq, R1.own.injEq] at h1'; obtain ⟨rfl, rfl⟩ := h1'
          exact h3'
        · exact (h1' i sz ys hi (by simp)).elim
      refine ⟨rfl, by simp [cst]; omega, fun d x hx => ?_, fun t o ho => ?_, fun t t' o o' g c s c' s' k1 k2 e1 e2 => ?_, fun t o g c s ho hg => ?_, hI.okl, hI.kpl⟩
      · have hg := ent1_get (f := id) rs 0 d
        simp only [Nat.zero_add, id] at hg
        rw [show lk (cst rs).t d = lk (ent1 id 0 rs) d from rfl, hg] at hx
        obtain ⟨c, hc, rfl⟩ := Option.map_eq_some_iff.1 hx
        have hlt : d < xs.length := by rw [hlen]; exact (List.getElem?_eq_some_iff.1 hc).1
        have hX := List.getElem?_eq_getElem hlt
        have hV : vs[d]? = some vs[d] := List.getElem?_eq_getElem (by omega)
        have hrep := hr.get d _ _ hX hV
        refine ⟨vs[d], by simp, ?_⟩
        have hc1 := hget d _ _ hX hc
        cases c with
        | sv y =>
          unfold toR1 at hc1
          split at hc1 <;> first | (simp only [Option.some.injEq, R1.sv.injEq] at hc1; subst hc1; rename_i he; rw [he] at hrep; simpa only [R1.av, RepV] using hrep) | (split at hc1 <;> cases hc1) | cases hc1
        | nil =>
          unfold toR1 at hc1
          split at hc1 <;> first | (rename_i he; rw [he] at hrep; simpa only [R1.av, RepV] using hrep) | (split at hc1 <;> cases hc1) | cases hc1
        | own sz ys =>
          obtain ⟨t, ht, hm⟩ := own d sz ys hc
          rw [hX] at ht
          simp only [Option.some.injEq] at ht
          rw [ht] at hrep
          simp only [R1.av, RepV] at hrep ⊢
          rw [hm] at hrep
          rw [hcl d sz ys hc, hX, ht]
          exact hrep
      · obtain ⟨sz, ys, hi, rfl⟩ := cst_mem rs t o ho
        obtain ⟨t', ht, hm⟩ := own t sz ys hi
        obtain ⟨h0, h⟩ := hI.mm t' _ hm
        refine ⟨h0, ?_⟩
        simp only [ht]
        exact h
      · obtain ⟨sz, ys, hi, rfl⟩ := cst_mem rs t o k1
        obtain ⟨sz', ys', hi', rfl⟩ := cst_mem rs t' o' k2
        obtain ⟨u, hu, hm⟩ := own t sz ys hi
        obtain ⟨u', hu', hm'⟩ := own t' sz' ys' hi'
        simp only [hu] at e1
        simp only [hu'] at e2
        have := hI.inj u u' _ _ g c s c' s' hm hm' e1 e2
        subst this
        exact htag t t' u hu hu'
      · obtain ⟨sz, ys, hi, rfl⟩ := cst_mem rs t o ho
        obtain ⟨u, hu, hm⟩ := own t sz ys hi
        simp only [hu] at hg
        exact hI.own u _ g c s hm hg
    rcases he with rfl | rfl
    · refine ⟨hI.df, _, hres, ?_⟩
      exact hfin
    · refine ⟨hI.df, _, hres, ?_⟩
      exact hfin
  · have hal := hargs.len
    simp only [Array.length_toList] at hal
    refine ⟨rfl, by simp [hn]; omega, fun d x hx => ?_, fun t o ho => by simp [lk] at ho, fun t t' o o' g c s c' s' k1 => by simp [lk] at k1, fun t o g c s k1 => by simp [lk] at k1, hok, fun b hb => hb⟩
    obtain ⟨j, y, rfl, hj, rfl⟩ := params_get args 0 d x hx
    obtain ⟨v, hv, hr⟩ := hargs.at hj
    have hlt : j < cargs.size := by rw [← hal]; exact (List.getElem?_eq_some_iff.1 hj).1
    refine ⟨v, ?_, by simpa only [RepV] using hr⟩
    rw [Nat.zero_add, Array.getElem?_append_left hlt]
    simpa using hv
end
end Go.Proofs.Ytimllhflecippaa.Ab
end
