/- The abstract layer, part C: memory that the call owns: boxes, loads, stores, places. -/
import Derived.Test.YtfcojlagmmgagaaDoorAbB
import Derived.Deep.Slices
namespace Go.Proofs.YtfcojlagmmgagaaDoor.Ab
open Go.RowKit
set_option linter.unusedVariables false
set_option linter.unusedSimpArgs false

/-- Does anything hold the tag? -/
def St.held (st : St) (t : Nat) : Bool := st.t.any (fun p => p.2.holds t) || st.m.any (fun p => match p.2 with | .box cs => AV.holdsL t cs | _ => false)
theorem lk_mem {α : Type} : ∀ {l : List (Nat × α)} {d : Nat} {x : α}, lk l d = some x → (d, x) ∈ l
  | [], d, x, h => by simp [lk] at h
  | (k, y) :: l, d, x, h => by
    simp only [lk] at h
    split at h
    · rename_i hk; simp at h; subst hk; subst h; exact List.mem_cons_self
    · exact List.mem_cons_of_mem _ (lk_mem h)
theorem held_t {st : St} {t d : Nat} {x : AV} (h : st.held t = false) (hx : lk st.t d = some x) : x.holds t = false := by
  simp only [St.held, Bool.or_eq_false_iff, List.any_eq_false] at h
  have := h.1 _ (lk_mem hx)
  simpa using this
theorem held_m {st : St} {t d : Nat} {cs : List AV} (h : st.held t = false) (hx : lk st.m d = some (.box cs)) : AV.holdsL t cs = false := by
  simp only [St.held, Bool.or_eq_false_iff, List.any_eq_false] at h
  have := h.2 _ (lk_mem hx)
  simpa using this
/-- A tag that may be given anew. -/
def St.fresh (st : St) (t : Nat) : Bool := decide (t < 1000000) && (!st.held t && (lk st.m t).isNone)
theorem St.fresh_pin {st : St} {t : Nat} (h : st.fresh t = true) : t < 1000000 := by
  simp only [St.fresh, Bool.and_eq_true, decide_eq_true_eq] at h
  exact h.1

/-- How a tag passes from one memory to another one. -/
def Pass (E E' : Env) (m m' : Mem) (t : Nat) : Prop :=
  m' t = none ∨ (E'.at_ t = E.at_ t ∧ ((∃ k xs ys, m t = some (.row k xs) ∧ m' t = some (.row k ys) ∧ xs.length = ys.length) ∨ (∃ cs ds, m t = some (.box cs) ∧ m' t = some (.box ds))))

section
variable {kp : Nat → Prop} {w w' : World} {E E' : Env} {st st' : St} {a : Act} {m m' : Mem} {t : Nat} {o : Obj'}

theorem MemRep.keep (hok : ∀ b, E.ok b → E'.ok b ∧ w'.heap[b]? = w.heap[b]?) (he : E'.at_ t = E.at_ t) (hb : ∀ g c s, E.at_ t = some (g, c, s) → w'.heap[g]? = w.heap[g]?)
    (hp : ∀ s cs, o = .box cs → AV.holdsL s cs = true → Pass E E' m m' s) (h : MemRep w E m t o) : MemRep w' E' m' t o := by
  cases o with
  | row sz xs =>
    obtain ⟨h0, h⟩ := h
    rcases h with ⟨h1, h2⟩ | ⟨g, c, e, cur, vs, h1, h2, h3, h4, h5, h6, h7, h8⟩
    · exact ⟨h0, .inl ⟨by rw [he]; exact h1, h2⟩⟩
    · exact ⟨h0, .inr ⟨g, c, e, cur, vs, by rw [he]; exact h1, by rw [hb _ _ _ h1]; exact h2, h3, h4, h5, h6, h7.keep hok, h8⟩⟩
  | box cs =>
    obtain ⟨g, c, sz, e, cur, h1, h2, h3⟩ := h
    exact ⟨g, c, sz, e, cur, by rw [he]; exact h1, by rw [hb _ _ _ h1]; exact h2, h3.keep hok (fun s hs => hp s cs rfl hs)⟩

/-- The memory turns; the temporaries stay. -/
theorem Inv.turn (h : Inv kp w E st a) {l : List (Nat × Obj')} (hsz : w.heap.size ≤ w'.heap.size) (hok : ∀ b, E.ok b → E'.ok b ∧ w'.heap[b]? = w.heap[b]?)
    (hp : ∀ s, st.held s = true → Pass E E' (lk st.m) (lk l) s)
    (hm : ∀ t o, lk l t = some o → MemRep w' E' (lk l) t o)
    (hi : ∀ (t t' : Nat) (o o' : Obj') (g c s c' s' : Nat), lk l t = some o → lk l t' = some o' → E'.at_ t = some (g, c, s) → E'.at_ t' = some (g, c', s') → t = t')
    (hw : ∀ (t : Nat) (o : Obj') (g c s : Nat), lk l t = some o → E'.at_ t = some (g, c, s) → g < w'.heap.size ∧ ¬ E'.ok g ∧ ¬ kp g)
    (hl : ∀ b, E'.ok b → b < w'.heap.size) : Inv kp w' E' { st with m := l } a := by
  refine ⟨h.df, h.sz, fun d x hx => ?_, hm, hi, hw, ⟨hl, h.okl.gw.keep hok⟩, fun b hb => Nat.lt_of_lt_of_le (h.kpl b hb) hsz⟩
  obtain ⟨v, h1, h2⟩ := h.tm d x hx
  refine ⟨v, h1, h2.keep hok fun s hs => hp s ?_⟩
  cases hh : st.held s with
  | true => rfl
  | false => rw [held_t hh hx] at hs; cases hs

def Env.set (E : Env) (t : Nat) (x : Option (Nat × Nat × Nat)) : Env := { E with at_ := fun s => if s = t then x else E.at_ s }

theorem Env.set_pin {E : Env} {d : Nat} {x : Option (Nat × Nat × Nat)} (h : d < 1000000) : ∀ t, 1000000 ≤ t → (E.set d x).at_ t = E.at_ t := fun t ht => by
  simp only [Env.set]
  rw [if_neg (by omega)]

theorem Pass.refl (E : Env) (m : Mem) (s : Nat) : Pass E E m m s := same_tags E m s

/-- A new block for a tag that nobody holds. -/
theorem Inv.new (h : Inv kp w E st a) (hf : st.fresh t = true) (hw : w'.heap.size = w.heap.size + 1) (hold : ∀ i, i < w.heap.size → w'.heap[i]? = w.heap[i]?) (c sz : Nat)
    (hm : MemRep w' (E.set t (some (w.heap.size, c, sz))) (lk (up st.m t o)) t o) : Inv kp w' (E.set t (some (w.heap.size, c, sz))) { st with m := up st.m t o } a := by
  simp only [St.fresh, Bool.and_eq_true, Bool.not_eq_true', Option.isNone_iff_eq_none, decide_eq_true_eq] at hf
  obtain ⟨_, hh, hn⟩ := hf
  have hok : ∀ b, E.ok b → (E.set t (some (w.heap.size, c, sz))).ok b ∧ w'.heap[b]? = w.heap[b]? := fun b hb => ⟨hb, hold b (h.okl b hb)⟩
  have hpass : ∀ s, s ≠ t → Pass E (E.set t (some (w.heap.size, c, sz))) (lk st.m) (lk (up st.m t o)) s := fun s hs => by
    unfold Pass
    rw [lk_up, if_neg (Ne.symm hs), show (E.set t (some (w.heap.size, c, sz))).at_ s = E.at_ s by simp [Env.set, hs]]
    exact same_tags E (lk st.m) s
  have hat : ∀ s o', lk (up st.m t o) s = some o' → (s = t ∧ o' = o) ∨ (s ≠ t ∧ lk st.m s = some o') := fun s o' hs => by
    rw [lk_up] at hs
    split at hs
    · simp at hs; exact .inl ⟨by omega, hs.symm⟩
    · exact .inr ⟨by omega, hs⟩
  refine h.turn (by omega) hok (fun s hs => hpass s (fun e => by rw [e, hh] at hs; cases hs)) ?_ ?_ ?_ (fun b hb => Nat.lt_of_lt_of_le (h.okl b hb) (by omega))
  · intro s o' hs
    rcases hat s o' hs with ⟨rfl, rfl⟩ | ⟨hne, ks⟩
    · exact hm
    · refine (h.mm s o' ks).keep hok (by simp [Env.set, hne]) (fun g c' s' hg => hold g (h.own s o' g c' s' ks hg).1) fun u cs hcs hu => hpass u ?_
      intro hut
      rw [hcs] at ks
      rw [hut, held_m hh ks] at hu
      cases hu
  · intro s s' o1 o2 g c1 z1 c2 z2 h1 h2 e1 e2
    rcases hat s o1 h1 with ⟨rfl, rfl⟩ | ⟨hne, k1⟩ <;> rcases hat s' o2 h2 with ⟨rfl, rfl⟩ | ⟨hne', k2⟩
    · rfl
    · simp only [Env.set, if_true, if_neg hne', Option.some.injEq, Prod.mk.injEq] at e1 e2
      have := (h.own s' o2 g c2 z2 k2 e2).1
      omega
    · simp only [Env.set, if_true, if_neg hne, Option.some.injEq, Prod.mk.injEq] at e1 e2
      have := (h.own s o1 g c1 z1 k1 e1).1
      omega
    · simp only [Env.set, if_neg hne, if_neg hne'] at e1 e2
      exact h.inj s s' o1 o2 g c1 z1 c2 z2 k1 k2 e1 e2
  · intro s o' g c' s' hs hg
    rcases hat s o' hs with ⟨rfl, rfl⟩ | ⟨hne, hs⟩
    · simp only [Env.set, if_true, Option.some.injEq, Prod.mk.injEq] at hg
      obtain ⟨rfl, _, _⟩ := hg
      exact ⟨by omega, fun hk => Nat.lt_irrefl _ (h.okl _ hk), fun hk => Nat.lt_irrefl _ (h.kpl _ hk)⟩
    · simp only [Env.set, if_neg hne] at hg
      have := h.own s o' g c' s' hs hg
      exact ⟨by omega, this.2.1, this.2.2⟩

theorem Evo.grow (h : Inv kp w E st a) (hd : w'.os = w.os ∧ w'.tape = w.tape ∧ w'.output = w.output) (hw : w.heap.size ≤ w'.heap.size) (hold : ∀ i, i < w.heap.size → w'.heap[i]? = w.heap[i]?) (he : E'.ok = E.ok) (hp : ∀ t, 1000000 ≤ t → E'.at_ t = E.at_ t) : Evo kp w E w' E' :=
  ⟨hd.1, hd.2.1, hd.2.2, hw, fun b hb => hold b (h.kpl b hb), fun b hb => ⟨by rw [he]; exact hb, hold b (h.okl b hb)⟩, fun b hb => .inl (by rw [he] at hb; exact hb), hp⟩

/-- The block of one tag is written. -/
theorem Inv.write (h : Inv kp w E st a) {o : Obj'} {g c sz : Nat} (ho : lk st.m t = some o) (hg : E.at_ t = some (g, c, sz)) (hw : w'.heap.size = w.heap.size) (hold : ∀ i, i ≠ g → w'.heap[i]? = w.heap[i]?) {o' : Obj'}
    (hkind : (∃ k xs ys, o = .row k xs ∧ o' = .row k ys ∧ xs.length = ys.length) ∨ (∃ cs ds, o = .box cs ∧ o' = .box ds))
    (hm : MemRep w' E (lk (up st.m t o')) t o') : Inv kp w' E { st with m := up st.m t o' } a := by
  have hown := h.own t o g c sz ho hg
  have hok : ∀ b, E.ok b → E.ok b ∧ w'.heap[b]? = w.heap[b]? := fun b hb => ⟨hb, hold b (fun e => hown.2.1 (e ▸ hb))⟩
  have hpass : ∀ s, Pass E E (lk st.m) (lk (up st.m t o')) s := fun s => by
    unfold Pass
    rw [lk_up]
    split
    · rename_i e; subst e
      refine .inr ⟨rfl, ?_⟩
      rcases hkind with ⟨k, xs, ys, rfl, rfl, hl⟩ | ⟨cs, ds, rfl, rfl⟩
      · exact .inl ⟨k, xs, ys, ho, rfl, hl⟩
      · exact .inr ⟨cs, ds, ho, rfl⟩
    · exact same_tags E (lk st.m) s
  have hat : ∀ s o1, lk (up st.m t o') s = some o1 → (s = t ∧ o1 = o') ∨ (s ≠ t ∧ lk st.m s = some o1) := fun s o1 hs => by
    rw [lk_up] at hs
    split at hs
    · simp at hs; exact .inl ⟨by omega, hs.symm⟩
    · exact .inr ⟨by omega, hs⟩
  have hex : ∀ s o1, lk (up st.m t o') s = some o1 → ∃ o2, lk st.m s = some o2 := fun s o1 hs => by
    rcases hat s o1 hs with ⟨rfl, _⟩ | ⟨_, h1⟩
    · exact ⟨o, ho⟩
    · exact ⟨o1, h1⟩
  refine h.turn (by omega) hok (fun s _ => hpass s) ?_ ?_ ?_ (fun b hb => by have := h.okl b hb; omega)
  · intro s o1 hs
    rcases hat s o1 hs with ⟨rfl, rfl⟩ | ⟨hne, hs⟩
    · exact hm
    · exact (h.mm s o1 hs).keep hok rfl (fun g' c' s' hg' => hold g' (fun e => hne (h.inj s t o1 o g' c' s' c sz hs ho hg' (e ▸ hg)))) fun u cs _ _ => hpass u
  · intro s s' o1 o2 g' c1 z1 c2 z2 h1 h2 e1 e2
    obtain ⟨p1, h1⟩ := hex s o1 h1
    obtain ⟨p2, h2⟩ := hex s' o2 h2
    exact h.inj s s' p1 p2 g' c1 z1 c2 z2 h1 h2 e1 e2
  · intro s o1 g' c' s' hs hg'
    obtain ⟨p1, hs⟩ := hex s o1 hs
    have := h.own s p1 g' c' s' hs hg'
    exact ⟨by omega, this.2⟩
theorem Evo.write (h : Inv kp w E st a) {o : Obj'} {g c sz : Nat} (ho : lk st.m t = some o) (hg : E.at_ t = some (g, c, sz)) (hd : w'.os = w.os ∧ w'.tape = w.tape ∧ w'.output = w.output) (hw : w'.heap.size = w.heap.size)
    (hold : ∀ i, i ≠ g → w'.heap[i]? = w.heap[i]?) : Evo kp w E w' E := by
  have hown := h.own t o g c sz ho hg
  exact ⟨hd.1, hd.2.1, hd.2.2, by omega, fun b hb => hold b (fun e => hown.2.2 (e ▸ hb)), fun b hb => ⟨hb, hold b (fun e => hown.2.1 (e ▸ hb))⟩, fun b hb => .inl hb, fun _ _ => rfl⟩
end

/-! ### Types -/
def tsz (P : Program) (t : TypeId) : Nat := P.cellsOf t
def tagg (P : Program) (t : TypeId) : Bool := match P.underlying t with | some (.struct _) => true | some (.array _ _) => true | _ => false
def tzero (P : Program) (t : TypeId) : Option Value := (P.info? t).bind (·.zero)
def tby (P : Program) (t : TypeId) : Nat := P.bytesOf t
section
variable {P : Program} {t : TypeId} {w : World}
theorem run_isAgg (h : (P.underlying t).isSome = true) : (isAgg t).run P w = .ok (tagg P t) w := by
  obtain ⟨d, hd⟩ := Option.isSome_iff_exists.1 h
  unfold isAgg
  rw [Sem.run_bind, run_underlying hd]
  unfold tagg
  rw [hd]
  cases d <;> rfl
theorem run_sizeOf (h : (P.info? t).isSome = true) : (sizeOf t).run P w = .ok (tsz P t) w := by
  obtain ⟨i, hi⟩ := Option.isSome_iff_exists.1 h
  simp [sizeOf, typeInfo, hi, tsz, Program.cellsOf]
theorem info_of_underlying (h : (P.underlying t).isSome = true) : (P.info? t).isSome = true := by
  unfold Program.underlying at h
  split at h
  · rename_i hi; rw [hi]; rfl
  · rename_i hi; rw [hi]; rfl
  · cases h
theorem run_zeroValue {z : Value} (h : tzero P t = some z) : (zeroValue t).run P w = .ok z w := by
  unfold tzero at h
  obtain ⟨i, h1, h2⟩ := Option.bind_eq_some_iff.1 h
  simp [zeroValue, typeInfo, h1, h2]
end

/-! ### Cells -/
/-- The cells of a frame value; a value that is not known has none. -/
def SV.solid : SV → Bool
  | .any => false
  | .val v => v.oneCell'
  | _ => true
/-- Is it in one cell, and is what it leads to still there? -/
def AV.live (m : Mem) : AV → Bool
  | .sv x => x.one
  | .own t | .elt t _ _ => match m t with
    | some (.row _ _) => true
    | _ => false
  | .box t _ | .sl t _ => match m t with
    | some (.box _) => true
    | _ => false
  | .nil | .fnv _ _ => true
  | .tup _ | .agg _ => false
def AV.cells (m : Mem) : AV → Option (List AV)
  | .sv x => if x.solid = true then some (x.cells.map .sv) else none
  | .own t => match m t with
    | some (.row _ _) => some [.own t]
    | _ => none
  | .box t o => match m t with
    | some (.box _) => some [.box t o]
    | _ => none
  | .elt t i o => match m t with
    | some (.row _ _) => some [.elt t i o]
    | _ => none
  | .nil => some [.nil]
  | .fnv f caps => some [.fnv f caps]
  | .tup _ => none
  | .agg xs => if xs.all (AV.live m) = true then some xs else none
  | .sl t n => match m t with
    | some (.box _) => some [.sl t n]
    | _ => none
def AV.one : AV → Bool
  | .sv x => x.one
  | .tup _ | .agg _ => false
  | _ => true
def AV.svs : List AV → Option (List SV)
  | [] => some []
  | .sv x :: l => (AV.svs l).map (x :: ·)
  | .nil :: l => (AV.svs l).map (.lst [] :: ·)
  | _ => none
section
variable {w : World} {E : Env} {m : Mem} {ok : Nat → Prop}
theorem cells_one {v : Value} (h : v.oneCell' = true) : v.cells = #[v] := by cases v <;> simp_all [Value.oneCell', Value.cells]
theorem RepS.cells {x : SV} {v : Value} (hs : x.solid = true) (h : RepS w ok x v) : RepL w ok x.cells v.cells.toList := by
  cases x with
  | any => cases hs
  | val u =>
    simp only [RepS] at h; subst h
    rw [cells_one hs]
    exact RepL.cons (by simp only [RepS]) RepL.nil
  | agg xs => simp only [RepS] at h; obtain ⟨cs, rfl, h⟩ := h; exact h
  | lst xs =>
    have h' := h
    simp only [RepS] at h; obtain ⟨a, c, rfl, _⟩ := h
    exact RepL.cons h' RepL.nil
  | ref x off =>
    have h' := h
    simp only [RepS] at h; obtain ⟨a, u, rfl, _⟩ := h
    exact RepL.cons h' RepL.nil
  | fn f caps =>
    have h' := h
    simp only [RepS] at h; obtain ⟨cs, rfl, _⟩ := h
    exact RepL.cons h' RepL.nil
theorem RepVL.of_svs : ∀ {xs : List SV} {vs : List Value}, RepL w E.ok xs vs → RepVL w E m (xs.map .sv) vs
  | [], vs, h => by simp only [RepL] at h; subst h; exact RepVL.nil
  | x :: xs, vs, h => by
    simp only [RepL] at h
    obtain ⟨v, vs', rfl, hx, hs⟩ := h
    exact RepVL.cons (by simp only [RepV]; exact hx) (RepVL.of_svs hs)
theorem RepVL.svs : ∀ {xs : List AV} {ys : List SV} {vs : List Value}, AV.svs xs = some ys → RepVL w E m xs vs → RepL w E.ok ys vs
  | [], ys, vs, h, hr => by simp only [AV.svs, Option.some.injEq] at h; subst h; simp only [RepVL] at hr; subst hr; exact RepL.nil
  | x :: xs, ys, vs, h, hr => by
    simp only [RepVL] at hr
    obtain ⟨v, vs', rfl, hx, hs⟩ := hr
    cases x with
    | sv x =>
      simp only [AV.svs, Option.map_eq_some_iff] at h
      obtain ⟨l, hl, rfl⟩ := h
      exact RepL.cons (by simpa only [RepV] using hx) (RepVL.svs hl hs)
    | nil =>
      simp only [AV.svs, Option.map_eq_some_iff] at h
      obtain ⟨l, hl, rfl⟩ := h
      simp only [RepV] at hx
      subst hx
      exact RepL.cons (by simp [RepS]) (RepVL.svs hl hs)
    | _ => simp [AV.svs] at h
theorem RepS.oneCell {x : SV} {v : Value} (h1 : x.one = true) (h : RepS w ok x v) : v.oneCell' = true := by
  cases x <;> simp only [RepS] at h
  · simp [SV.one] at h1
  · subst h; exact h1
  · simp [SV.one] at h1
  · obtain ⟨a, c, rfl, _⟩ := h; rfl
  · obtain ⟨a, u, rfl, _⟩ := h; rfl
  · obtain ⟨cs, rfl, _⟩ := h; rfl
theorem RepL.oneCell : ∀ {xs : List SV} {vs : List Value}, xs.all SV.one = true → RepL w ok xs vs → ∀ y ∈ vs, y.oneCell' = true
  | [], vs, _, h, y, hy => by simp only [RepL] at h; subst h; cases hy
  | x :: xs, vs, h1, h, y, hy => by
    simp only [RepL] at h
    obtain ⟨v, vs', rfl, hx, hs⟩ := h
    simp only [List.all_cons, Bool.and_eq_true] at h1
    rcases List.mem_cons.1 hy with rfl | hy
    · exact hx.oneCell h1.1
    · exact RepL.oneCell h1.2 hs y hy
theorem AV.live_one {x : AV} {v : Value} (hl : x.live m = true) (h : RepV w E m x v) : v.oneCell' = true := by
  cases x with
  | sv x => simp only [RepV] at h; exact h.oneCell hl
  | nil => simp only [RepV] at h; subst h; rfl
  | own t =>
    simp only [AV.live] at hl
    simp only [RepV] at h
    split at hl
    · rename_i k xs hm
      rw [hm] at h
      dsimp only at h
      split at h
      · obtain ⟨a, rfl⟩ := h; rfl
      · subst h; rfl
    · cases hl
  | box t o =>
    simp only [AV.live] at hl
    simp only [RepV] at h
    split at hl
    · rename_i xs hm
      rw [hm] at h
      obtain ⟨g, c, sz, _, rfl⟩ := h; rfl
    · cases hl
  | elt t i o =>
    simp only [AV.live] at hl
    simp only [RepV] at h
    split at hl
    · rename_i k xs hm
      rw [hm] at h
      obtain ⟨g, c, sz, _, rfl, _⟩ := h; rfl
    · cases hl
  | tup xs => cases hl
  | fnv f caps => simp only [RepV] at h; obtain ⟨cs, rfl, _⟩ := h; rfl
  | agg xs => cases hl
  | sl t n =>
    simp only [AV.live] at hl
    simp only [RepV] at h
    split at hl
    · rename_i xs hm
      rw [hm] at h
      obtain ⟨g, c, sz, _, rfl⟩ := h; rfl
    · cases hl
theorem RepVL.live_one : ∀ {xs : List AV} {vs : List Value}, xs.all (AV.live m) = true → RepVL w E m xs vs → ∀ y ∈ vs, y.oneCell' = true
  | [], vs, _, h, y, hy => by simp only [RepVL] at h; subst h; cases hy
  | x :: xs, vs, h1, h, y, hy => by
    simp only [RepVL] at h
    obtain ⟨v, vs', rfl, hx, hs⟩ := h
    simp only [List.all_cons, Bool.and_eq_true] at h1
    rcases List.mem_cons.1 hy with rfl | hy
    · exact AV.live_one h1.1 hx
    · exact RepVL.live_one h1.2 hs y hy
theorem RepV.cells {x : AV} {v : Value} {cs : List AV} (hs : x.cells m = some cs) (h : RepV w E m x v) : RepVL w E m cs v.cells.toList ∧ (cs.all AV.one = true → ∀ y ∈ v.cells, y.oneCell' = true) := by
  have one : ∀ {y : AV} {u : Value}, RepV w E m y u → u.oneCell' = true → cs = [y] → v = u → RepVL w E m cs v.cells.toList ∧ (cs.all AV.one = true → ∀ y ∈ v.cells, y.oneCell' = true) := by
    intro y u hy hu hc hv
    subst hv; subst hc
    rw [cells_one hu]
    exact ⟨RepVL.cons hy RepVL.nil, fun _ z hz => by simp at hz; subst hz; exact hu⟩
  cases x with
  | sv x =>
    simp only [AV.cells] at hs
    split at hs
    · rename_i hso
      simp only [Option.some.injEq] at hs; subst hs
      simp only [RepV] at h
      refine ⟨RepVL.of_svs (RepS.cells hso h), fun h1 y hy => RepL.oneCell (xs := x.cells) ?_ (RepS.cells hso h) y (by simpa using hy)⟩
      simpa [AV.one] using h1
    · cases hs
  | nil =>
    simp only [AV.cells, Option.some.injEq] at hs
    have h' := h
    simp only [RepV] at h
    exact one h' (by rw [h]; rfl) hs.symm rfl
  | own t =>
    have h' := h
    simp only [AV.cells] at hs
    simp only [RepV] at h
    split at hs
    · rename_i xs hm
      rw [hm] at h
      dsimp only at h
      refine one h' ?_ (by simpa using hs.symm) rfl
      split at h
      · obtain ⟨a, rfl⟩ := h; rfl
      · subst h; rfl
    · cases hs
  | box t o =>
    have h' := h
    simp only [AV.cells] at hs
    simp only [RepV] at h
    split at hs
    · rename_i xs hm
      rw [hm] at h
      dsimp only at h
      obtain ⟨g, c, sz, _, hv⟩ := h
      exact one h' (by rw [hv]; rfl) (by simpa using hs.symm) rfl
    · cases hs
  | elt t i o =>
    have h' := h
    simp only [AV.cells] at hs
    simp only [RepV] at h
    split at hs
    · rename_i xs hm
      rw [hm] at h
      dsimp only at h
      obtain ⟨g, c, sz, _, hv, _⟩ := h
      exact one h' (by rw [hv]; rfl) (by simpa using hs.symm) rfl
    · cases hs
  | tup xs => simp [AV.cells] at hs
  | agg xs =>
    simp only [AV.cells] at hs
    split at hs
    · rename_i hl
      simp only [Option.some.injEq] at hs; subst hs
      simp only [RepV] at h
      obtain ⟨ds, rfl, h⟩ := h
      exact ⟨h, fun _ y hy => RepVL.live_one hl h y (by simpa [Value.cells] using hy)⟩
    · cases hs
  | sl t n =>
    have h' := h
    simp only [AV.cells] at hs
    simp only [RepV] at h
    split at hs
    · rename_i xs hm
      rw [hm] at h
      dsimp only at h
      obtain ⟨g, c, sz, _, hv⟩ := h
      exact one h' (by rw [hv]; rfl) (by simpa using hs.symm) rfl
    · cases hs
  | fnv f caps =>
    simp only [AV.cells, Option.some.injEq] at hs
    have h' := h
    simp only [RepV] at h; obtain ⟨ds, hv, h⟩ := h
    exact one h' (by rw [hv]; rfl) hs.symm rfl
end

/-- Cells from a place on. -/
def setAt {α : Type} (cs : List α) (off : Nat) (ys : List α) : List α := cs.take off ++ ys ++ cs.drop (off + ys.length)
theorem setAt_length {α : Type} (cs : List α) (off : Nat) (ys : List α) (h : off + ys.length ≤ cs.length) : (setAt cs off ys).length = cs.length := by
  simp [setAt]; omega
theorem RepVL.append {w : World} {E : Env} {m : Mem} : ∀ {xs ys : List AV} {vs us : List Value}, RepVL w E m xs vs → RepVL w E m ys us → RepVL w E m (xs ++ ys) (vs ++ us)
  | [], ys, vs, us, h, k => by simp only [RepVL] at h; subst h; exact k
  | x :: xs, ys, vs, us, h, k => by
    simp only [RepVL] at h
    obtain ⟨v, vs', rfl, hx, hs⟩ := h
    exact RepVL.cons hx (hs.append k)
theorem RepVL.take {w : World} {E : Env} {m : Mem} {xs : List AV} {vs : List Value} (h : RepVL w E m xs vs) (n : Nat) : RepVL w E m (xs.take n) (vs.take n) :=
  RepVL.of (by simp [h.len]) fun i x v hx hv => by
    rw [List.getElem?_take] at hx hv
    split at hx
    · rw [if_pos ‹_›] at hv; exact h.get i x v hx hv
    · cases hx
theorem RepVL.drop {w : World} {E : Env} {m : Mem} {xs : List AV} {vs : List Value} (h : RepVL w E m xs vs) (n : Nat) : RepVL w E m (xs.drop n) (vs.drop n) :=
  RepVL.of (by simp [h.len]) fun i x v hx hv => by
    rw [List.getElem?_drop] at hx hv
    exact h.get _ x v hx hv
theorem RepVL.setAt {w : World} {E : Env} {m : Mem} {xs ys : List AV} {vs us : List Value} (h : RepVL w E m xs vs) (k : RepVL w E m ys us) (off : Nat) : RepVL w E m (setAt xs off ys) (setAt vs off us) := by
  unfold Ab.setAt
  rw [← k.len]
  exact ((h.take off).append k).append (h.drop _)
theorem RepL.setAt {w : World} {ok : Nat → Prop} {xs ys : List SV} {vs us : List Value} (h : RepL w ok xs vs) (k : RepL w ok ys us) (off : Nat) : RepL w ok (setAt xs off ys) (setAt vs off us) := by
  unfold Ab.setAt
  rw [← k.len]
  exact ((h.take off).append k).append (h.drop _)
end Go.Proofs.YtfcojlagmmgagaaDoor.Ab
