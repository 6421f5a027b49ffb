/- The abstract layer, part G: slices that are made, grown, cut; what is built. -/
import Derived.Test.YtfcojlagmmgagaaDoorAbF
import Derived.Great.BuildSlice
namespace Go.Proofs.YtfcojlagmmgagaaDoor.Ab
open Go.RowKit
set_option linter.unusedVariables false
set_option linter.unusedSimpArgs false

/-- An element that is a zero value. -/
def zeroSV (z : Value) : SV := match z with
  | .agg cs => .agg (cs.toList.map svC)
  | v => svC v
theorem zeroSV_rep (w : World) (ok : Nat → Prop) (z : Value) : RepS w ok (zeroSV z) z := by
  unfold zeroSV
  split
  · rename_i cs; simp only [RepS]; exact ⟨cs, rfl, svC_repL _ _ _⟩
  · exact svC_rep _ _ _

section
variable {P : Program} {o : Oper} {st : St} {d : Nat} {e ty : TypeId} {x y : Operand} {X Y : AV}

/-- A new row for a tag that nobody holds; the temporary holds it. -/
theorem row_new {keep : Nat → Prop} {w w' : World} {E : Env} {a : Act} (hI : Inv keep w E st a) (hf : st.fresh d = true) (hn : d < st.n) (xs : List SV) (vs : List Value) (c sz : Nat) (cur : Array Value)
    (hsz : w'.heap.size = w.heap.size + 1) (hold : ∀ i, i < w.heap.size → w'.heap[i]? = w.heap[i]?) (hnew : w'.heap[w.heap.size]? = some (.cells cur e (0, 0)))
    (hr : RepL w E.ok xs vs) (h0 : 0 < sz) (h3 : xs = [] → c = 0) (h4 : xs.length ≤ c) (h5 : c ≤ maxLen) (h6 : cur.size = c * sz)
    (h8 : ∀ (i : Nat) (u : Value), vs[i]? = some u → u.cells.size = sz ∧ (∀ y ∈ u.cells, y.oneCell' = true) ∧ ∀ (j : Nat) (y : Value), u.cells[j]? = some y → cur[i * sz + j]? = some y) :
    Inv keep w' (E.set d (some (w.heap.size, c, sz))) { st with t := up st.t d (.own d), m := up st.m d (.row sz xs) } (a.put (some d) (.slice (some ⟨w.heap.size, 0, none⟩) xs.length c)) := by
  have hok : ∀ b, E.ok b → (E.set d (some (w.heap.size, c, sz))).ok b ∧ w'.heap[b]? = w.heap[b]? := fun b hb => ⟨hb, hold b (hI.okl b hb)⟩
  have h1 := hI.new (w' := w') (t := d) (o := .row sz xs) hf hsz hold c sz ⟨h0, .inr ⟨w.heap.size, c, e, cur, vs, by simp [Env.set], hnew, h3, h4, h5, h6, hr.keep hok, h8⟩⟩
  exact h1.put (dst := some d) (x := .own d) (by simpa [St.fitsDst] using hn) (by
    simp only [RepV]
    rw [lk_up, if_pos rfl]
    simp [Env.set])

/-- The cells of values, one behind the other. -/
theorem flat_get {sz : Nat} : ∀ (vs : List Value), (∀ u ∈ vs, u.cells.size = sz) → ∀ (i : Nat) (u : Value), vs[i]? = some u → ∀ (j : Nat) (y : Value), u.cells[j]? = some y → (vs.flatMap (fun v => v.cells.toList))[i * sz + j]? = some y
  | [], _, i, u, hu, _, _, _ => by simp at hu
  | v :: vs, hs, i, u, hu, j, y, hy => by
    have hv := hs v List.mem_cons_self
    cases i with
    | zero =>
      simp only [List.getElem?_cons_zero, Option.some.injEq] at hu; subst hu
      have hj := (Array.getElem?_eq_some_iff.1 hy).1
      simp only [List.flatMap_cons, Nat.zero_mul, Nat.zero_add]
      rw [List.getElem?_append_left (by simpa using hj)]
      simpa using hy
    | succ i =>
      simp only [List.getElem?_cons_succ] at hu
      simp only [List.flatMap_cons]
      rw [List.getElem?_append_right (by simp [hv, Nat.add_mul]; omega)]
      have := flat_get vs (fun u hu => hs u (List.mem_cons_of_mem _ hu)) i u hu j y hy
      rw [← this]
      congr 1
      simp [hv, Nat.add_mul]; omega
theorem flat_len {sz : Nat} : ∀ (vs : List Value), (∀ u ∈ vs, u.cells.size = sz) → (vs.flatMap (fun v => v.cells.toList)).length = vs.length * sz
  | [], _ => by simp
  | v :: vs, hs => by
    simp only [List.flatMap_cons, List.length_append, Array.length_toList, hs v List.mem_cons_self, flat_len vs (fun u hu => hs u (List.mem_cons_of_mem _ hu)), List.length_cons, Nat.add_mul]
    omega

/-- Elements that may lie in a row. -/
theorem fits_rep {w : World} {ok : Nat → Prop} {sz : Nat} {x : SV} {v : Value} (hf : x.fits sz = true) (h : RepS w ok x v) : v.cells.size = sz ∧ ∀ y ∈ v.cells, y.oneCell' = true := by
  simp only [SV.fits, Bool.and_eq_true, beq_iff_eq] at hf
  have hs : x.solid = true := by
    cases x <;> simp_all [SV.cells, SV.one, SV.solid]
  have hc := RepS.cells hs h
  have hl := hc.len
  simp only [Array.length_toList] at hl
  exact ⟨by omega, fun y hy => RepL.oneCell hf.2 hc y (by simpa using hy)⟩
theorem fits_repL {w : World} {ok : Nat → Prop} {sz : Nat} {xs : List SV} {vs : List Value} (hf : ∀ x ∈ xs, x.fits sz = true) (h : RepL w ok xs vs) : ∀ u ∈ vs, u.cells.size = sz ∧ ∀ y ∈ u.cells, y.oneCell' = true := by
  intro u hu
  obtain ⟨i, hi⟩ := List.getElem?_of_mem hu
  have hlt : i < xs.length := by rw [h.len]; exact (List.getElem?_eq_some_iff.1 hi).1
  exact fits_rep (hf _ (List.getElem_mem hlt)) (h.get i _ _ (List.getElem?_eq_getElem hlt) hi)

theorem made_get (z : Array Value) (n j : Nat) (h : j < n) : (madeCells z n)[j]? = some (z[j % z.size]!) := by
  unfold madeCells
  rw [Array.getElem?_map, Array.getElem?_range, if_pos h]
  rfl

theorem does_make {k k' : IntKind} {n : Int} (ho : o.op = .makeSlice ty x y) (hd : o.dst = some d) (hf : st.fresh d = true) (hn : d < st.n) (hx : aval st x = some (.sv (.val (.int k n)))) (hy : aval st y = some (.sv (.val (.int k' n))))
    (he : selem P ty = some e) {z : Value} (hz : tzero P e = some z) (h0 : 0 ≤ n) (hm : n.toNat * (tby P e + 1) ≤ 140737488355328) (hfit : (zeroSV z).fits (tsz P e) = true) (hp : tsz P e ≠ 0) :
    Does P o st { st with t := up st.t d (.own d), m := up st.m d (.row (tsz P e) (List.replicate n.toNat (zeroSV z))) } := by
  intro keep w E a hI
  obtain ⟨hu, hi⟩ := selem_eq he
  obtain ⟨i, hi⟩ := Option.isSome_iff_exists.1 hi
  have hz' : i.zero = some z := by simpa [tzero, hi] using hz
  have hsz : i.size = tsz P e := by simp [tsz, Program.cellsOf, hi]
  have hby : i.bytes = tby P e := by simp [tby, Program.bytesOf, hi]
  have rx := (aval_rep hI hx).val
  have ry := (aval_rep hI hy).val
  rw [Nat.mul_add, Nat.mul_one] at hm
  have hrun := run_make (P := P) w ty e i z hu hi hz' k k' n n h0 (Int.le_refl _) (by
    rw [hby]
    have : ((n.toNat * tby P e : Nat) : Int) ≤ 140737488355328 := by omega
    rw [Int.natCast_mul, Int.toNat_of_nonneg h0, Int.mul_comm] at this
    omega) (by omega)
  obtain ⟨f1, f2⟩ := fits_rep hfit (zeroSV_rep w E.ok z)
  refine ⟨.slice (some ⟨w.heap.size, 0, none⟩) n.toNat n.toNat, w.alloc (.cells (madeCells z.cells (n.toNat * i.size)) e), E.set d (some (w.heap.size, n.toNat, tsz P e)), .inl ?_, ?_, Evo.grow hI ⟨rfl, rfl, rfl⟩ (by simp) (fun j hj => Go.heap_alloc_old w _ hj) rfl (Env.set_pin (St.fresh_pin hf))⟩
  · unfold execOp
    rw [ho]
    simp only [rx, ry]
    rw [Sem.run_bind, hrun]
    rfl
  · rw [hd]
    have h := row_new (e := e) (w' := w.alloc (.cells (madeCells z.cells (n.toNat * i.size)) e)) hI hf hn (List.replicate n.toNat (zeroSV z)) (List.replicate n.toNat z) n.toNat (tsz P e) (madeCells z.cells (n.toNat * i.size)) (by simp) (fun i hi => Go.heap_alloc_old w _ hi) (Go.heap_alloc_new w _)
      (RepL.replicate _ (zeroSV_rep w E.ok z)) (by omega) (fun h9 => by simpa using h9) (by simp) (by simp only [maxLen]; omega) (by rw [size_madeCells, hsz]) (fun j u hu => by
        rw [List.getElem?_replicate] at hu
        split at hu
        case isFalse => cases hu
        rename_i hj
        simp only [Option.some.injEq] at hu; subst hu
        refine ⟨f1, f2, fun k y hk => ?_⟩
        have hklt : k < tsz P e := by rw [← f1]; exact (Array.getElem?_eq_some_iff.1 hk).1
        have hjm : (j + 1) * tsz P e ≤ n.toNat * tsz P e := Nat.mul_le_mul_right _ hj
        rw [Nat.add_mul, Nat.one_mul] at hjm
        rw [made_get _ _ _ (by rw [hsz]; omega), f1, Nat.add_comm, Nat.add_mul_mod_self_right, Nat.mod_eq_of_lt hklt]
        rw [Array.getElem!_eq_getD, Array.getD_eq_getD_getElem?, hk]; rfl)
    simpa using h

/-! ### Rows that are written out -/
/-- The cells of values. -/
def flat (vs : List Value) : List Value := vs.flatMap (fun v => v.cells.toList)
theorem flat_set {sz : Nat} : ∀ (vs : List Value) (i : Nat) (v : Value), (∀ u ∈ vs, u.cells.size = sz) → v.cells.size = sz → i < vs.length → setAt (flat vs) (i * sz) v.cells.toList = flat (vs.set i v)
  | [], i, v, _, _, h => by simp at h
  | u :: vs, 0, v, hs, hv, _ => by
    have hu := hs u List.mem_cons_self
    simp only [flat, setAt, List.flatMap_cons, Nat.zero_mul, List.take_zero, List.nil_append, List.set_cons_zero, Nat.zero_add, Array.length_toList, hv]
    congr 1
    rw [List.drop_append_of_le_length (by simp [hu]), List.drop_of_length_le (by simp [hu])]
    rfl
  | u :: vs, i + 1, v, hs, hv, h => by
    have hu := hs u List.mem_cons_self
    have ih := flat_set vs i v (fun z hz => hs z (List.mem_cons_of_mem _ hz)) hv (by simpa using h)
    simp only [flat, List.flatMap_cons, List.set_cons_succ] at ih ⊢
    rw [← ih]
    simp only [setAt, Array.length_toList, hv, Nat.add_mul, Nat.one_mul]
    rw [List.take_append, List.take_of_length_le (by simp [hu]), List.drop_append, List.drop_of_length_le (by simp [hu])]
    simp only [Array.length_toList, hu, List.nil_append, List.append_assoc]
    rw [show i * sz + sz - sz = i * sz by omega, show i * sz + sz + sz - sz = i * sz + sz by omega]
theorem flat_append (vs us : List Value) : flat (vs ++ us) = flat vs ++ flat us := by simp [flat]

theorem fold_set (off : Nat) : ∀ (l : List Value) (k : Nat) (cells : Array Value), off + k + l.length ≤ cells.size → ((l.zipIdx k).foldl (fun cs p => cs.setIfInBounds (off + p.2) p.1) cells).toList = setAt cells.toList (off + k) l
  | [], k, cells, _ => by simp [setAt]
  | v :: l, k, cells, h => by
    simp only [List.zipIdx_cons, List.foldl_cons, List.length_cons] at h ⊢
    rw [fold_set off l (k + 1) _ (by simp; omega)]
    simp only [Array.toList_setIfInBounds]
    refine List.ext_getElem? fun i => ?_
    rw [setAt_get _ _ _ _ (by simp; omega), setAt_get _ _ _ _ (by simp; omega), List.getElem?_set]
    simp only [List.length_cons]
    by_cases c1 : i < off + k
    · rw [if_pos (by omega), if_pos c1, if_neg (by omega)]
    · rw [if_neg c1]
      by_cases c2 : i = off + k
      · subst c2
        rw [if_pos (by omega), if_pos rfl, if_pos (by simp; omega), if_pos (by omega)]
        simp
      · rw [if_neg (by omega)]
        by_cases c3 : i < off + k + (l.length + 1)
        · rw [if_pos (by omega), if_pos (by omega), show i - (off + k) = (i - (off + (k + 1))) + 1 by omega]
          simp
        · rw [if_neg (by omega), if_neg (by omega), if_neg (by omega)]
theorem fill_step (place : Nat → Option (Nat × Nat)) (cells : Array Value) (i : Nat) (v : Value) (rest : List (Nat × Value)) (off size : Nat) (hp : place i = some (off, size)) (hs : v.cells.size = size) (hfit : off + size ≤ cells.size) :
    Instr.fill place cells ((i, v) :: rest) = Instr.fill place (setAt cells.toList off v.cells.toList).toArray rest := by
  have h := fold_set off v.cells.toList 0 cells (by simp; omega)
  simp only [Nat.add_zero] at h
  have h2 : (v.cells.zipIdx.foldl (fun cs (p : Value × Nat) => cs.setIfInBounds (off + p.2) p.1) cells) = (setAt cells.toList off v.cells.toList).toArray := by
    apply Array.ext'
    rw [← h, ← Array.foldl_toList, Array.toList_zipIdx]
  simp only [Instr.fill, hp]
  rw [if_neg (by simp; omega)]
  congr 1

/-- An element: nothing that is owned. -/
def AV.elem : AV → Option SV
  | .sv x => some x
  | .nil => some (.lst [])
  | _ => none
theorem elem_rep {w : World} {E : Env} {m : Mem} {z : SV} {v : Value} (h : X.elem = some z) (hr : RepV w E m X v) : RepS w E.ok z v := by
  cases X <;> simp [AV.elem] at h
  · subst h; simpa only [RepV] using hr
  · subst h; simp only [RepV] at hr; subst hr; simp [RepS]

/-- A row, its parts laid in. -/
def aparts (st : St) (sz : Nat) : List SV → List (Nat × Operand) → Option (List SV)
  | xs, [] => some xs
  | xs, (i, x) :: rest => match (aval st x).bind AV.elem with
    | some z => if z.fits sz = true ∧ i < xs.length then aparts st sz (xs.set i z) rest else none
    | none => none
theorem parts_run {keep : Nat → Prop} {w : World} {E : Env} {a : Act} (hI : Inv keep w E st a) {sz : Nat} : ∀ (l : List (Nat × Operand)) {xs ys : List SV} {vs : List Value}, aparts st sz xs l = some ys → RepL w E.ok xs vs → (∀ x ∈ xs, x.fits sz = true) →
    ∃ us, Instr.fill (fun i => some (i * sz, sz)) (flat vs).toArray (l.map fun p => (p.1, a.eval p.2)) = some (flat us).toArray ∧ RepL w E.ok ys us ∧ (∀ y ∈ ys, y.fits sz = true) ∧ ys.length = xs.length
  | [], xs, ys, vs, h, hr, hf => by
    simp only [aparts, Option.some.injEq] at h; subst h
    exact ⟨vs, by simp [Instr.fill], hr, hf, rfl⟩
  | (i, x) :: rest, xs, ys, vs, h, hr, hf => by
    simp only [aparts] at h
    split at h
    case h_2 => cases h
    rename_i z hz
    split at h
    case isFalse => cases h
    rename_i hc
    obtain ⟨X, hX, hz⟩ := Option.bind_eq_some_iff.1 hz
    have hrz := elem_rep hz (aval_rep hI hX)
    obtain ⟨hfz, hi⟩ := hc
    obtain ⟨f1, f2⟩ := fits_rep hfz hrz
    have hvs : ∀ u ∈ vs, u.cells.size = sz := fun u hu => (fits_repL hf hr u hu).1
    have hlen := hr.len
    have hm : (i + 1) * sz ≤ vs.length * sz := Nat.mul_le_mul_right _ (by omega)
    rw [Nat.add_mul, Nat.one_mul] at hm
    obtain ⟨us, h1, h2, h3, h4⟩ := parts_run hI rest h (hr.set i hrz) (fun x hx => by
      rcases List.mem_or_eq_of_mem_set hx with hx | rfl
      · exact hf x hx
      · exact hfz)
    refine ⟨us, ?_, h2, h3, by rw [h4]; simp⟩
    rw [List.map_cons, fill_step (off := i * sz) (size := sz) (hp := rfl) (hs := f1) (hfit := by simp [flat, flat_len vs hvs]; omega)]
    rw [← h1, ← flat_set vs i (a.eval x) hvs f1 (by omega)]

theorem flat_made (z : Value) (n sz : Nat) (hs : z.cells.size = sz) (hp : 0 < sz) : flat (List.replicate n z) = (madeCells z.cells (n * sz)).toList := by
  have hall : ∀ u ∈ List.replicate n z, u.cells.size = sz := fun u hu => by rw [(List.mem_replicate.1 hu).2]; exact hs
  have hl := flat_len _ hall
  refine List.ext_getElem? fun j => ?_
  rw [List.length_replicate] at hl
  by_cases hj : j < n * sz
  · have hd : j = (j / sz) * sz + j % sz := by rw [Nat.mul_comm]; exact (Nat.div_add_mod j sz).symm
    have hq : j / sz < n := by rw [Nat.div_lt_iff_lt_mul hp]; exact hj
    have hr := Nat.mod_lt j hp
    obtain ⟨y, hy⟩ : ∃ y, z.cells[j % sz]? = some y := ⟨_, Array.getElem?_eq_getElem (by omega)⟩
    have h1 := flat_get (List.replicate n z) hall (j / sz) z (by rw [List.getElem?_replicate, if_pos hq]) (j % sz) y hy
    rw [← hd] at h1
    rw [show (flat (List.replicate n z))[j]? = some y from h1, Array.getElem?_toList, made_get _ _ _ hj, hs]
    rw [Array.getElem!_eq_getD, Array.getD_eq_getD_getElem?, hy]; rfl
  · rw [List.getElem?_eq_none (by show _ ≥ _; unfold flat; omega), List.getElem?_eq_none (by simp [size_madeCells]; omega)]

theorem does_buildSlice {len : Nat} {ps : Array (Nat × Operand)} {xs : List SV} (ho : o.op = .buildSlice ty len ps) (hd : o.dst = some d) (hf : st.fresh d = true) (hn : d < st.n) (he : selem P ty = some e) {z : Value} (hz : tzero P e = some z)
    (hfit : (zeroSV z).fits (tsz P e) = true) (hp : tsz P e ≠ 0) (hl : len ≠ 0) (hm : len * tsz P e ≤ 65536) (hxs : aparts st (tsz P e) (List.replicate len (zeroSV z)) ps.toList = some xs) :
    Does P o st { st with t := up st.t d (.own d), m := up st.m d (.row (tsz P e) xs) } := by
  intro keep w E a hI
  obtain ⟨hu, hi⟩ := selem_eq he
  obtain ⟨i, hi⟩ := Option.isSome_iff_exists.1 hi
  have hz' : i.zero = some z := by simpa [tzero, hi] using hz
  have hsz : i.size = tsz P e := by simp [tsz, Program.cellsOf, hi]
  obtain ⟨f1, f2⟩ := fits_rep hfit (zeroSV_rep w E.ok z)
  obtain ⟨us, h1, h2, h3, h4⟩ := parts_run hI ps.toList hxs (RepL.replicate len (zeroSV_rep w E.ok z)) (fun x hx => by rw [(List.mem_replicate.1 hx).2]; exact hfit)
  have hlen2 := h2.len
  rw [List.length_replicate] at h4
  have husz : ∀ u ∈ us, u.cells.size = tsz P e := fun u hu => (fits_repL h3 h2 u hu).1
  have hpos : 0 < len * tsz P e := Nat.mul_pos (by omega) (by omega)
  have hll : len ≤ len * tsz P e := Nat.le_mul_of_pos_right _ (by omega)
  have hrun := run_buildSlice (P := P) w ty e len (ps.map fun (i, x) => (i, a.eval x)) (flat us).toArray i z hu hi hz' (by rw [hsz]; omega) (by rw [hsz]; omega) (by
    rw [hsz, ← h1, Array.toList_map, flat_made z len (tsz P e) f1 (by omega)]
    rfl)
  refine ⟨.slice (some ⟨w.heap.size, 0, none⟩) len len, w.alloc (.cells (flat us).toArray e), E.set d (some (w.heap.size, len, tsz P e)), .inl ?_, ?_, Evo.grow hI ⟨rfl, rfl, rfl⟩ (by simp) (fun j hj => Go.heap_alloc_old w _ hj) rfl (Env.set_pin (St.fresh_pin hf))⟩
  · unfold execOp
    rw [ho]
    dsimp only
    rw [Sem.run_bind, hrun]
    rfl
  · rw [hd]
    have h := row_new (e := e) (w' := w.alloc (.cells (flat us).toArray e)) hI hf hn xs us len (tsz P e) (flat us).toArray (by simp) (fun i hi => Go.heap_alloc_old w _ hi) (Go.heap_alloc_new w _)
      h2 (by omega) (fun h9 => by rw [h9] at h4; simp at h4; omega) (by omega) (by simp only [maxLen]; omega) (by rw [List.size_toArray]; unfold flat; rw [flat_len us husz]; congr 1; omega) (fun j u hu => by
        refine ⟨husz u (List.mem_of_getElem? hu), (fits_repL h3 h2 u (List.mem_of_getElem? hu)).2, fun k y hk => ?_⟩
        rw [List.getElem?_toArray]
        exact flat_get us husz j u hu k y hk)
    rw [h4] at h
    exact h

/-! ### Values that are built -/
def acells : SV → Option (List SV) := fun x => if x.solid = true then some x.cells else none
def afill (st : St) (place : Nat → Option (Nat × Nat)) : List SV → List (Nat × Operand) → Option (List SV)
  | xs, [] => some xs
  | xs, (i, x) :: rest => match place i, ((aval st x).bind AV.elem).bind acells with
    | some (off, size), some zs => if zs.length = size ∧ off + size ≤ xs.length then afill st place (setAt xs off zs) rest else none
    | _, _ => none
theorem fill_run {keep : Nat → Prop} {w : World} {E : Env} {a : Act} (hI : Inv keep w E st a) {place : Nat → Option (Nat × Nat)} : ∀ (l : List (Nat × Operand)) {xs ys : List SV} {vs : Array Value}, afill st place xs l = some ys → RepL w E.ok xs vs.toList →
    ∃ us, Instr.fill place vs (l.map fun p => (p.1, a.eval p.2)) = some us ∧ RepL w E.ok ys us.toList
  | [], xs, ys, vs, h, hr => by
    simp only [afill, Option.some.injEq] at h; subst h
    exact ⟨vs, by simp [Instr.fill], hr⟩
  | (i, x) :: rest, xs, ys, vs, h, hr => by
    simp only [afill] at h
    split at h
    case h_2 => cases h
    rename_i off size zs hp hz
    split at h
    case isFalse => cases h
    rename_i hc
    obtain ⟨z, hz1, hz2⟩ := Option.bind_eq_some_iff.1 hz
    obtain ⟨X, hX, hz1⟩ := Option.bind_eq_some_iff.1 hz1
    unfold acells at hz2
    split at hz2
    case isFalse => cases hz2
    rename_i hsol
    simp only [Option.some.injEq] at hz2; subst hz2
    have hrz := RepS.cells hsol (elem_rep hz1 (aval_rep hI hX))
    have hl1 := hrz.len
    have hl2 := hr.len
    simp only [Array.length_toList] at hl1 hl2
    obtain ⟨us, h1, h2⟩ := fill_run hI rest (vs := (setAt vs.toList off (a.eval x).cells.toList).toArray) h (by simpa using hr.setAt hrz off)
    refine ⟨us, ?_, h2⟩
    exact (fill_step place vs i (a.eval x) _ off size hp (by omega) (by omega)).trans h1
def splaces (P : Program) (t : TypeId) : Option (List (Nat × Nat)) := match P.underlying t with
  | some (.struct fs) => fs.toList.mapM (fun f => (P.info? f.type).map fun i => (f.offset, i.size))
  | _ => none
theorem does_build {ps : Array (Nat × Operand)} {xs : List SV} {pl : List (Nat × Nat)} (ho : o.op = .build ty ps) {z : Value} (hz : tzero P ty = some z) (hpl : splaces P ty = some pl) (hxs : afill st (fun i => pl[i]?) (z.cells.toList.map svC) ps.toList = some xs)
    (hd : st.fitsDst o.dst = true) : Does P o st (st.put o.dst (.sv (.agg xs))) := by
  refine Does.puts hd fun keep w E a hI => ?_
  obtain ⟨us, h1, h2⟩ := fill_run hI ps.toList (vs := z.cells) hxs (svC_repL w E.ok _)
  refine ⟨.agg us, ?_, by simp only [RepV, RepS]; exact ⟨us, rfl, h2⟩⟩
  unfold splaces at hpl
  split at hpl
  case h_2 => cases hpl
  rename_i fs hu
  unfold execOp
  rw [ho]
  dsimp only
  have hplaces := run_places (P := P) w fs.toList pl hpl
  simp [Instr.build, run_underlying hu, run_zeroValue hz, Array.mapM_eq_mapM_toList, hplaces, h1]
end
end Go.Proofs.YtfcojlagmmgagaaDoor.Ab
