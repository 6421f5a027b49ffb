/- The abstract layer, part D: boxes, loads, stores, fields, places of elements. -/
import Derived.Test.YtfcojlagmmgagaaDoorAbC
namespace Go.Proofs.YtfcojlagmmgagaaDoor.Ab
open Go.RowKit
set_option linter.unusedVariables false
set_option linter.unusedSimpArgs false
section
variable {P : Program} {o : Oper} {st : St} {d : Nat} {e ty : TypeId} {x y : Operand} {X Y : AV}

theorem aval_held {t : Nat} (hx : aval st x = some X) (h : X.holds t = true) : st.held t = true := by
  cases x with
  | tmp d =>
    cases hh : st.held t with
    | true => rfl
    | false => rw [held_t hh hx] at h; cases h
  | const v =>
    simp only [aval, Option.some.injEq] at hx
    subst hx
    unfold avC at h
    split at h <;> simp [AV.holds] at h
  | func f => simp only [aval, Option.some.injEq] at hx; subst hx; simp [AV.holds] at h
  | global g =>
    simp only [aval] at hx
    obtain ⟨x, _, rfl⟩ := Option.map_eq_some_iff.1 hx
    simp [AV.holds] at h
theorem fresh_ne {t s : Nat} (hf : st.fresh t = true) (hs : st.held s = true) : s ≠ t := by
  rintro rfl
  simp only [St.fresh, Bool.and_eq_true, Bool.not_eq_true'] at hf
  rw [hf.2.1] at hs; cases hs

/-- A box of so many cells. -/
theorem box_new {keep : Nat → Prop} {w : World} {E : Env} {a : Act} (hI : Inv keep w E st a) (hf : st.fresh d = true) (hn : d < st.n) (cs : List AV) (vs : Array Value) (hr : RepVL w E (lk st.m) cs vs.toList)
    (hh : ∀ t, AV.holdsL t cs = true → t ≠ d) : Inv keep (w.alloc (.cells vs e)) (E.set d (some (w.heap.size, 0, 0))) { st with t := up st.t d (.box d 0), m := up st.m d (.box cs) } (a.put (some d) (.pointer (some ⟨w.heap.size, 0, none⟩))) := by
  have hsz : (w.alloc (.cells vs e)).heap.size = w.heap.size + 1 := by simp
  have hold : ∀ i, i < w.heap.size → (w.alloc (.cells vs e)).heap[i]? = w.heap[i]? := fun i hi => Go.heap_alloc_old w _ hi
  have h1 := hI.new (w' := w.alloc (.cells vs e)) (t := d) (o := .box cs) hf hsz hold 0 0 ⟨w.heap.size, 0, 0, e, vs, by simp [Env.set], Go.heap_alloc_new w _, hr.keep (E := E) (m := lk st.m) (E' := E.set d (some (w.heap.size, 0, 0))) (m' := lk (up st.m d (.box cs))) (fun b hb => ⟨hb, hold b (hI.okl b hb)⟩) (fun t ht => by
    have hne := hh t ht
    rw [lk_up, if_neg (Ne.symm hne), show (E.set d (some (w.heap.size, 0, 0))).at_ t = E.at_ t by simp [Env.set, hne]]
    exact same_tags E (lk st.m) t)⟩
  have h2 := h1.put (dst := some d) (x := .box d 0) (v := .pointer (some ⟨w.heap.size, 0, none⟩)) (by simpa [St.fitsDst] using hn) (by
    simp only [RepV]
    rw [lk_up, if_pos rfl]
    exact ⟨w.heap.size, 0, 0, by simp [Env.set], rfl⟩)
  exact h2

theorem does_alloc (ho : o.op = .alloc e) (hd : o.dst = some d) (hf : st.fresh d = true) (hn : d < st.n) {z : Value} (hz : tzero P e = some z) :
    Does P o st { st with t := up st.t d (.box d 0), m := up st.m d (.box (z.cells.toList.map avC)) } := by
  intro keep w E a hI
  refine ⟨.pointer (some ⟨w.heap.size, 0, none⟩), w.alloc (.cells z.cells e), E.set d (some (w.heap.size, 0, 0)), .inl ?_, ?_, Evo.grow hI ⟨rfl, rfl, rfl⟩ (by simp) (fun i hi => Go.heap_alloc_old w _ hi) rfl (Env.set_pin (St.fresh_pin hf))⟩
  · unfold execOp
    rw [ho]
    simp [Instr.alloc, run_zeroValue hz, newVar, newRow]
  · rw [hd]
    refine box_new hI hf hn _ _ ?_ ?_
    · refine RepVL.of (by simp) fun i X v hX hv => ?_
      rw [List.getElem?_map, hv] at hX
      simp at hX; subst hX
      exact avC_rep _ _ _ _
    · intro t ht
      exfalso
      have : ∀ l : List Value, AV.holdsL t (l.map avC) = false := by
        intro l
        induction l with
        | nil => rfl
        | cons v l ih =>
          simp only [List.map_cons, AV.holdsL, ih, Bool.or_false]
          unfold avC
          split <;> simp [AV.holds]
      rw [this] at ht; cases ht

theorem holdsL_sv (t : Nat) : ∀ l : List SV, AV.holdsL t (l.map AV.sv) = false
  | [] => rfl
  | x :: l => by simp only [List.map_cons, AV.holdsL, holdsL_sv t l, AV.holds, Bool.or_false]
theorem cells_holds {m : Mem} {cs : List AV} {t : Nat} (h : X.cells m = some cs) (ht : AV.holdsL t cs = true) : X.holds t = true := by
  have one : cs = [X] → X.holds t = true := fun e => by subst e; simpa [AV.holdsL] using ht
  cases X with
  | sv x =>
    simp only [AV.cells] at h
    split at h
    · simp only [Option.some.injEq] at h; subst h; rw [holdsL_sv] at ht; cases ht
    · cases h
  | tup xs => simp [AV.cells] at h
  | agg xs =>
    simp only [AV.cells] at h
    split at h
    · simp only [Option.some.injEq] at h; subst h; simpa only [AV.holds] using ht
    · cases h
  | sl s n => simp only [AV.cells] at h; split at h <;> first | exact one (by simpa using h.symm) | cases h
  | nil => exact one (by simpa [AV.cells] using h.symm)
  | fnv f caps => exact one (by simpa [AV.cells] using h.symm)
  | own s => simp only [AV.cells] at h; split at h <;> first | exact one (by simpa using h.symm) | cases h
  | box s off => simp only [AV.cells] at h; split at h <;> first | exact one (by simpa using h.symm) | cases h
  | elt s i off => simp only [AV.cells] at h; split at h <;> first | exact one (by simpa using h.symm) | cases h

theorem does_box (ho : o.op = .box e x) (hd : o.dst = some d) (hf : st.fresh d = true) (hn : d < st.n) (hx : aval st x = some X) {cs : List AV} (hc : X.cells (lk st.m) = some cs) :
    Does P o st { st with t := up st.t d (.box d 0), m := up st.m d (.box cs) } := by
  intro keep w E a hI
  refine ⟨.pointer (some ⟨w.heap.size, 0, none⟩), w.alloc (.cells (a.eval x).cells e), E.set d (some (w.heap.size, 0, 0)), .inl ?_, ?_, Evo.grow hI ⟨rfl, rfl, rfl⟩ (by simp) (fun i hi => Go.heap_alloc_old w _ hi) rfl (Env.set_pin (St.fresh_pin hf))⟩
  · unfold execOp
    rw [ho]
    simp [Instr.box, newVar, newRow]
  · rw [hd]
    exact box_new hI hf hn _ _ ((aval_rep hI hx).cells hc).1 (fun t ht => fresh_ne hf (aval_held hx (cells_holds hc ht)))

/-- What lies from a pointer on. -/
def ptrCells (st : St) : AV → Option (List AV)
  | .box t off => match lk st.m t with
    | some (.box cs) => some (cs.drop off)
    | _ => none
  | .elt t i off => match lk st.m t with
    | some (.row _ xs) => match xs[i]? with
      | some x => if x.solid = true then some ((x.cells.drop off).map .sv) else none
      | none => none
    | _ => none
  | .sv (.ref x off) => if x.solid = true then some ((x.cells.drop off).map .sv) else none
  | _ => none

theorem row_elem {w : World} {E : Env} {m : Mem} {t sz : Nat} {xs : List SV} (h : MemRep w E m t (.row sz xs)) {i : Nat} {x : SV} (hx : xs[i]? = some x) :
    ∃ g c e cur u, 0 < sz ∧ E.at_ t = some (g, c, sz) ∧ w.heap[g]? = some (.cells cur e (0, 0)) ∧ cur.size = c * sz ∧ xs.length ≤ c ∧ RepS w E.ok x u ∧ u.cells.size = sz ∧ (∀ y ∈ u.cells, y.oneCell' = true) ∧ ∀ (j : Nat) (y : Value), u.cells[j]? = some y → cur[i * sz + j]? = some y := by
  obtain ⟨h0, h⟩ := h
  rcases h with ⟨_, rfl⟩ | ⟨g, c, e, cur, vs, h1, h2, h3, h4, h5, h6, h7, h8⟩
  · simp at hx
  · obtain ⟨u, hu, hr⟩ := h7.at hx
    obtain ⟨k1, k2, k3⟩ := h8 i u hu
    exact ⟨g, c, e, cur, u, h0, h1, h2, h6, h4, hr, k1, k2, k3⟩

theorem ptr_rep {keep : Nat → Prop} {w : World} {E : Env} {a : Act} (hI : Inv keep w E st a) {cl : List AV} (hp : ptrCells st X = some cl) {v : Value} (hv : RepV w E (lk st.m) X v) :
    ∃ ad us, v = .pointer (some ad) ∧ RepVL w E (lk st.m) cl us ∧ ∀ (j : Nat) (u : Value), us[j]? = some u → w.cell? (ad.add j) = some u := by
  unfold ptrCells at hp
  split at hp
  · rename_i t off
    split at hp
    · rename_i cs hm
      simp only [Option.some.injEq] at hp; subst hp
      simp only [RepV, hm] at hv
      obtain ⟨g, c, sz, hg, rfl⟩ := hv
      obtain ⟨g', c', sz', e, cur, hg', hh, hr⟩ := hI.mm t _ hm
      rw [hg] at hg'
      simp only [Option.some.injEq, Prod.mk.injEq] at hg'
      obtain ⟨rfl, rfl, rfl⟩ := hg'
      refine ⟨⟨g, off, none⟩, cur.toList.drop off, rfl, hr.drop off, fun j u hu => ?_⟩
      have hadd : (⟨g, off, none⟩ : Addr).add j = ⟨g, off + j, none⟩ := by unfold Addr.add; split <;> simp_all
      rw [hadd, cell_of_row w g _ cur e (0, 0) hh]
      rw [List.getElem?_drop] at hu
      simpa using hu
    · cases hp
  · rename_i t i off
    split at hp
    · rename_i xs hm
      split at hp
      · rename_i x hx
        split at hp
        · rename_i hs
          simp only [Option.some.injEq] at hp; subst hp
          simp only [RepV, hm] at hv
          obtain ⟨g, c, sz, hg, rfl, hi, ho⟩ := hv
          obtain ⟨g', c', e, cur, u, hpos, hg', hh, hcs, hlen, hr, hus, h1, hcur⟩ := row_elem (hI.mm t _ hm) hx
          rw [hg] at hg'
          simp only [Option.some.injEq, Prod.mk.injEq] at hg'
          obtain ⟨rfl, rfl, rfl⟩ := hg'
          refine ⟨⟨g, i * sz + off, none⟩, u.cells.toList.drop off, rfl, RepVL.of_svs ((RepS.cells hs hr).drop off), fun j y hy => ?_⟩
          have hadd : (⟨g, i * sz + off, none⟩ : Addr).add j = ⟨g, i * sz + (off + j), none⟩ := by unfold Addr.add; split <;> simp_all [Nat.add_assoc]
          rw [hadd, cell_of_row w g _ cur e (0, 0) hh]
          rw [List.getElem?_drop] at hy
          exact hcur _ _ (by simpa using hy)
        · cases hp
      · cases hp
    · cases hp
  · rename_i x off
    split at hp
    · rename_i hs
      simp only [Option.some.injEq] at hp; subst hp
      simp only [RepV, RepS] at hv
      obtain ⟨ad, u, rfl, hok, hr, hat⟩ := hv
      refine ⟨ad.add off, u.cells.toList.drop off, rfl, RepVL.of_svs ((RepS.cells hs hr).drop off), fun j y hy => ?_⟩
      rw [Go.Deep.add_add]
      rw [List.getElem?_drop] at hy
      exact hat _ _ (by simpa using hy)
    · cases hp
  · cases hp

/-- A load. -/
def aload (P : Program) (st : St) (ty : TypeId) (X : AV) : Option AV :=
  match ptrCells st X with
  | some cl => if tagg P ty = true then (if tsz P ty ≤ cl.length then (AV.svs (cl.take (tsz P ty))).map fun xs => .sv (.agg xs) else none) else cl.head?
  | none => none
theorem does_load (ho : o.op = .load ty x) (hx : aval st x = some X) (hu : (P.underlying ty).isSome = true) (hl : aload P st ty X = some Y) (hd : st.fitsDst o.dst = true) : Does P o st (st.put o.dst Y) := by
  refine Does.puts hd fun keep w E a hI => ?_
  unfold aload at hl
  split at hl
  · rename_i cl hp
    obtain ⟨ad, us, hv, hr, hc⟩ := ptr_rep hI hp (aval_rep hI hx)
    split at hl
    · rename_i hg
      split at hl
      · rename_i hle
        obtain ⟨xs, hs, rfl⟩ := Option.map_eq_some_iff.1 hl
        have hrt := hr.take (tsz P ty)
        have hlen : (us.take (tsz P ty)).length = tsz P ty := by rw [List.length_take, ← hr.len]; omega
        refine ⟨.agg (us.take (tsz P ty)).toArray, ?_, ?_⟩
        · unfold execOp
          rw [ho]
          simp only [hv, Instr.loadAt, Instr.sureAddr, loadVar]
          have hcells := run_loadCells_list (P := P) w ad (us.take (tsz P ty)) (fun j u hu => hc j u (by rw [List.getElem?_take] at hu; split at hu <;> simp_all))
          rw [hlen] at hcells
          simp [run_isAgg hu, hg, run_sizeOf (info_of_underlying hu), hcells]
        · simp only [RepV, RepS]
          exact ⟨_, rfl, RepVL.svs hs hrt⟩
      · cases hl
    · rename_i hg
      cases cl with
      | nil => simp at hl
      | cons Z cl =>
        simp only [List.head?_cons, Option.some.injEq] at hl
        subst hl
        simp only [RepVL] at hr
        obtain ⟨u, us', rfl, hZ, _⟩ := hr
        refine ⟨u, ?_, hZ⟩
        have h0 := hc 0 u rfl
        have hz : ad.add 0 = ad := by simp [Addr.add]
        rw [hz] at h0
        unfold execOp
        rw [ho]
        simp only [hv, Instr.loadAt, Instr.sureAddr, loadVar]
        simp [run_isAgg hu, hg, load, Sem.run, h0]
  · cases hl
end
end Go.Proofs.YtfcojlagmmgagaaDoor.Ab
