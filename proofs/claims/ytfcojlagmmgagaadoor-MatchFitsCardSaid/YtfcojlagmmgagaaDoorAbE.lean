/- The abstract layer, part E: stores, fields, indices. -/
import Derived.Test.YtfcojlagmmgagaaDoorAbD
namespace Go.Proofs.YtfcojlagmmgagaaDoor.Ab
open Go.RowKit
set_option linter.unusedVariables false
set_option linter.unusedSimpArgs false

theorem setAt_get {α : Type} (cs ys : List α) (o i : Nat) (h : o + ys.length ≤ cs.length) : (setAt cs o ys)[i]? = if i < o then cs[i]? else if i < o + ys.length then ys[i - o]? else cs[i]? := by
  unfold setAt
  split
  · rw [List.getElem?_append_left (by simp; omega), List.getElem?_append_left (by simp; omega), List.getElem?_take, if_pos (by omega)]
  · split
    · rw [List.getElem?_append_left (by simp; omega), List.getElem?_append_right (by simp; omega)]
      congr 1; simp; omega
    · rw [List.getElem?_append_right (by simp; omega), List.getElem?_drop]
      congr 1; simp; omega

def SV.withCells (x : SV) (cs : List SV) : SV := match x with
  | .agg _ => .agg cs
  | _ => cs.headD .any
def vWith (u : Value) (cs : List Value) : Value := match u with
  | .agg _ => .agg cs.toArray
  | _ => cs.headD undef

section
variable {P : Program} {o : Oper} {st : St} {d : Nat} {e ty : TypeId} {x y : Operand} {X Y : AV}

/-- What a store leaves of the memory. -/
def astore (P : Program) (st : St) (ty : TypeId) (X Y : AV) : Option (List (Nat × Obj')) :=
  match Y.cells (lk st.m) with
  | some ys =>
    if (ys.length == tsz P ty && ys.all AV.one) = true then
      match X with
      | .box t off => match lk st.m t with
        | some (.box cs) => if off + ys.length ≤ cs.length then some (up st.m t (.box (setAt cs off ys))) else none
        | _ => none
      | .elt t i off => match lk st.m t with
        | some (.row k xs) => match xs[i]?, AV.svs ys with
          | some x, some zs => if (x.solid && zs.all SV.one) = true ∧ off + zs.length ≤ x.cells.length then some (up st.m t (.row k (xs.set i (x.withCells (setAt x.cells off zs))))) else none
          | _, _ => none
        | _ => none
      | _ => none
    else none
  | none => none

theorem svs_len : ∀ {ys : List AV} {zs : List SV}, AV.svs ys = some zs → ys.length = zs.length
  | [], zs, h => by simp only [AV.svs, Option.some.injEq] at h; subst h; rfl
  | y :: ys, zs, h => by
    cases y <;> simp [AV.svs] at h
    · obtain ⟨l, hl, rfl⟩ := h; simp [svs_len hl]
    · obtain ⟨l, hl, rfl⟩ := h; simp [svs_len hl]

theorem run_storeAt {w : World} {g off : Nat} {v : Value} {cur : Array Value} {e' : TypeId} (hi : (P.info? ty).isSome = true) (hs : v.cells.size = tsz P ty) (h1 : ∀ u ∈ v.cells, u.oneCell' = true)
    (hh : w.heap[g]? = some (.cells cur e' (0, 0))) (hfit : off + v.cells.size ≤ cur.size) :
    (Instr.storeAt ty (.pointer (some ⟨g, off, none⟩)) v).run P w = .ok () (w.setRow g (setAt cur.toList off v.cells.toList).toArray) := by
  have hr := run_storeCells_at P g off e' v.cells.toList 0 cur w hh (by simpa using hfit) (by simpa using h1)
  simp only [Nat.add_zero] at hr
  simp [Instr.storeAt, Instr.sureAddr, storeVar, run_sizeOf hi, hs, hr, setAt]

theorem does_store (ho : o.op = .store ty x y) (hd : o.dst = none) (hx : aval st x = some X) (hy : aval st y = some Y) (hi : (P.info? ty).isSome = true) {l : List (Nat × Obj')} (hl : astore P st ty X Y = some l) :
    Does P o st { st with m := l } := by
  intro keep w E a hI
  have rx := aval_rep hI hx
  have ry := aval_rep hI hy
  unfold astore at hl
  split at hl
  case h_2 => cases hl
  rename_i ys hys
  obtain ⟨hry, h1y⟩ := ry.cells hys
  split at hl
  case isFalse => cases hl
  rename_i hc
  simp only [Bool.and_eq_true, beq_iff_eq] at hc
  obtain ⟨hlen, hone⟩ := hc
  have h1 := h1y hone
  have hvs : (a.eval y).cells.size = tsz P ty := by rw [← hlen, hry.len]; simp
  split at hl
  · rename_i t off
    split at hl
    case h_2 => cases hl
    rename_i cs hm
    split at hl
    case isFalse => cases hl
    rename_i hfit
    simp only [Option.some.injEq] at hl; subst hl
    simp only [RepV, hm] at rx
    obtain ⟨g, c, sz, hg, hv⟩ := rx
    obtain ⟨g', c', sz', e', cur, hg', hh, hr⟩ := hI.mm t _ hm
    rw [hg] at hg'
    simp only [Option.some.injEq, Prod.mk.injEq] at hg'
    obtain ⟨rfl, rfl, rfl⟩ := hg'
    have hcl := hr.len
    have hyl := hry.len
    simp only [Array.length_toList] at hcl hyl
    have hrun := run_storeAt (P := P) (off := off) hi hvs h1 hh (by omega)
    have hheap := setRow_heap w g cur (setAt cur.toList off (a.eval y).cells.toList).toArray e' _ hh
    refine ⟨undef, w.setRow g (setAt cur.toList off (a.eval y).cells.toList).toArray, E, .inr ⟨?_, rfl⟩, ?_, ?_⟩
    · unfold execOp
      rw [ho]
      simp only [hv]
      rw [show (do Instr.storeAt ty (.pointer (some ⟨g, off, none⟩)) (a.eval y); pure Next.skip : Sem Next) = (Instr.storeAt ty (.pointer (some ⟨g, off, none⟩)) (a.eval y) >>= fun _ => pure Next.skip) from rfl, Sem.run_bind, hrun]
      rfl
    · rw [hd]
      refine hI.write hm hg (by simp) (fun i hi => setRow_other w g i _ hi) (.inr ⟨cs, _, rfl, rfl⟩) ⟨g, c, sz, e', _, hg, hheap, ?_⟩
      have hpass : ∀ s, Pass E E (lk st.m) (lk (up st.m t (.box (setAt cs off ys)))) s := fun s => by
        unfold Pass
        rw [lk_up]
        split
        · rename_i hs; subst hs; exact .inr ⟨rfl, .inr ⟨cs, _, hm, rfl⟩⟩
        · exact same_tags E (lk st.m) s
      have hown := hI.own t _ g c sz hm hg
      have hok : ∀ b, E.ok b → E.ok b ∧ (w.setRow g (setAt cur.toList off (a.eval y).cells.toList).toArray).heap[b]? = w.heap[b]? := fun b hb => ⟨hb, setRow_other w g b _ (fun e => hown.2.1 (e ▸ hb))⟩
      simp only [List.toList_toArray]
      exact ((hr.setAt hry off).keep hok (fun s _ => hpass s))
    · exact Evo.write hI hm hg ⟨rfl, rfl, rfl⟩ (by simp) (fun i hi => setRow_other w g i _ hi)
  · rename_i t i off
    split at hl
    case h_2 => cases hl
    rename_i sz0 xs hm
    split at hl
    case h_2 => cases hl
    rename_i x0 zs hxi hzs
    split at hl
    case isFalse => cases hl
    rename_i hcond
    obtain ⟨hsol, hfit⟩ := hcond
    simp only [Bool.and_eq_true] at hsol
    simp only [Option.some.injEq] at hl; subst hl
    simp only [RepV, hm] at rx
    obtain ⟨g, c, sz, hg, hv, hi', hof⟩ := rx
    have hmm := hI.mm t _ hm
    obtain ⟨h0, hmm⟩ := hmm
    rcases hmm with ⟨_, rfl⟩ | ⟨g', c', e', cur, vs, hg', hh, h3, h4, h5, h6, h7, h8⟩
    · simp at hxi
    rw [hg] at hg'
    simp only [Option.some.injEq, Prod.mk.injEq] at hg'
    obtain ⟨rfl, rfl, rfl⟩ := hg'
    obtain ⟨u, hu, hru⟩ := h7.at hxi
    obtain ⟨k1, k2, k3⟩ := h8 i u hu
    have hrz := RepVL.svs hzs hry
    have hcells := RepS.cells hsol.1 hru
    have hcl := hcells.len
    have hzl := hrz.len
    simp only [Array.length_toList] at hcl hzl
    have hic : (i + 1) * sz ≤ c * sz := Nat.mul_le_mul_right _ (by have := (List.getElem?_eq_some_iff.1 hxi).1; omega)
    rw [Nat.add_mul, Nat.one_mul] at hic
    have hrun := run_storeAt (P := P) (off := i * sz + off) hi hvs h1 hh (by omega)
    have hheap := setRow_heap w g cur (setAt cur.toList (i * sz + off) (a.eval y).cells.toList).toArray e' _ hh
    have hpass : ∀ s, Pass E E (lk st.m) (lk (up st.m t (.row sz (xs.set i (x0.withCells (setAt x0.cells off zs)))))) s := fun s => by
      unfold Pass
      rw [lk_up]
      split
      · rename_i hs; subst hs; exact .inr ⟨rfl, .inl ⟨sz, xs, _, hm, rfl, by simp⟩⟩
      · exact same_tags E (lk st.m) s
    have hown := hI.own t _ g c sz hm hg
    have hok : ∀ b, E.ok b → E.ok b ∧ (w.setRow g (setAt cur.toList (i * sz + off) (a.eval y).cells.toList).toArray).heap[b]? = w.heap[b]? := fun b hb => ⟨hb, setRow_other w g b _ (fun e => hown.2.1 (e ▸ hb))⟩
    -- the element's value
    have hnew : ∃ u', RepS w E.ok (x0.withCells (setAt x0.cells off zs)) u' ∧ u'.cells.toList = setAt u.cells.toList off (a.eval y).cells.toList := by
      have hset := hcells.setAt hrz off
      have hlen' : (setAt u.cells.toList off (a.eval y).cells.toList).length = u.cells.toList.length := setAt_length _ _ _ (by simp; omega)
      have single : u.oneCell' = true → x0.cells = [x0] → x0.withCells (setAt x0.cells off zs) = (setAt x0.cells off zs).headD .any → ∃ u', RepS w E.ok (x0.withCells (setAt x0.cells off zs)) u' ∧ u'.cells.toList = setAt u.cells.toList off (a.eval y).cells.toList := by
        intro hu1 hx1 hwc
        rw [hwc]
        rw [cells_one hu1] at hlen' hset ⊢
        obtain ⟨u', hu'⟩ : ∃ u', setAt [u] off (a.eval y).cells.toList = [u'] := by
          simp only [List.length_cons, List.length_nil] at hlen'
          exact List.length_eq_one_iff.1 hlen'
        simp only at hset
        rw [hu'] at hset ⊢
        obtain ⟨z, hz⟩ : ∃ z, setAt x0.cells off zs = [z] := by
          have := hset.len
          exact List.length_eq_one_iff.1 (by simpa using this)
        rw [hz] at hset ⊢
        simp only [RepL] at hset
        obtain ⟨v1, vs1, he, hz1, _⟩ := hset
        simp only [List.cons.injEq] at he
        obtain ⟨rfl, rfl⟩ := he
        refine ⟨u', by simpa using hz1, ?_⟩
        have hone' : u'.oneCell' = true := by
          have hmem : u' ∈ setAt [u] off (a.eval y).cells.toList := by rw [hu']; simp
          simp only [setAt, List.mem_append] at hmem
          rcases hmem with (hmem | hmem) | hmem
          · have := List.mem_of_mem_take hmem; simp at this; subst this; exact hu1
          · exact h1 u' (by simpa using hmem)
          · have := List.mem_of_mem_drop hmem; simp at this; subst this; exact hu1
        rw [cells_one hone']
      cases x0 with
      | any => cases hsol.1
      | val v => exact single (by simp only [RepS] at hru; subst hru; exact hsol.1) rfl rfl
      | agg ws =>
        simp only [RepS] at hru
        obtain ⟨cs, rfl, hru⟩ := hru
        refine ⟨.agg (setAt cs.toList off (a.eval y).cells.toList).toArray, ?_, by simp [Value.cells]⟩
        simp only [SV.withCells, RepS]
        exact ⟨_, rfl, by simpa [SV.cells, Value.cells] using hset⟩
      | lst ws => exact single (by simp only [RepS] at hru; obtain ⟨_, _, rfl, _⟩ := hru; rfl) rfl rfl
      | ref ws _ => exact single (by simp only [RepS] at hru; obtain ⟨_, _, rfl, _⟩ := hru; rfl) rfl rfl
      | fn f ws => exact single (by simp only [RepS] at hru; obtain ⟨_, rfl, _⟩ := hru; rfl) rfl rfl
    obtain ⟨u', hru', hcu'⟩ := hnew
    have hszu : u'.cells.size = sz := by
      have h9 := setAt_length u.cells.toList off (a.eval y).cells.toList (by simp; omega)
      rw [← hcu'] at h9
      simp only [Array.length_toList] at h9
      omega
    refine ⟨undef, w.setRow g (setAt cur.toList (i * sz + off) (a.eval y).cells.toList).toArray, E, .inr ⟨?_, rfl⟩, ?_, ?_⟩
    · unfold execOp
      rw [ho]
      simp only [hv]
      rw [show (do Instr.storeAt ty (.pointer (some ⟨g, i * sz + off, none⟩)) (a.eval y); pure Next.skip : Sem Next) = (Instr.storeAt ty (.pointer (some ⟨g, i * sz + off, none⟩)) (a.eval y) >>= fun _ => pure Next.skip) from rfl, Sem.run_bind, hrun]
      rfl
    · rw [hd]
      refine hI.write hm hg (by simp) (fun i hi => setRow_other w g i _ hi) (.inl ⟨sz, xs, _, rfl, rfl, by simp⟩) ⟨h0, .inr ⟨g, c, e', _, vs.set i u', hg, hheap, fun h9 => h3 (by simpa using h9), by simpa using h4, h5, ?_, ?_, ?_⟩⟩
      · rw [List.size_toArray, setAt_length _ _ _ (by simp; omega)]; simpa using h6
      · exact (h7.set i hru').keep hok
      · intro j v hj
        rw [List.getElem?_set] at hj
        by_cases hij : i = j
        · subst hij
          rw [if_pos rfl] at hj
          split at hj
          case isFalse => cases hj
          simp only [Option.some.injEq] at hj; subst hj
          refine ⟨hszu, ?_, fun k z hk => ?_⟩
          · intro z hz
            have hz' : z ∈ setAt u.cells.toList off (a.eval y).cells.toList := by rw [← hcu']; simpa using hz
            simp only [setAt, List.mem_append] at hz'
            rcases hz' with (hz' | hz') | hz'
            · exact k2 z (by simpa using List.mem_of_mem_take hz')
            · exact h1 z (by simpa using hz')
            · exact k2 z (by simpa using List.mem_of_mem_drop hz')
          · have hk' : (setAt u.cells.toList off (a.eval y).cells.toList)[k]? = some z := by rw [← hcu']; simpa using hk
            have hklt : k < sz := by rw [← hszu]; exact (Array.getElem?_eq_some_iff.1 hk).1
            rw [setAt_get _ _ _ _ (by simp; omega)] at hk'
            rw [List.getElem?_toArray, setAt_get _ _ _ _ (by simp; omega)]
            simp only [Array.length_toList, Array.getElem?_toList] at hk' ⊢
            by_cases c1 : k < off
            · rw [if_pos c1] at hk'
              rw [if_pos (by omega)]
              exact k3 k z hk'
            · rw [if_neg c1] at hk'
              rw [if_neg (by omega)]
              by_cases c2 : k < off + (a.eval y).cells.size
              · rw [if_pos c2] at hk'
                rw [if_pos (by omega), show i * sz + k - (i * sz + off) = k - off by omega]
                exact hk'
              · rw [if_neg c2] at hk'
                rw [if_neg (by omega)]
                exact k3 k z hk'
        · rw [if_neg hij] at hj
          obtain ⟨q1, q2, q3⟩ := h8 j v hj
          refine ⟨q1, q2, fun k z hk => ?_⟩
          have hklt : k < sz := by rw [← q1]; exact (Array.getElem?_eq_some_iff.1 hk).1
          rw [List.getElem?_toArray, setAt_get _ _ _ _ (by simp; omega)]
          simp only [Array.length_toList, Array.getElem?_toList]
          have hsep : j * sz + sz ≤ i * sz ∨ i * sz + sz ≤ j * sz := by
            rcases Nat.lt_or_gt_of_ne hij with h9 | h9
            · right; have := Nat.mul_le_mul_right sz (show i + 1 ≤ j by omega); rw [Nat.add_mul, Nat.one_mul] at this; exact this
            · left; have := Nat.mul_le_mul_right sz (show j + 1 ≤ i by omega); rw [Nat.add_mul, Nat.one_mul] at this; exact this
          rcases hsep with h9 | h9
          · rw [if_pos (by omega)]; exact q3 k z hk
          · rw [if_neg (by omega), if_neg (by omega)]; exact q3 k z hk
    · exact Evo.write hI hm hg ⟨rfl, rfl, rfl⟩ (by simp) (fun i hi => setRow_other w g i _ hi)
  · cases hl
end
end Go.Proofs.YtfcojlagmmgagaaDoor.Ab
