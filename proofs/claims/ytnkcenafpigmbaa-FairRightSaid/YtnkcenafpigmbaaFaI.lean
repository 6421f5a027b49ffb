/- fair: slices.SortFunc at ranked jobs, any length, by the kit's contract. -/
import Derived.Test.YtnkcenafpigmbaaFaH
import Derived.Shelf.SlGeneric
import Derived.Ground.SlsfProg
import Derived.Shelf.SlSortCmp.WholeK
import Derived.Shelf.SlSortCmp.NoneTotal
namespace Go.Proofs.Ytnkcenafpigmbaa.Ab
open Go.RowKit Go.Shelf Go.Sort Go.Lib
set_option linter.unusedVariables false
set_option linter.unusedSimpArgs false
def Try.laysSF_ren : Go.Shelf.Ren := ⟨fun | 6 => 60 | 15 => 84 | 14 => 83 | 28 => 104 | 29 => 105 | 20 => 96 | 21 => 97 | 22 => 98 | 23 => 99 | 24 => 100 | 25 => 101 | 26 => 102 | 27 => 103 | 46 => 115 | 47 => 116 | 48 => 117 | 49 => 118 | 50 => 119 | 57 => 131 | n => n, fun | 22 => 88 | 24 => 90 | 25 => 93 | 3 => 3 | 39 => 110 | 0 => 0 | 53 => 58 | 55 => 129 | 4 => 4 | 46 => 122 | 45 => 121 | 50 => 75 | 5 => 5 | 9 => 9 | 66 => 132 | 70 => 136 | 76 => 146 | 77 => 147 | n => n, fun | n => n⟩
theorem Try.laysSF : Go.Proofs.SlLaysF0.n6 Try.prog Try.laysSF_ren where
  mixed := by kernel_rfl
  f6 := ⟨ "slices.SortFunc[[]bailiwick/fair.ranked,bailiwick/fair.ranked]", by decide, Try.func60.trans (congrArg some (by kernel_rfl))⟩
  f14 := ⟨ "slices.pdqsortCmpFunc[bailiwick/fair.ranked]", by decide, Try.func83.trans (congrArg some (by kernel_rfl))⟩
  f15 := Try.func84.trans (congrArg some (by kernel_rfl))
  f20 := ⟨ "slices.insertionSortCmpFunc[bailiwick/fair.ranked]", by decide, Try.func96.trans (congrArg some (by kernel_rfl))⟩
  f21 := ⟨ "slices.heapSortCmpFunc[bailiwick/fair.ranked]", by decide, Try.func97.trans (congrArg some (by kernel_rfl))⟩
  f22 := ⟨ "slices.breakPatternsCmpFunc[bailiwick/fair.ranked]", by decide, Try.func98.trans (congrArg some (by kernel_rfl))⟩
  f23 := ⟨ "slices.choosePivotCmpFunc[bailiwick/fair.ranked]", by decide, Try.func99.trans (congrArg some (by kernel_rfl))⟩
  f24 := ⟨ "slices.reverseRangeCmpFunc[bailiwick/fair.ranked]", by decide, Try.func100.trans (congrArg some (by kernel_rfl))⟩
  f25 := ⟨ "slices.partialInsertionSortCmpFunc[bailiwick/fair.ranked]", by decide, Try.func101.trans (congrArg some (by kernel_rfl))⟩
  f26 := ⟨ "slices.partitionEqualCmpFunc[bailiwick/fair.ranked]", by decide, Try.func102.trans (congrArg some (by kernel_rfl))⟩
  f27 := ⟨ "slices.partitionCmpFunc[bailiwick/fair.ranked]", by decide, Try.func103.trans (congrArg some (by kernel_rfl))⟩
  f28 := Try.func104.trans (congrArg some (by kernel_rfl))
  f29 := Try.func105.trans (congrArg some (by kernel_rfl))
  f46 := ⟨ "slices.siftDownCmpFunc[bailiwick/fair.ranked]", by decide, Try.func115.trans (congrArg some (by kernel_rfl))⟩
  f47 := Try.func116.trans (congrArg some (by kernel_rfl))
  f48 := Try.func117.trans (congrArg some (by kernel_rfl))
  f49 := ⟨ "slices.medianAdjacentCmpFunc[bailiwick/fair.ranked]", by decide, Try.func118.trans (congrArg some (by kernel_rfl))⟩
  f50 := ⟨ "slices.medianCmpFunc[bailiwick/fair.ranked]", by decide, Try.func119.trans (congrArg some (by kernel_rfl))⟩
  f57 := ⟨ "slices.order2CmpFunc[bailiwick/fair.ranked]", by decide, Try.func131.trans (congrArg some (by kernel_rfl))⟩
  t0 := Try.underlying0
  a0 := Try.isAgg0
  z0 := Try.sizeOf0
  v0 := Try.zeroValue0
  t3 := Try.underlying3
  a3 := Try.isAgg3
  z3 := Try.sizeOf3
  v3 := Try.zeroValue3
  t4 := Try.underlying4
  a4 := Try.isAgg4
  z4 := Try.sizeOf4
  v4 := Try.zeroValue4
  t5 := Try.underlying5
  a5 := Try.isAgg5
  z5 := Try.sizeOf5
  v5 := Try.zeroValue5
  t9 := Try.underlying9
  a9 := Try.isAgg9
  z9 := Try.sizeOf9
  v9 := Try.zeroValue9
  t22 := Try.underlying88
  a22 := Try.isAgg88
  z22 := Try.sizeOf88
  v22 := Try.zeroValue88
  t25 := Try.underlying93
  a25 := Try.isAgg93
  z25 := Try.sizeOf93
  v25 := Try.zeroValue93
  t39 := Try.underlying110
  a39 := Try.isAgg110
  z39 := Try.sizeOf110
  v39 := Try.zeroValue110
  t45 := Try.underlying121
  a45 := Try.isAgg121
  z45 := Try.sizeOf121
  v45 := Try.zeroValue121
  t46 := Try.underlying122
  a46 := Try.isAgg122
  z46 := Try.sizeOf122
  v46 := Try.zeroValue122
  t50 := Try.underlying75
  a50 := Try.isAgg75
  z50 := Try.sizeOf75
  v50 := Try.zeroValue75
  t53 := Try.underlying58
  a53 := Try.isAgg58
  z53 := Try.sizeOf58
  v53 := Try.zeroValue58
  t55 := Try.underlying129
  a55 := Try.isAgg129
  z55 := Try.sizeOf129
  v55 := Try.zeroValue129
  t66 := Try.underlying132
  a66 := Try.isAgg132
  z66 := Try.sizeOf132
  v66 := Try.zeroValue132
  t70 := Try.underlying136
  a70 := Try.isAgg136
  z70 := Try.sizeOf136
  v70 := Try.zeroValue136
  t76 := Try.underlying146
  a76 := Try.isAgg146
  z76 := Try.sizeOf146
  v76 := Try.zeroValue146
  t77 := Try.underlying147
  a77 := Try.isAgg147
  z77 := Try.sizeOf147
  v77 := Try.zeroValue147

def rkV (r : Rk) : Value := .agg #[.int .i64 r.id, .int .i64 r.rank]
def encR (r : Rk) : List Value := [.int .i64 r.id, .int .i64 r.rank]
theorem putV_at {w : World} {g : Nat} {d : Array Value} {cur : Array Value} {e : TypeId} {fr : Nat × Nat} (h : w.heap[g]? = some (.cells cur e fr)) : (putRow id w g 0 d).heap[g]? = some (.cells (putCells id 0 d cur) e fr) := by
  unfold putRow mapBlock
  simp only [Array.getElem?_modify, if_true, h, Option.map_some, onCells]
theorem putV_ne {w : World} {g b : Nat} {d : Array Value} (h : b ≠ g) : (putRow id w g 0 d).heap[b]? = w.heap[b]? := by
  unfold putRow mapBlock
  simp only [Array.getElem?_modify, if_neg (Ne.symm h)]
theorem putV_size {w : World} {g : Nat} {d : Array Value} : (putRow id w g 0 d).heap.size = w.heap.size := by
  unfold putRow mapBlock; simp
theorem putVC_size {d : Array Value} {cur : Array Value} : (putCells id 0 d cur).size = cur.size := by unfold putCells; simp
theorem putVC_get {d : Array Value} {cur : Array Value} {j : Nat} (hj : j < d.size) (hc : j < cur.size) : (putCells id 0 d cur)[j]? = some d[j]! := by
  unfold putCells
  rw [Array.getElem?_mapIdx, Array.getElem?_eq_getElem hc]
  simp [hj]
theorem rep_rks {w : World} {ok : Nat → Prop} : ∀ {zs : List Rk} {vs : List Value}, RepL w ok (zs.map rkSV) vs → vs = zs.map rkV
  | [], vs, h => by simpa [RepL] using h
  | z :: zs, vs, h => by
    simp only [List.map_cons, RepL, rkSV, iv, RepS] at h
    obtain ⟨v, vs', rfl, ⟨cs, rfl, h1⟩, h⟩ := h
    obtain ⟨a1, as1, hcs, rfl, b1, bs1, rfl, rfl, rfl⟩ := h1
    have : cs = #[.int .i64 z.id, .int .i64 z.rank] := Array.toList_inj.1 (by simpa using hcs)
    subst this
    rw [rep_rks h]; rfl
theorem rks_rep (w : World) (ok : Nat → Prop) : ∀ (zs : List Rk), RepL w ok (zs.map rkSV) (zs.map rkV)
  | [] => by simp [RepL]
  | z :: zs => by
    simp only [List.map_cons, RepL, rkSV, iv, RepS]
    exact ⟨_, _, rfl, ⟨_, rfl, _, _, rfl, rfl, _, _, rfl, rfl, rfl⟩, rks_rep w ok zs⟩
theorem rk_cells (z : Rk) : (rkV z).cells = #[.int .i64 z.id, .int .i64 z.rank] := rfl
/-- The row's cells, one by one. -/
def RkCells (zs : List Rk) (cur : Array Value) : Prop := ∀ (j : Nat) (z : Rk), zs[j]? = some z → cur[j * 2]? = some (.int .i64 z.id) ∧ cur[j * 2 + 1]? = some (.int .i64 z.rank)
theorem omem_rks {w : World} {ok : Nat → Prop} {g c : Nat} {e : TypeId} {zs : List Rk} {cur : Array Value} (hh : w.heap[g]? = some (.cells cur e (0, 0))) (hcs : cur.size = c * 2) (hne : zs = [] → c = 0) (hle : zs.length ≤ c) (hc : c ≤ maxLen)
    (ht : RkCells zs cur) : OMem w ok (some (g, c, 2)) (.row 2 (zs.map rkSV)) := by
  refine ⟨by decide, .inr ⟨g, c, e, cur, zs.map rkV, rfl, hh, fun h => hne (List.map_eq_nil_iff.1 h), by simpa using hle, hc, hcs, rks_rep w ok zs, fun i u hi => ?_⟩⟩
  rw [List.getElem?_map] at hi
  obtain ⟨z, hz, rfl⟩ := Option.map_eq_some_iff.1 hi
  obtain ⟨h1, h2⟩ := ht i z hz
  refine ⟨rfl, fun y hy => ?_, fun j y hj => ?_⟩
  · rw [rk_cells] at hy
    simp at hy
    rcases hy with rfl | rfl <;> rfl
  · rw [rk_cells] at hj
    rcases Nat.lt_or_ge j 2 with h | h
    · have : j = 0 ∨ j = 1 := by omega
      rcases this with rfl | rfl
      · simp at hj; subst hj; exact h1
      · simp at hj; subst hj; exact h2
    · rw [Array.getElem?_eq_none (by simpa using h)] at hj; cases hj
theorem rks_omem {w : World} {E : Env} {m : Mem} {t g c sz : Nat} {zs : List Rk} (h : MemRep w E m t (.row 2 (zs.map rkSV))) (ha : E.at_ t = some (g, c, sz)) : ∃ e cur, sz = 2 ∧ w.heap[g]? = some (.cells cur e (0, 0)) ∧ cur.size = c * 2 ∧ (zs = [] → c = 0) ∧ zs.length ≤ c ∧ c ≤ maxLen ∧ RkCells zs cur := by
  obtain ⟨_, hmm⟩ := h
  rcases hmm with ⟨h1, _⟩ | ⟨g', c', e, cur, vs, h1, h2, h3, h4, h5, h6, h7, h8⟩
  · rw [ha] at h1; cases h1
  rw [ha] at h1
  simp only [Option.some.injEq, Prod.mk.injEq] at h1
  obtain ⟨rfl, rfl, rfl⟩ := h1
  refine ⟨e, cur, rfl, h2, h6, fun h => h3 (by rw [h]; rfl), by simpa using h4, h5, fun j z hz => ?_⟩
  have hv := rep_rks h7
  have := (h8 j (rkV z) (by rw [hv, List.getElem?_map, hz]; rfl)).2.2
  exact ⟨by have := this 0 (.int .i64 z.id) rfl; simpa using this, this 1 (.int .i64 z.rank) rfl⟩
/-! ### The order that cmp tells -/
theorem ltR (a b : Rk) : ltOf cmpR a b = decide (b.rank < a.rank ∨ (a.rank = b.rank ∧ a.id < b.id)) := by
  unfold ltOf
  rw [decide_eq_decide]
  exact cmpR_lt
theorem swoR : SWO (ltOf cmpR) where
  irrefl x := by rw [ltR]; simp
  trans x y z h1 h2 := by rw [ltR] at *; simp only [decide_eq_true_eq] at *; omega
  ntrans x y z h1 h2 := by rw [ltR] at *; simp only [decide_eq_false_iff_not] at *; omega
theorem totR (x y : Rk) (h1 : ltOf cmpR x y = false) (h2 : ltOf cmpR y x = false) : x = y := by
  rw [ltR] at *
  simp only [decide_eq_false_iff_not] at *
  have e1 : x.rank = y.rank := by omega
  have e2 : x.id = y.id := by omega
  cases x; cases y; simp_all
/-- Sorted. -/
def msR (zs : List Rk) : List Rk := zs.mergeSort fun x y => !(ltOf cmpR) y x
theorem msR_len (zs : List Rk) : (msR zs).length = zs.length := List.length_mergeSort zs
theorem msR_perm (zs : List Rk) : (msR zs).Perm zs := List.mergeSort_perm zs _
theorem msR_sorted (zs : List Rk) : (msR zs).Pairwise fun a b => ¬ cmpR b a < 0 := by
  have h := List.pairwise_mergeSort (le := fun x y : Rk => !(ltOf cmpR) y x) (fun a b c h1 h2 => by
    rw [ltR] at *
    simp only [Bool.not_eq_true', decide_eq_false_iff_not] at *
    omega) (fun a b => by
    rw [ltR, ltR]
    simp only [Bool.or_eq_true, Bool.not_eq_true', decide_eq_false_iff_not]
    omega) zs
  refine h.imp fun {a b} h => ?_
  unfold ltOf at h
  simpa using h
/-- What the kit asks of the closure. -/
theorem cmp_calls (x y : Rk) (W : World) : Calls Try.prog 61 #[.agg (encR x).toArray, .agg (encR y).toArray] W fun e w' => e = .returned (.int .i64 (cmpR x y)) ∧ ∃ q os', w' = grow (W.drewN q) os' := by
  obtain ⟨g', h1, h2⟩ := cmpR_c x y
  have hg : g' = 61 := by
    have a1 := h1 #[] W
    rw [Try.call61] at a1
    simp only [Result.ok.injEq, Next.enter.injEq] at a1
    exact a1.1.1.symm
  subst hg
  refine (h2 W (fun _ => False) _ ⟨fun _ h => h.elim, fun _ _ h => by cases h⟩ ?_).mono ?_
  · simp only [rkSV, iv, encR, RepL, RepS]
    exact ⟨_, _, rfl, ⟨_, rfl, _, _, rfl, rfl, _, _, rfl, rfl, rfl⟩, _, _, rfl, ⟨_, rfl, _, _, rfl, rfl, _, _, rfl, rfl, rfl⟩, rfl⟩
  · rintro e w' ⟨r, vs, E1, rfl, rfl, hI, hE⟩
    constructor
    · obtain ⟨v', k1, k2⟩ := hI.tm 0 (.sv (iv (cmpR x y))) (by simp [cst, RV.comps, ent1, lk, R1.av])
      have h3 := k2.val
      subst h3
      have h4 : vs[0]? = some (.int .i64 (cmpR x y)) := by simpa using k1
      simp [RV.val, List.headD_eq_head?_getD, List.head?_eq_getElem?, h4]
    · refine ⟨w'.drawn - W.drawn, w'.heap.extract W.heap.size w'.heap.size, ?_⟩
      have hd := hE.drawn
      have hh : w'.heap = W.heap ++ w'.heap.extract W.heap.size w'.heap.size := by
        apply Array.ext_getElem?
        intro i
        rcases Nat.lt_or_ge i W.heap.size with q | q
        · rw [Array.getElem?_append_left q]
          exact hE.kp i q
        · rw [Array.getElem?_append_right q, Array.getElem?_extract]
          have hs := hE.size
          rcases Nat.lt_or_ge i w'.heap.size with q2 | q2
          · rw [if_pos (by omega)]
            congr 1; omega
          · rw [if_neg (by omega), Array.getElem?_eq_none q2]
      obtain ⟨h1, h2, h3, h4, h5⟩ := w'
      have e1 : h4 = W.os := hE.os
      have e2 : h2 = W.tape := hE.tape
      have e3 : h5 = W.output := hE.output
      simp only at hh hd
      subst e1 e2 e3
      unfold grow World.drewN
      simp only
      rw [← hh]
      congr 1
      omega
theorem cmp_lays (blk off size : Nat) (w : World) : CmpLays Try.prog 61 #[] encR 2 cmpR blk off size w := fun _ _ _ _ x y => cmp_calls x y _
set_option maxHeartbeats 4000000 in
set_option maxRecDepth 100000 in
theorem sortAll_c (zs : List Rk) (hz : zs.length < 4611686018427387904) : ACallsI Try.prog 60 [.own, .sv (.fn 61 [])] (.row 2 (zs.map rkSV)) (fun r o => r = .many [] ∧ o = .row 2 ((msR zs).map rkSV)) := by
  refine ⟨60, fun _ _ => Try.call60 _ _, fun w ok x cargs hok hgw hx ho hargs => ?_⟩
  obtain ⟨v, vs', hl, ⟨k, xs, hkx, hv⟩, v2, vs2, rfl, hv2, hnil⟩ := hargs
  simp only [Obj'.row.injEq] at hkx
  obtain ⟨rfl, rfl⟩ := hkx
  simp only [XA.rep, RepS] at hv2
  obtain ⟨cs, rfl, hcs⟩ := hv2
  have hcs0 : cs = #[] := Array.toList_inj.1 (by simpa [RepL] using hcs)
  subst hcs0
  have hca : cargs = #[v, .func (.func 61) #[] #[]] := by
    simp only [XA.repL] at hnil
    subst hnil
    cases cargs; simp at hl; rw [hl]
  subst hca
  have fin : ∀ (w' : World), w'.os = w.os ∧ w'.tape = w.tape ∧ w'.output = w.output → w.heap.size ≤ w'.heap.size → (∀ b, xkeep w x b → w'.heap[b]? = w.heap[b]?) → OMem w' ok x (.row 2 ((msR zs).map rkSV)) → w.drawn ≤ w'.drawn →
      ∃ (r : RV) (us : List Value) (E1 : Env) (o' : Obj'), (r = .many [] ∧ o' = .row 2 ((msR zs).map rkSV)) ∧ Ending.returned (.tuple #[]) = .returned (r.val us) ∧ Inv (xkeep w x) w' E1 (cst r.comps) ⟨us.toArray, []⟩ ∧ Evo (xkeep w x) w ⟨ok, E1.at_⟩ w' E1 ∧ OMem w' E1.ok x o' ∧ o'.svOnly = true ∧
        ∀ g c s, x = some (g, c, s) → ¬ E1.ok g ∧ ∀ j sz xs c' s', r.comps[j]? = some (.own sz xs) → E1.at_ j ≠ some (g, c', s') := fun w' h1 h2 h3 h4 h5 => by
    refine ⟨.many [], [], ⟨ok, fun _ => none⟩, _, ⟨rfl, rfl⟩, rfl, ?_, ⟨h1.1, h1.2.1, h1.2.2, h2, h3, fun b hb => ⟨hb, h3 b (hok b hb)⟩, fun b hb => .inl hb, fun _ _ => rfl, h5⟩, h4, rfl, fun g c s hg => ⟨fun hk => (hok g hk).2 g c s hg rfl, fun j sz xs c' s' hj => by simp [RV.comps] at hj⟩⟩
    refine ⟨rfl, rfl, fun d x hx => by simp [cst, RV.comps, ent1, lk] at hx, fun t o ho => by simp [cst, RV.comps, impM, lk] at ho, fun t t' o o' g c s c' s' h => by simp [cst, RV.comps, impM, lk] at h, fun t o g c s h => by simp [cst, RV.comps, impM, lk] at h, ⟨fun b hb => Nat.lt_of_lt_of_le (hok b hb).1 h2, hgw.keep fun b hb => ⟨hb, h3 b (hok b hb)⟩⟩, fun b hb => Nat.lt_of_lt_of_le hb.1 h2⟩
  rcases hzs : zs with _ | ⟨z0, zs'⟩
  · have hlen : (zs.map rkSV).length = 0 := by rw [hzs]; rfl
    have hv0 : ∃ p cap, v = .slice p 0 cap := by
      cases x with
      | none => obtain ⟨a, rfl⟩ := hv; exact ⟨a, 0, rfl⟩
      | some q => obtain ⟨g, c, s⟩ := q; simp only [hlen] at hv; exact ⟨_, c, hv⟩
    obtain ⟨p, cap, rfl⟩ := hv0
    have hc := AnyF.slices_SortFunc_none Try.laysSF p cap (.func (.func 61) #[] #[]) w
    change Calls Try.prog 60 _ _ _ at hc
    refine hc.mono ?_
    rintro e w' ⟨rfl, rfl⟩
    have hse : msR zs = zs := by rw [hzs]; unfold msR; simp
    have := fin w' ⟨rfl, rfl, rfl⟩ (Nat.le_refl _) (fun _ _ => rfl) (by rw [hse]; exact ho) (Nat.le_refl _)
    rw [hzs] at this
    exact this
  · rw [← hzs]
    cases x with
    | none =>
      exfalso
      obtain ⟨_, hmm⟩ := ho
      rcases hmm with ⟨_, h⟩ | ⟨g, c, e, cur, vs, h1, _⟩
      · rw [hzs] at h; cases h
      · cases h1
    | some q =>
      obtain ⟨g, c, s⟩ := q
      obtain ⟨e, cur, rfl, h2, h3, h4, h5, h6, h7⟩ := rks_omem ho rfl
      simp only [List.length_map] at hv
      subst hv
      have hfl : ∀ (ds : List Rk) (j : Nat), j < ds.length * 2 → (flatK encR 2 ds.toArray)[j]! = (encR ds[j / 2]!)[j % 2]! := fun ds j hj => by
        rw [get_flatK _ _ _ _ (by simpa using hj)]
        simp
      have hH : HoldsK encR 2 w g 0 zs.toArray := fun j hj => by
        rw [size_flatK] at hj
        simp only [List.size_toArray] at hj
        have hjz : j / 2 < zs.length := by omega
        have hz2 : zs[j / 2]? = some zs[j / 2] := List.getElem?_eq_getElem hjz
        obtain ⟨q1, q2⟩ := h7 (j / 2) _ hz2
        refine ⟨?_, by simp [World.frozen?, h2]⟩
        rw [Nat.zero_add, hfl zs j hj, List.getElem!_eq_getElem?_getD (l := zs), hz2]
        have : j % 2 = 0 ∨ j % 2 = 1 := by omega
        rcases this with h | h
        · rw [h]
          have e1 : j = j / 2 * 2 := by omega
          rw [← e1] at q1
          simp [World.cell?, h2, encR, q1]
        · rw [h]
          have e1 : j = j / 2 * 2 + 1 := by omega
          rw [← e1] at q2
          simp [World.cell?, h2, encR, q2]
      have hgw' : g < w.heap.size := hx g c 2 rfl
      have hag : ∀ w, (isAgg (Try.laysSF_ren.t 24)).run Try.prog w = .ok true w := fun w => by
        rw [run_isAgg (P := Try.prog) (w := w) (by kernel_rfl)]
        congr 1
      have hso : ∀ w, (Go.sizeOf (Try.laysSF_ren.t 24)).run Try.prog w = .ok 2 w := fun w => by
        rw [run_sizeOf (P := Try.prog) (w := w) (by kernel_rfl)]
        congr 1
      have hc := AnyQ.slices_SortFunc_total Try.laysSF 2 hag hso encR (fun _ => rfl) (fun x v hv => by simp [encR] at hv; rcases hv with rfl | rfl <;> rfl) cmpR swoR 61 #[] g 0 c zs.toArray w (fun _ _ => Try.call61 _ _) (cmp_lays g 0 _ w) hH hgw' (by simpa using hz) totR
      change Calls Try.prog 60 _ _ _ at hc
      simp only [List.size_toArray] at hc
      refine hc.mono ?_
      rintro ex w' ⟨rfl, n, os, rfl⟩
      have hms : zs.mergeSort (fun x y => !(ltOf cmpR) y x) = msR zs := rfl
      rw [hms]
      have hheap : ∀ b, b < w.heap.size → (sortWorldK encR 2 w g 0 n (msR zs).toArray os).heap[b]? = (putRow id (Sort.ahead w n) g 0 (flatK encR 2 (msR zs).toArray)).heap[b]? := fun b hb => by
        show ((putRow id (Sort.ahead w n) g 0 (flatK encR 2 (msR zs).toArray)).heap ++ os)[b]? = _
        rw [Array.getElem?_append_left (by rw [putV_size]; exact hb)]
      refine fin _ ⟨rfl, rfl, rfl⟩ ?_ (fun b hb => ?_) ?_ ?_
      · show w.heap.size ≤ ((putRow id (Sort.ahead w n) g 0 (flatK encR 2 (msR zs).toArray)).heap ++ os).size
        rw [Array.size_append, putV_size]
        exact Nat.le_add_right _ _
      · rw [hheap b hb.1, putV_ne (fun h => hb.2 g c 2 rfl h)]; rfl
      · have hat := putV_at (w := Sort.ahead w n) (d := flatK encR 2 (msR zs).toArray) (show (Sort.ahead w n).heap[g]? = _ from h2)
        rw [← hheap g hgw'] at hat
        have hml := msR_len zs
        refine omem_rks hat (by rw [putVC_size]; exact h3) (fun h => ?_) (by omega) h6 (fun j z hj => ?_)
        · rw [h, hzs] at hml; simp at hml
        · have hlt := (List.getElem?_eq_some_iff.1 hj).1
          have hsz : (flatK encR 2 (msR zs).toArray).size = (msR zs).length * 2 := by rw [size_flatK]; simp
          have ez : (msR zs)[j]! = z := by rw [List.getElem!_eq_getElem?_getD, hj]; rfl
          constructor
          · rw [putVC_get (by rw [hsz]; omega) (by omega), hfl _ _ (by omega), show j * 2 / 2 = j by omega, show j * 2 % 2 = 0 by omega, ez]; rfl
          · rw [putVC_get (by rw [hsz]; omega) (by omega), hfl _ _ (by omega), show (j * 2 + 1) / 2 = j by omega, show (j * 2 + 1) % 2 = 1 by omega, ez]; rfl
      · show w.drawn ≤ w.drawn + n
        omega
/-- The order, of whatever is short. -/
theorem OrderAll_c (l : List Job) (ow : List Owned) (us : List Use) (hl : l.length < 20) (hh : Jobs l) (ho : ow.length ≤ 1000000) (hu : us.length ≤ 1000000) (hw : UsesW us) :
    ACalls Try.prog 31 [jobs l, owneds ow, uses us] (· = .one (.sv (ints (orderF l ow us)))) := by
  have hRl : (readyL l).length ≤ 20 := by
    unfold readyL
    split
    · rw [List.length_map, (readyJ_perm l).length_eq]
      have := List.length_filter_le (readyB l) l
      omega
    · simp
  have h := OrderX l ow us hl hh ho hu hw (readyL l) rfl hRl (rankL l ow us) (msR (rankL l ow us)) rfl (msR_len _) (sortAll_c (rankL l ow us) (by unfold rankL; rw [List.length_map]; omega))
  rwa [order_uniq (msR_perm _) (msR_sorted _)] at h
end Go.Proofs.Ytnkcenafpigmbaa.Ab
