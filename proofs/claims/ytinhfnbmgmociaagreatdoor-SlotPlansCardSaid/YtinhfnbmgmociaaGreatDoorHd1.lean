/- slices.Insert and slices.Delete at []Held, walked at the kit's level: what they do to the rows. slices.Insert and slices.Delete at []Held, as steps of the abstract layer: a row is taken, another one comes. slices.Sort and slices.Compact at []int64, by the kit's contracts, as steps of the abstract layer. -/
import Derived.Test.YtinhfnbmgmociaaGreatDoorAb3
import Derived.Test.YtinhfnbmgmociaaGreatDoorTy1
import Derived.Shelf.Spec.SlicesInsert
import Derived.Lib.AppendZerosOnto
import Derived.Shelf.SlGeneric
import Derived.Ground.SlgmProg
import Derived.Ground.SlgnProg
import Derived.Shelf.SortM.Plain
import Derived.Shelf.SortM.SortNone
import Derived.Shelf.SlicesE.Compact
namespace Go.Proofs.YtinhfnbmgmociaaGreatDoor.Ab
open Go.RowKit Go.Shelf Go.Lib
set_option linter.unusedVariables false
set_option linter.unusedSimpArgs false
section
variable {P : Program}
theorem run_copy_cellsK (w : World) (dT sT ty elem : TypeId) (sz g o dLen dCap sl n : Nat) (src : Value) (cur : Array Value) (t : TypeId) (cs : List Value)
    (hu : P.underlying dT = some (.slice elem)) (hs : (P.info? elem).map (·.size) = some sz)
    (hg : w.heap[g]? = some (.cells cur t (0, 0))) (hl : (Builtin.lenOf src).run P w = .ok sl w) (hn : Nat.min sl dLen = n)
    (hf : (Builtin.firstCells sz n src).run P w = .ok cs.toArray w) (hfit : o + cs.length ≤ cur.size) (h1 : ∀ v ∈ cs, v.oneCell' = true) :
    (Builtin.copy_ #[dT, sT] ty #[.slice (some ⟨g, o, none⟩) dLen dCap, src]).run P w = .ok (goInt n) (w.setRow g (setAt cur.toList o cs).toArray) := by
  have hst := run_storeCells_at P g o t cs 0 cur w hg (by simpa using hfit) h1
  cases hq : P.info? elem with
  | none => simp [hq] at hs
  | some i =>
    have hi : i.size = sz := by simpa [hq] using hs
    simp [Builtin.copy_, run_underlying hu, hl, hn, sizeOf, typeInfo, hq, hi, hf, hst, setAt]
theorem run_cells_of (w : World) (sz n g o len cap : Nat) (cur : Array Value) (t : TypeId) (cs : List Value) (hg : w.heap[g]? = some (.cells cur t (0, 0))) (hl : cs.length = n * sz) (hc : ∀ (j : Nat) (v : Value), cs[j]? = some v → cur[o + j]? = some v) :
    (Builtin.firstCells sz n (.slice (some ⟨g, o, none⟩) len cap)).run P w = .ok cs.toArray w :=
  run_firstCells_some w sz n ⟨g, o, none⟩ len cap cs hl fun j v hj => by rw [Addr.add_lit, cell_of_row w g _ cur t (0, 0) hg]; exact hc j v hj
set_option maxHeartbeats 4000000 in
set_option maxRecDepth 100000 in
theorem ins_shift (w : World) (g gv n c cv i : Nat) (cur curv : Array Value) (e ev : TypeId) (cs vs : List Value) (hi : i < n) (hroom : n + 1 ≤ c) (hc : c ≤ maxLen)
    (hg : w.heap[g]? = some (.cells cur e (0, 0))) (hgv : w.heap[gv]? = some (.cells curv ev (0, 0))) (hne : gv ≠ g) (hcur : cur.size = c * 4)
    (hcl : cs.length = n * 4) (hcs : ∀ (j : Nat) (v : Value), cs[j]? = some v → cur[j]? = some v) (hc1 : ∀ v ∈ cs, v.oneCell' = true)
    (hvl : vs.length = 4) (hvs : ∀ (j : Nat) (v : Value), vs[j]? = some v → curv[j]? = some v) (hv1 : ∀ v ∈ vs, v.oneCell' = true) :
    Calls Tryz.prog 39 #[.slice (some ⟨g, 0, none⟩) n c, .int .i64 i, .slice (some ⟨gv, 0, none⟩) 1 cv] w fun ex w' =>
      ex = .returned (.slice (some ⟨g, 0, none⟩) (n + 1) c) ∧ w' = (w.drew.setRow g (setAt cur.toList ((i + 1) * 4) (cs.drop (i * 4))).toArray).setRow g (setAt (setAt cur.toList ((i + 1) * 4) (cs.drop (i * 4))) (i * 4) vs).toArray := by
  unfold maxLen at hc
  have hz2 : ¬ ((i : Int) = (n : Int)) := by omega
  have hb4 : ¬ (c = i) := by omega
  have hb2 : ¬ (c = i + 1) := by omega
  have hw1 : IntKind.i64.wrap ((i : Int) + 1) = (i : Int) + 1 := by rw [IntKind.wrap_i64]; omega
  have hwn : IntKind.i64.wrap ((n : Int) + 1) = (n : Int) + 1 := by rw [IntKind.wrap_i64]; omega
  have htn : ((i : Int) + 1).toNat = i + 1 := by omega
  have hin : i ≤ n := by omega
  have hb1 : (0 : Int) ≤ (i : Int) + 1 := by omega
  have hb3 : (i : Int) ≤ (n : Int) + 1 := by omega
  have mixed : Tryz.prog.follows .mixedOrders = true := by kernel_rfl
  have hszH : (Tryz.prog.info? 48).map (·.size) = some 4 := by kernel_rfl
  have hov : ∀ lb cb, (callFunc 63 #[.slice (some ⟨gv, 0, none⟩) 1 cv, .slice (some ⟨g, (i + 1) * 4, none⟩) lb cb]).run Tryz.prog w = .ok (.value (.bool false)) w := fun lb cb => by
    rw [run_callFunc_extern Tryz.func63 (by kernel_rfl) (by kernel_rfl) (by kernel_rfl) (e := Extern.SlicesOverlaps.overlaps #[24, 24] #[4]) (by kernel_rfl),
      Lib.run_overlaps_apart w 24 4 48 Tryz.underlying24 4 (fun w => by have := run_sizeOf (P := Tryz.prog) (t := 48) (w := w) (by kernel_rfl); rwa [tsz48] at this) ⟨gv, 0, none⟩ ⟨g, (i + 1) * 4, none⟩ 1 cv lb cb hne ev e curv.size cur.size (by simp [World.shape?, hgv]) (by simp [World.shape?, hg]) (by omega) (by simp [World.frozen?, hgv]) (by simp [World.frozen?, hgv])]
    rfl
  have hdl : (cs.drop (i * 4)).length = (n - i) * 4 := by rw [List.length_drop, hcl]; omega
  have hdcs : ∀ (j : Nat) (v : Value), (cs.drop (i * 4))[j]? = some v → cur[i * 4 + j]? = some v := fun j v hj => by rw [List.getElem?_drop] at hj; exact hcs _ v hj
  have hcp1 : ∀ ty dc sc, (Builtin.copy_ #[24, 24] ty #[.slice (some ⟨g, (i + 1) * 4, none⟩) (n - i) dc, .slice (some ⟨g, i * 4, none⟩) (n + 1 - i) sc]).run Tryz.prog w.drew = .ok (goInt (n - i : Nat)) (w.drew.setRow g (setAt cur.toList ((i + 1) * 4) (cs.drop (i * 4))).toArray) := fun ty dc sc =>
    run_copy_cellsK w.drew 24 24 ty 48 4 g ((i + 1) * 4) (n - i) dc (n + 1 - i) (n - i) _ cur e (cs.drop (i * 4)) Tryz.underlying24 hszH hg (by simp [Builtin.lenOf]) (by simp only [Nat.min_def]; split <;> omega)
      (run_cells_of w.drew 4 (n - i) g (i * 4) (n + 1 - i) sc cur e _ hg hdl hdcs) (by rw [hdl, hcur]; omega) (fun v hv => hc1 v (List.mem_of_mem_drop hv))
  obtain ⟨X1, hX1⟩ : ∃ X1, X1 = setAt cur.toList ((i + 1) * 4) (cs.drop (i * 4)) := ⟨_, rfl⟩
  have hX1l : X1.length = c * 4 := by rw [hX1, setAt_length _ _ _ (by rw [hdl, Array.length_toList, hcur]; omega), Array.length_toList, hcur]
  rw [← hX1] at hcp1 ⊢
  have hg1 : (w.drew.setRow g X1.toArray).heap[g]? = some (.cells X1.toArray e (0, 0)) := setRow_heap w.drew g cur _ e _ hg
  have hgv1 : (w.drew.setRow g X1.toArray).heap[gv]? = some (.cells curv ev (0, 0)) := by rw [setRow_other w.drew g gv _ hne]; exact hgv
  have hcp2 : ∀ ty dc, (Builtin.copy_ #[24, 24] ty #[.slice (some ⟨g, i * 4, none⟩) (n + 1 - i) dc, .slice (some ⟨gv, 0, none⟩) 1 cv]).run Tryz.prog (w.drew.setRow g X1.toArray) = .ok (goInt (1 : Nat)) ((w.drew.setRow g X1.toArray).setRow g (setAt X1 (i * 4) vs).toArray) := fun ty dc => by
    have h := run_copy_cellsK (P := Tryz.prog) (w.drew.setRow g X1.toArray) 24 24 ty 48 4 g (i * 4) (n + 1 - i) dc 1 1 (.slice (some ⟨gv, 0, none⟩) 1 cv) X1.toArray e vs Tryz.underlying24 hszH hg1 (by simp [Builtin.lenOf]) (by simp only [Nat.min_def]; split <;> omega)
      (run_cells_of (w.drew.setRow g X1.toArray) 4 1 gv 0 1 cv curv ev _ hgv1 (by omega) (fun j v hj => by rw [Nat.zero_add]; exact hvs j v hj)) (by simp; omega) hv1
    simpa using h
  clear hX1 hX1l hg1 hgv1 hdl hdcs
  go_enter Tryz.func39, Tryz.ntmps39
  go_wp2_with (simp only [hov])
  go_region_law_o (refine step_copy_runI rfl _ _ 24 24 rfl _ _ (by simp [Act.eval, Act.put]) (by simp [Act.eval, Act.put]) (hcp1 _ _ _) ?_)
  go_wp2_with (at_builtin; refine wpList_copy_runI _ rfl _ _ 24 24 rfl _ _ rfl rfl (hcp2 _ _) ?_)
  go_ret
  exact ⟨rfl, by simp [setAt, hvl]⟩
set_option maxHeartbeats 4000000 in
set_option maxRecDepth 100000 in
theorem ins_grow (w : World) (g gv n cv i : Nat) (cur curv : Array Value) (e ev : TypeId) (cs vs : List Value) (hi : i < n) (hbig : (n + 1) * 49 ≤ 140737488355328)
    (hg : w.heap[g]? = some (.cells cur e (0, 0))) (hgv : w.heap[gv]? = some (.cells curv ev (0, 0))) (hcur : cur.size = n * 4)
    (hcl : cs.length = n * 4) (hcs : ∀ (j : Nat) (v : Value), cs[j]? = some v → cur[j]? = some v) (hc1 : ∀ v ∈ cs, v.oneCell' = true)
    (hvl : vs.length = 4) (hvs : ∀ (j : Nat) (v : Value), vs[j]? = some v → curv[j]? = some v) (hv1 : ∀ v ∈ vs, v.oneCell' = true) :
    Calls Tryz.prog 39 #[.slice (some ⟨g, 0, none⟩) n n, .int .i64 i, .slice (some ⟨gv, 0, none⟩) 1 cv] w fun ex w' =>
      ex = .returned (.slice (some ⟨w.heap.size, 0, none⟩) (n + 1) (grownCap w (n + 1) n 48)) ∧ ∃ X : List Value, X.length = grownCap w (n + 1) n 48 * 4 ∧ X.take ((n + 1) * 4) = cs.take (i * 4) ++ vs ++ cs.drop (i * 4) ∧ ∃ Y Z : List Value,
        w' = (((w.alloc (.cells Z.toArray 48)).drew.setRow w.heap.size Y.toArray).drew).setRow w.heap.size X.toArray := by
  have hz2 : ¬ ((i : Int) = (n : Int)) := by omega
  have hw1 : IntKind.i64.wrap ((i : Int) + 1) = (i : Int) + 1 := by rw [IntKind.wrap_i64]; omega
  have hwn : IntKind.i64.wrap ((n : Int) + 1) = (n : Int) + 1 := by rw [IntKind.wrap_i64]; omega
  have hwni : IntKind.i64.wrap ((n : Int) + 1 - (i : Int)) = (n : Int) + 1 - (i : Int) := by rw [IntKind.wrap_i64]; omega
  have htn : ((i : Int) + 1).toNat = i + 1 := by omega
  have hin : i ≤ n := by omega
  have hz3 : (n : Int) < (n : Int) + 1 := by omega
  have hb1 : (0 : Int) ≤ (i : Int) + 1 := by omega
  have hb3 : (i : Int) ≤ (n : Int) := by omega
  have hni : ¬ (n = i) := by omega
  have mixed : Tryz.prog.follows .mixedOrders = true := by kernel_rfl
  have hszH : (Tryz.prog.info? 48).map (·.size) = some 4 := by kernel_rfl
  obtain ⟨i0, hi0⟩ : ∃ i0, Tryz.prog.info? 48 = some i0 := Option.isSome_iff_exists.1 (by kernel_rfl)
  have hzs : i0.size = 4 := by simpa [hi0] using hszH
  have hzb : i0.bytes = 48 := by have h : (Tryz.prog.info? 48).map (·.bytes) = some 48 := by kernel_rfl
                                 simpa [hi0] using h
  have hz0 : i0.zero = some (.agg #[.int .i64 0, .slice none 0 0, .int .i64 0, .int .i64 0]) := by
    have h : tzero Tryz.prog 48 = some (.agg #[.int .i64 0, .slice none 0 0, .int .i64 0, .int .i64 0]) := tze48
    simpa [tzero, hi0] using h
  have hgw : g < w.heap.size := by
    rcases Nat.lt_or_ge g w.heap.size with h | h
    · exact h
    · rw [Array.getElem?_eq_none h] at hg; cases hg
  have hgvw : gv < w.heap.size := by
    rcases Nat.lt_or_ge gv w.heap.size with h | h
    · exact h
    · rw [Array.getElem?_eq_none h] at hgv; cases hgv
  have hkk : (n : Int) + 1 - (i : Int) = ((n + 1 - i : Nat) : Int) := by omega
  have hik : i + (n + 1 - i) = n + 1 := by omega
  have htl : (cs.take (i * 4)).length = i * 4 := by rw [List.length_take]; omega
  have hold : (Builtin.firstCells i0.size i (.slice (some ⟨g, 0, none⟩) i n)).run Tryz.prog w.drew = .ok (cs.take (i * 4)).toArray w.drew := by
    rw [hzs]
    exact run_cells_of w.drew 4 i g 0 i n cur e _ hg htl (fun j v hj => by
      rw [List.getElem?_take] at hj
      rw [Nat.zero_add]
      split at hj
      · exact hcs j v hj
      · cases hj)
  obtain ⟨G, hG⟩ : ∃ G, G = grownCap w (n + 1) n 48 := ⟨_, rfl⟩
  have hGn : n + 1 ≤ G := by rw [hG]; exact grownCap_ge w _ _ _
  have hGm : G ≤ maxLen := by rw [hG]; exact grownCap_le_maxLen w (n + 1) n 48 (by unfold maxLen; omega)
  unfold maxLen at hGm
  obtain ⟨ZR, hZR⟩ : ∃ ZR : List Value, ZR = cs.take (i * 4) ++ (Builtin.zeroCells (Value.agg #[.int .i64 0, .slice none 0 0, .int .i64 0, .int .i64 0]).cells (n + 1 - i)).toList ++ (Builtin.zeroCells (Value.agg #[.int .i64 0, .slice none 0 0, .int .i64 0, .int .i64 0]).cells (G - (n + 1))).toList := ⟨_, rfl⟩
  have hcz : (Value.agg #[.int .i64 0, .slice none 0 0, .int .i64 0, .int .i64 0]).cells.size = 4 := by kernel_rfl
  have hZRl : ZR.length = G * 4 := by
    rw [hZR]
    simp only [List.length_append, Array.length_toList, size_zeroCells, hcz, htl]
    omega
  have hrz : ∀ ty, (Builtin.append_ #[24, 3] ty #[.slice (some ⟨g, 0, none⟩) i n, .int .i64 ((n : Int) + 1 - (i : Int))]).run Tryz.prog w =
      .ok (.slice (some ⟨w.heap.size, 0, none⟩) (n + 1) G) (w.drew.alloc (.cells ZR.toArray 48)) := fun ty => by
    have h := Lib.run_append_grow_zeros w 24 3 ty 48 i0 _ .i64 .i64 Tryz.underlying24 Tryz.underlying3 hi0 hz0 (some ⟨g, 0, none⟩) i n (cs.take (i * 4)) hold (n + 1 - i) (by omega) (by omega) (by omega) (by omega) (by rw [hzb]; omega) (by rw [hzb, hik]; exact growslice_fits (by omega) (by omega))
    rw [hik, ← hG] at h
    rw [hkk, h, hZR]
    congr 4
    apply Array.ext'
    simp
  have hN : (w.drew.alloc (.cells ZR.toArray 48)).heap[w.heap.size]? = some (.cells ZR.toArray 48 (0, 0)) := Go.heap_alloc_new w.drew _
  have hOg : (w.drew.alloc (.cells ZR.toArray 48)).heap[g]? = some (.cells cur e (0, 0)) := by rw [Go.heap_alloc_old w.drew _ hgw]; exact hg
  have hOv : (w.drew.alloc (.cells ZR.toArray 48)).heap[gv]? = some (.cells curv ev (0, 0)) := by rw [Go.heap_alloc_old w.drew _ hgvw]; exact hgv
  obtain ⟨Y, hY⟩ : ∃ Y, Y = setAt ZR (i * 4) vs := ⟨_, rfl⟩
  have hYl : Y.length = G * 4 := by rw [hY, setAt_length _ _ _ (by omega), hZRl]
  have hcpA : ∀ (W : World), W.heap = (w.drew.alloc (.cells ZR.toArray 48)).heap → ∀ ty dc, (Builtin.copy_ #[24, 24] ty #[.slice (some ⟨w.heap.size, i * 4, none⟩) (n + 1 - i) dc, .slice (some ⟨gv, 0, none⟩) 1 cv]).run Tryz.prog W = .ok (goInt (1 : Nat)) (W.setRow w.heap.size Y.toArray) := fun W hW ty dc => by
    have h := run_copy_cellsK (P := Tryz.prog) W 24 24 ty 48 4 w.heap.size (i * 4) (n + 1 - i) dc 1 1 (.slice (some ⟨gv, 0, none⟩) 1 cv) ZR.toArray 48 vs Tryz.underlying24 hszH (by rw [hW]; exact hN) (by simp [Builtin.lenOf]) (by simp only [Nat.min_def]; split <;> omega)
      (run_cells_of W 4 1 gv 0 1 cv curv ev _ (by rw [hW]; exact hOv) (by omega) (fun j v hj => by rw [Nat.zero_add]; exact hvs j v hj)) (by simp; omega) hv1
    rw [hY]
    simpa using h
  have hdl : (cs.drop (i * 4)).length = (n - i) * 4 := by rw [List.length_drop, hcl]; omega
  have hdcs : ∀ (j : Nat) (v : Value), (cs.drop (i * 4))[j]? = some v → cur[i * 4 + j]? = some v := fun j v hj => by rw [List.getElem?_drop] at hj; exact hcs _ v hj
  obtain ⟨X, hX⟩ : ∃ X, X = setAt Y ((i + 1) * 4) (cs.drop (i * 4)) := ⟨_, rfl⟩
  have hXl : X.length = G * 4 := by rw [hX, setAt_length _ _ _ (by omega), hYl]
  have hXt : X.take ((n + 1) * 4) = cs.take (i * 4) ++ vs ++ cs.drop (i * 4) := by
    have hYt : Y.take ((i + 1) * 4) = cs.take (i * 4) ++ vs := by
      rw [hY, hZR]
      unfold setAt
      rw [List.append_assoc (cs.take (i * 4)), List.take_left' htl, List.append_assoc, List.take_append, htl, List.take_of_length_le (by rw [htl]; omega)]
      congr 1
      rw [List.take_append, List.take_of_length_le (by omega), show (i + 1) * 4 - i * 4 - vs.length = 0 by omega, List.take_zero, List.append_nil]
    rw [hX]
    unfold setAt
    rw [hYt, List.take_append_of_le_length (by rw [List.length_append, List.length_append, htl, hdl, hvl]; omega), List.take_of_length_le (by rw [List.length_append, List.length_append, htl, hdl, hvl]; omega)]
  have hcpB : ∀ (W : World), W.heap = ((w.drew.alloc (.cells ZR.toArray 48)).setRow w.heap.size Y.toArray).heap → ∀ ty dc sc, (Builtin.copy_ #[24, 24] ty #[.slice (some ⟨w.heap.size, (i + 1) * 4, none⟩) (n - i) dc, .slice (some ⟨g, i * 4, none⟩) (n - i) sc]).run Tryz.prog W = .ok (goInt (n - i : Nat)) (W.setRow w.heap.size X.toArray) := fun W hW ty dc sc => by
    have h := run_copy_cellsK (P := Tryz.prog) W 24 24 ty 48 4 w.heap.size ((i + 1) * 4) (n - i) dc (n - i) (n - i) (.slice (some ⟨g, i * 4, none⟩) (n - i) sc) Y.toArray 48 (cs.drop (i * 4)) Tryz.underlying24 hszH (by rw [hW]; exact setRow_heap _ _ _ _ _ _ hN) (by simp [Builtin.lenOf]) (by simp only [Nat.min_def]; split <;> omega)
      (run_cells_of W 4 (n - i) g (i * 4) (n - i) sc cur e _ (by rw [hW, setRow_other _ _ _ _ (by omega)]; exact hOg) hdl hdcs) (by simp; omega) (fun v hv => hc1 v (List.mem_of_mem_drop hv))
    rw [hX]
    simpa using h
  rw [← hG]
  clear hkk hik hold hZR hG hY hX hYl hZRl hN hOg hOv hdl hdcs htl hcz
  have hE1 : ((w.alloc (.cells ZR.toArray 48)).drew).heap = (w.drew.alloc (.cells ZR.toArray 48)).heap := rfl
  have hF1 : (((w.alloc (.cells ZR.toArray 48)).drew.setRow w.heap.size Y.toArray).drew).heap = ((w.drew.alloc (.cells ZR.toArray 48)).setRow w.heap.size Y.toArray).heap := rfl
  have hGi : ¬ (G = i) := by omega
  have hGim : ¬ (G = i + 1) := by omega
  go_enter Tryz.func39, Tryz.ntmps39
  go_wp2_with (first
    | (at_builtin; refine Lib.wpList_append_run _ rfl _ _ _ _ rfl _ _ rfl rfl _ _ (hrz _) ?_)
    | (at_builtin; refine wpList_copy_runI _ rfl _ _ 24 24 rfl _ _ rfl rfl (hcpA _ hE1 _ _) ?_))
  go_region_law_o (refine step_copy_runI rfl _ _ 24 24 rfl (.slice (some ⟨w.heap.size, (i + 1) * 4, none⟩) (n - i) (G - (i + 1))) (.slice (some ⟨g, i * 4, none⟩) (n - i) (n - i)) (by simp [Act.eval, Act.put]) (by simp [Act.eval, Act.put]) (hcpB _ hF1 3 (G - (i + 1)) (n - i)) ?_)
  go_wp2
  go_ret
  exact ⟨rfl, X, hXl, hXt, Y, ZR, rfl⟩
set_option maxHeartbeats 4000000 in
set_option maxRecDepth 100000 in
theorem ins_end (w w1 : World) (g n c gv cv : Nat) (v' : Value) (hb : n ≤ c) (hc : c ≤ maxLen)
    (hr : ∀ ty, (Builtin.append_ #[24, 24] ty #[.slice (some ⟨g, 0, none⟩) n c, .slice (some ⟨gv, 0, none⟩) 1 cv]).run Tryz.prog w = .ok v' w1) :
    Calls Tryz.prog 39 #[.slice (some ⟨g, 0, none⟩) n c, .int .i64 n, .slice (some ⟨gv, 0, none⟩) 1 cv] w fun ex w' => ex = .returned v' ∧ w' = w1 := by
  unfold maxLen at hc
  have mixed : Tryz.prog.follows .mixedOrders = true := by kernel_rfl
  go_enter Tryz.func39, Tryz.ntmps39
  go_wp2_with (at_builtin; refine Lib.wpList_append_run _ rfl _ _ _ _ rfl _ _ rfl rfl _ _ (hr _) ?_)
  all_goals (go_ret; exact ⟨rfl, rfl⟩)
set_option maxHeartbeats 4000000 in
set_option maxRecDepth 100000 in
theorem ins_nil (w w1 : World) (b : Option Addr) (gv cv : Nat) (v' : Value)
    (hr : ∀ ty, (Builtin.append_ #[24, 24] ty #[.slice b 0 0, .slice (some ⟨gv, 0, none⟩) 1 cv]).run Tryz.prog w = .ok v' w1) :
    Calls Tryz.prog 39 #[.slice b 0 0, .int .i64 0, .slice (some ⟨gv, 0, none⟩) 1 cv] w fun ex w' => ex = .returned v' ∧ w' = w1 := by
  have mixed : Tryz.prog.follows .mixedOrders = true := by kernel_rfl
  cases b with
  | none =>
    go_enter Tryz.func39, Tryz.ntmps39
    go_wp2_with (at_builtin; refine Lib.wpList_append_run _ rfl _ _ _ _ rfl _ _ rfl rfl _ _ (hr _) ?_)
    go_ret
    exact ⟨rfl, rfl⟩
  | some a =>
    obtain ⟨g, o, sp⟩ := a
    go_enter Tryz.func39, Tryz.ntmps39
    go_wp2_with (at_builtin; refine Lib.wpList_append_run _ rfl _ _ _ _ rfl _ _ rfl rfl _ _ (hr _) ?_)
    all_goals (go_ret; exact ⟨rfl, rfl⟩)
theorem step_append_runI {ops : Array Oper} {o : Oper} {a : Act} {w : World} {K : Act → World → Prop} {Q : Exit → Act → World → Prop} {E : Prop}
    (hg : o.guard = none) (d x : Operand) (dT sT : TypeId) (hop : o.op = Op.call { callee := Callee.builtin Builtin.append, args := #[d, x], argTypes := #[dT, sT] })
    (v u : Value) (hd : a.eval d = v) (hx : a.eval x = u) {v' : Value} {w' : World} (hr : (Builtin.append_ #[dT, sT] o.type #[v, u]).run P w = .ok v' w') (hK : K (a.put o.dst v') w') :
    if Region.wanted o (yielded ops a.tmps) = true then Oper.wp P o a w K Q else E := by
  have hw : Region.wanted o (yielded ops a.tmps) = true := by simp [Region.wanted, hg]
  rw [if_pos hw]
  unfold Oper.wp
  simp [execOp, hop, resolve, invoke, builtin, hd, hx, hr, Result.andThen]
  exact hK
theorem wp_clear_runI (w : World) {o : Oper} {a : Act} {K : Act → World → Prop} {Q : Exit → Act → World → Prop} (d : Operand) (t : TypeId)
    (ho : o.op = .call { callee := .builtin .clear, args := #[d], argTypes := #[t] }) (v : Value) (hd : a.eval d = v) {v' : Value} {w' : World}
    (hr : (Builtin.clear_ #[t] o.type #[v]).run P w = .ok v' w') (h : K (a.put o.dst v') w') : o.wp P a w K Q := by
  unfold Oper.wp execOp
  simp only [ho, resolve, invoke, builtin, Sem.run_bind, Sem.run_pure, Result.andThen_ok, List.map_toArray, List.map_cons, List.map_nil, hd, hr]
  exact h
theorem wpList_clear_runI (w : World) {ops : Array Oper} {rest : List Oper} {o : Oper} {a : Act} {Q : Exit → Act → World → Prop} (hgd : o.guard = none) (d : Operand) (t : TypeId)
    (ho : o.op = .call { callee := .builtin .clear, args := #[d], argTypes := #[t] }) (v : Value) (hd : a.eval d = v) {v' : Value} {w' : World}
    (hr : (Builtin.clear_ #[t] o.type #[v]).run P w = .ok v' w') (h : wpList P ops Q rest (a.put o.dst v') w') : wpList P ops Q (o :: rest) a w :=
  wpList_plain hgd fun _ hK => wp_clear_runI w d t ho v hd hr (hK _ _ h)
end
end Go.Proofs.YtinhfnbmgmociaaGreatDoor.Ab

namespace Go.Proofs.YtinhfnbmgmociaaGreatDoor.Ab
open Go.RowKit
set_option linter.unusedVariables false
set_option linter.unusedSimpArgs false

theorem omem_row {w : World} {ok : Nat → Prop} {g c sz : Nat} {e : TypeId} {xs : List SV} {us : List Value} {cur : Array Value} (h0 : 0 < sz) (hh : w.heap[g]? = some (.cells cur e (0, 0))) (hcs : cur.size = c * sz) (hne : xs = [] → c = 0)
    (hle : xs.length ≤ c) (hc : c ≤ maxLen) (hr : RepL w ok xs us) (hu : ∀ u ∈ us, u.cells.size = sz ∧ ∀ y ∈ u.cells, y.oneCell' = true) (ht : cur.toList.take (us.length * sz) = flat us) : OMem w ok (some (g, c, sz)) (.row sz xs) := by
  refine ⟨h0, .inr ⟨g, c, e, cur, us, rfl, hh, hne, hle, hc, hcs, hr, fun i u hi => ⟨(hu u (List.mem_of_getElem? hi)).1, (hu u (List.mem_of_getElem? hi)).2, fun j y hj => ?_⟩⟩⟩
  have h1 := flat_get us (fun u hu2 => (hu u hu2).1) i u hi j y hj
  change (flat us)[i * sz + j]? = some y at h1
  rw [← ht, List.getElem?_take] at h1
  split at h1
  · rw [← Array.getElem?_toList]; exact h1
  · cases h1
/-- A row's cells, as they lie. -/
theorem row_cur {cur : Array Value} {sz : Nat} {us : List Value} (h0 : 0 < sz) (hu : ∀ (i : Nat) (u : Value), us[i]? = some u → u.cells.size = sz ∧ (∀ y ∈ u.cells, y.oneCell' = true) ∧ ∀ (j : Nat) (y : Value), u.cells[j]? = some y → cur[i * sz + j]? = some y) :
    (flat us).length = us.length * sz ∧ (∀ v ∈ flat us, v.oneCell' = true) ∧ ∀ (j : Nat) (v : Value), (flat us)[j]? = some v → cur[j]? = some v := by
  have hs : ∀ u ∈ us, u.cells.size = sz := fun u hm => by obtain ⟨j, hj⟩ := List.getElem?_of_mem hm; exact (hu j u hj).1
  have hl : (flat us).length = us.length * sz := by unfold flat; exact flat_len us hs
  refine ⟨hl, fun v hv => ?_, fun j v hv => ?_⟩
  · simp only [flat, List.mem_flatMap] at hv
    obtain ⟨u, hm, hv⟩ := hv
    obtain ⟨j, hj⟩ := List.getElem?_of_mem hm
    exact (hu j u hj).2.1 v (by simpa using hv)
  · have hlt : j < us.length * sz := by rw [← hl]; exact (List.getElem?_eq_some_iff.1 hv).1
    have hdj : j = (j / sz) * sz + j % sz := by rw [Nat.mul_comm]; exact (Nat.div_add_mod j _).symm
    have hq : j / sz < us.length := by rw [Nat.div_lt_iff_lt_mul h0]; exact hlt
    obtain ⟨k1, k2, k3⟩ := hu _ _ (List.getElem?_eq_getElem hq)
    have hlt2 : j % sz < us[j / sz].cells.size := by rw [k1]; exact Nat.mod_lt j h0
    have a1 := k3 _ _ (Array.getElem?_eq_getElem hlt2)
    have a2 := flat_get us hs _ _ (List.getElem?_eq_getElem hq) _ _ (Array.getElem?_eq_getElem hlt2)
    rw [← hdj] at a1 a2
    change (flat us)[j]? = _ at a2
    rw [a2] at hv
    rw [a1]; exact hv
theorem flat_take {sz : Nat} : ∀ (vs : List Value), (∀ u ∈ vs, u.cells.size = sz) → ∀ i, (flat vs).take (i * sz) = flat (vs.take i)
  | [], _, i => by simp [flat]
  | v :: vs, h, 0 => by simp [flat]
  | v :: vs, h, i + 1 => by
    have hv := h v List.mem_cons_self
    have ih := flat_take vs (fun u hu => h u (List.mem_cons_of_mem _ hu)) i
    unfold flat at ih ⊢
    rw [List.flatMap_cons, List.take_succ_cons, List.flatMap_cons, List.take_append, List.take_of_length_le (by rw [Array.length_toList, hv, Nat.add_mul]; omega), Array.length_toList, hv, show (i + 1) * sz - sz = i * sz by rw [Nat.add_mul]; omega, ih]
theorem flat_drop {sz : Nat} : ∀ (vs : List Value), (∀ u ∈ vs, u.cells.size = sz) → ∀ i, (flat vs).drop (i * sz) = flat (vs.drop i)
  | [], _, i => by simp [flat]
  | v :: vs, h, 0 => by simp [flat]
  | v :: vs, h, i + 1 => by
    have hv := h v List.mem_cons_self
    have ih := flat_drop vs (fun u hu => h u (List.mem_cons_of_mem _ hu)) i
    unfold flat at ih ⊢
    rw [List.flatMap_cons, List.drop_succ_cons, List.drop_append, List.drop_eq_nil_of_le (by rw [Array.length_toList, hv, Nat.add_mul]; omega), Array.length_toList, hv, show (i + 1) * sz - sz = i * sz by rw [Nat.add_mul]; omega, ih]
    rfl

section
variable {kp : Nat → Prop} {w : World} {E : Env} {st : St} {a : Act} {P : Program} {ops : Array Oper} {l : List Oper} {K : St → Prop} {o : Oper}
/-- What such a call has done. -/
def Took (w : World) (E : Env) (t sz : Nat) (new : List SV) (ex : Ending) (w' : World) (x : Option (Nat × Nat × Nat)) (v : Value) : Prop :=
  ex = .returned v ∧ (w'.os = w.os ∧ w'.tape = w.tape ∧ w'.output = w.output) ∧ w.heap.size ≤ w'.heap.size ∧
    (∀ i, i < w.heap.size → (∀ c s, E.at_ t = some (i, c, s) → False) → w'.heap[i]? = w.heap[i]?) ∧
    (∀ g c s, x = some (g, c, s) → (w.heap.size ≤ g ∧ g < w'.heap.size) ∨ (∃ c' s', E.at_ t = some (g, c', s'))) ∧
    OMem w' E.ok x (.row sz new)
theorem Rn.takes {f : FuncId} {xs : Array Operand} {ts : Array TypeId} {t d sz : Nat} {old new : List SV} (X : AV) (hg : grd ops st o = some true) (ho : o.op = .call { callee := .value (.func f), args := xs, argTypes := ts })
    (hm : lk st.m t = some (.row sz old)) (hd : o.dst = some d) (hf : st.fresh d = true) (hn : d < st.n) (hcall : ∀ (cargs : Array Value) (w : World), (callFunc f cargs).run P w = .ok (.enter f cargs) w)
    (hc : ∀ (keep : Nat → Prop) (w : World) (E : Env) (a : Act), Inv keep w E st a → Calls P f (xs.map a.eval) w (fun ex w' => ∃ (x : Option (Nat × Nat × Nat)) (v : Value), Took w E t sz new ex w' x v ∧
      RepV w' (E.set d x) (lk (up (rm st.m t) d (.row sz new))) X v))
    (h : Rn P ops l K { st with t := up st.t d X, m := up (rm st.m t) d (.row sz new) }) : Rn P ops (o :: l) K st := fun keep w E a hI => by
  unfold wpList
  rw [if_pos (grd_run hI hg)]
  refine .inl ?_
  have hrun : (execOp a.eval o).run P w = .ok (.enter f (xs.map a.eval)) w := by
    unfold execOp
    rw [ho]
    simp [resolve, Deferred.ofValue, Act.eval, invoke, hcall]
  unfold Oper.wp
  rw [hrun, Oper.upon_enter]
  refine (hc keep w E a hI).mono ?_
  rintro e w' ⟨x, v, ⟨rfl, h1, h2, h3, h4, h5⟩, h6⟩
  have hold : ∀ i, i < w.heap.size → (∀ o c s, lk st.m t = some o → E.at_ t = some (i, c, s) → False) → w'.heap[i]? = w.heap[i]? := fun i hi hh => h3 i hi fun c s hx => hh _ c s hm hx
  have hA : Inv keep w' (E.set d x) { st with m := up (rm st.m t) d (.row sz new) } a :=
    hI.re hf h2 hold (fun g c s hx => (h4 g c s hx).imp (fun h => h) (fun ⟨c', s', h⟩ => ⟨_, c', s', hm, h⟩)) (by
      unfold OMem at h5
      have : (E.set d x).at_ d = x := by simp [Env.set]
      simp only [MemRep] at h5 ⊢
      rw [this]
      exact h5)
  have hB := hA.put (dst := some d) (x := X) (v := v) (by simpa [St.fitsDst] using hn) h6
  have hev : Evo keep w E w' (E.set d x) := Evo.re hI (t := t) h1 h2 hold rfl (Env.set_pin (St.fresh_pin hf))
  rw [← hd] at hB
  have hB' : Inv keep w' (E.set d x) { st with t := up st.t d X, m := up (rm st.m t) d (.row sz new) } (a.put o.dst v) := by
    rw [hd] at hB ⊢
    exact hB
  refine Rn.freeze.wpList_mono' ?_ (h keep w' _ _ hB')
  rintro e a2 w2 ⟨st2, E3, k1, k2, k3⟩
  exact ⟨st2, E3, k1, hev.trans k2, k3⟩
end
section
variable {w : World} {E : Env} {st : St} {a : Act}
def insAt (old : List SV) (i : Nat) (h : SV) : List SV := old.take i ++ [h] ++ old.drop i
theorem insAt_len (old : List SV) (i : Nat) (h : SV) (hi : i ≤ old.length) : (insAt old i h).length = old.length + 1 := by
  unfold insAt; rw [List.length_append, List.length_append, List.length_take, List.length_drop]; simp; omega
theorem repL_ins {ok : Nat → Prop} {old : List SV} {i : Nat} {h : SV} {vs : List Value} {u : Value} (h1 : RepL w ok old vs) (h2 : RepS w ok h u) : RepL w ok (insAt old i h) (vs.take i ++ [u] ++ vs.drop i) := by
  have hl := h1.len
  have ht : RepL w ok (old.take i) (vs.take i) := RepL.of (by rw [List.length_take, List.length_take, hl]) fun j x v hx hv => by
    rw [List.getElem?_take] at hx hv
    split at hx
    · rw [if_pos (by assumption)] at hv; exact h1.get j x v hx hv
    · cases hx
  have hd : RepL w ok (old.drop i) (vs.drop i) := RepL.of (by rw [List.length_drop, List.length_drop, hl]) fun j x v hx hv => by
    rw [List.getElem?_drop] at hx hv; exact h1.get _ x v hx hv
  exact (ht.append (by simp only [RepL]; exact ⟨u, [], rfl, h2, rfl⟩)).append hd
set_option maxHeartbeats 1000000 in
theorem insert_took {kp : Nat → Prop} (hI : Inv kp w E st a) {x y z : Operand} {t tv : Nat} {old : List SV} {h : SV} {i : Nat} (hx : aval st x = some (.own t)) (hm : lk st.m t = some (.row 4 old)) (hy : aval st y = some (.sv (iv (i : Int))))
    (hz : aval st z = some (.own tv)) (hmv : lk st.m tv = some (.row 4 [h])) (hne : t ≠ tv) (hi : i ≤ old.length) (hb : (old.length + 1) * 49 ≤ 140737488355328) :
    Calls Tryz.prog 39 #[a.eval x, a.eval y, a.eval z] w (fun ex w' => ∃ (q : Option (Nat × Nat × Nat)) (v : Value), Took w E t 4 (insAt old i h) ex w' q v ∧
      ∃ g c s, q = some (g, c, s) ∧ v = .slice (some ⟨g, 0, none⟩) (insAt old i h).length c) := by
  have hvx := aval_rep hI hx
  have hvy := aval_rep hI hy
  have hvz := aval_rep hI hz
  simp only [RepV, hm, hmv] at hvx hvz
  simp only [RepV, iv, RepS] at hvy
  rw [hvy]
  obtain ⟨_, hmm⟩ := hI.mm tv _ hmv
  rcases hmm with ⟨_, h9⟩ | ⟨gv, cv, ev, curv, us, b1, b2, b3, b4, b5, b6, b7, b8⟩
  · cases h9
  rw [b1] at hvz
  simp only [List.length_cons, List.length_nil, Nat.zero_add] at hvz
  rw [hvz]
  obtain ⟨u, rfl, hu⟩ : ∃ u, us = [u] ∧ RepS w E.ok h u := by
    simp only [RepL] at b7
    obtain ⟨u, _, rfl, h1, rfl⟩ := b7
    exact ⟨u, rfl, h1⟩
  obtain ⟨v1, v2, v3⟩ := row_cur (by decide) b8
  have hfu : flat [u] = u.cells.toList := by simp [flat]
  rw [hfu] at v1 v2 v3
  simp only [List.length_cons, List.length_nil, Nat.zero_add, Nat.one_mul] at v1
  have hu4 := b8 0 u rfl
  have hown := fun g c s h => hI.own t _ g c s hm h
  have hokk : ∀ {w' : World} (g : Nat), (∀ b, b ≠ g → b < w.heap.size → w'.heap[b]? = w.heap[b]?) → ¬ E.ok g → ∀ b, E.ok b → E.ok b ∧ w'.heap[b]? = w.heap[b]? := fun g h1 h2 b hb => ⟨hb, h1 b (fun e => h2 (e ▸ hb)) (hI.okl b hb)⟩
  have hinfo : (Tryz.prog.info? 48).isSome = true := by kernel_rfl
  obtain ⟨i0, hi0⟩ := Option.isSome_iff_exists.1 hinfo
  have hsz : i0.size = 4 := by have h : (Tryz.prog.info? 48).map (·.size) = some 4 := by kernel_rfl
                               simpa [hi0] using h
  have hby : i0.bytes = 48 := by have h : (Tryz.prog.info? 48).map (·.bytes) = some 48 := by kernel_rfl
                                 simpa [hi0] using h
  have hz0 : i0.zero = some (.agg #[.int .i64 0, .slice none 0 0, .int .i64 0, .int .i64 0]) := by
    have h : tzero Tryz.prog 48 = some (.agg #[.int .i64 0, .slice none 0 0, .int .i64 0, .int .i64 0]) := tze48
    simpa [tzero, hi0] using h
  have hlen1 : ∀ w', (Builtin.lenOf (.slice (some ⟨gv, 0, none⟩) 1 cv)).run Tryz.prog w' = .ok 1 w' := fun w' => by simp [Builtin.lenOf]
  have hfirst1 : ∀ w', w'.heap = w.heap → (Builtin.firstCells i0.size 1 (.slice (some ⟨gv, 0, none⟩) 1 cv)).run Tryz.prog w' = .ok u.cells.toList.toArray w' := fun w' hw => by
    rw [hsz]
    exact run_cells_of w' 4 1 gv 0 1 cv curv ev _ (by rw [hw]; exact b2) (by omega) (fun j v hj => by rw [Nat.zero_add]; exact v3 j v hj)
  obtain ⟨_, hmm⟩ := hI.mm t _ hm
  rcases hmm with ⟨h1, rfl⟩ | ⟨g, c, e, cur, vs, h1, h2, h3, h4, h5, h6, h7, h8⟩
  · rw [h1] at hvx
    obtain ⟨b, hvx⟩ := hvx
    have hi0' : i = 0 := by simpa using hi
    subst hi0'
    rw [hvx]
    have hr := fun ty => run_append_grows (P := Tryz.prog) (w := w) (t := 24) (ty := ty) (b := b) (sLen := 0) (sCap := 0) (olds := []) (news := u.cells.toList) Tryz.underlying24 hi0 hz0 (hlen1 w) (by
        cases b with
        | none => exact run_firstCells_none _ _ _ _ _
        | some ad => exact run_firstCells_some w.drew i0.size 0 ad 0 0 [] (by simp) (fun j v hv => by simp at hv)) (hfirst1 w.drew rfl) (by omega) (by omega) (by rw [hby]; exact growslice_fits (by omega) (by omega))
    have hge := grownCap_ge w 1 0 48
    have hle := grownCap_le_maxLen w 1 0 48 (by simp only [maxLen]; omega)
    simp only [Nat.zero_add] at hr
    refine (ins_nil w _ b gv cv _ hr).mono ?_
    rintro ex w' ⟨rfl, rfl⟩
    refine ⟨some (w.heap.size, grownCap w 1 0 48, 4), _, ⟨rfl, ⟨rfl, rfl, rfl⟩, by simp, fun i hi _ => Go.heap_alloc_old w.drew _ hi, fun g c s h => by simp at h; obtain ⟨rfl, _, _⟩ := h; exact .inl ⟨by omega, by simp⟩, ?_⟩, _, _, _, rfl, rfl⟩
    refine omem_row (us := [u]) (by decide) (Go.heap_alloc_new w.drew _) ?_ (fun h => by simp [insAt] at h) (by simpa [insAt] using hge) hle ?_ (fun u' hu' => by rw [List.mem_singleton.1 hu']; exact ⟨hu4.1, hu4.2.1⟩) ?_
    · simp only [List.size_toArray, Array.size_append, size_zeroCells, List.length_nil, Nat.zero_add, v1]
      have : (Value.agg #[.int .i64 0, .slice none 0 0, .int .i64 0, .int .i64 0]).cells.size = 4 := by kernel_rfl
      rw [this]; omega
    · have : insAt ([] : List SV) 0 h = [h] := rfl
      rw [this]
      simp only [RepL]
      exact ⟨u, [], rfl, RepS.keep (w := w) (fun b hb => ⟨hb, Go.heap_alloc_old w.drew _ (hI.okl b hb)⟩) hu, rfl⟩
    · rw [hfu]
      simp only [List.length_cons, List.length_nil, Nat.zero_add, Nat.one_mul]
      simp only [Array.toList_append, List.nil_append]
      rw [List.take_append_of_le_length (by simp; omega), List.take_of_length_le (by simp; omega)]
  · rw [h1] at hvx
    dsimp only at hvx
    rw [hvx]
    obtain ⟨f1, f2, f3⟩ := row_cur (by decide) h8
    have hvl := h7.len
    have hgo := hown g c 4 h1
    have hvs4 : ∀ u ∈ vs, u.cells.size = 4 ∧ ∀ y ∈ u.cells, y.oneCell' = true := fun u hm => by obtain ⟨j, hj⟩ := List.getElem?_of_mem hm; exact ⟨(h8 j u hj).1, (h8 j u hj).2.1⟩
    have hus4 : ∀ u' ∈ vs.take i ++ [u] ++ vs.drop i, u'.cells.size = 4 ∧ ∀ y ∈ u'.cells, y.oneCell' = true := fun u' hm => by
      rcases List.mem_append.1 hm with hm | hm
      · rcases List.mem_append.1 hm with hm | hm
        · exact hvs4 u' (List.mem_of_mem_take hm)
        · rw [List.mem_singleton.1 hm]; exact ⟨hu4.1, hu4.2.1⟩
      · exact hvs4 u' (List.mem_of_mem_drop hm)
    have hflat : flat (vs.take i ++ [u] ++ vs.drop i) = (flat vs).take (i * 4) ++ u.cells.toList ++ (flat vs).drop (i * 4) := by
      rw [flat_append, flat_append, hfu, flat_take vs (fun u hu => (hvs4 u hu).1), flat_drop vs (fun u hu => (hvs4 u hu).1)]
    have hul : (vs.take i ++ [u] ++ vs.drop i).length = old.length + 1 := by rw [List.length_append, List.length_append, List.length_take, List.length_drop]; simp; omega
    have hil := insAt_len old i h hi
    have hgv : gv ≠ g := fun e => hne (hI.inj t tv _ _ g c 4 cv 4 hm hmv h1 (e ▸ b1))
    have hcurt : cur.toList.take (old.length * 4) = flat vs := by
      refine List.ext_getElem? fun j => ?_
      rw [List.getElem?_take]
      by_cases hj : j < old.length * 4
      · have hlt : j < (flat vs).length := by rw [f1, ← hvl]; exact hj
        rw [if_pos hj, Array.getElem?_toList, f3 j _ (List.getElem?_eq_getElem hlt), List.getElem?_eq_getElem hlt]
      · rw [if_neg hj, List.getElem?_eq_none (by rw [f1, ← hvl]; omega)]
    have hcul : cur.toList.length = c * 4 := by rw [Array.length_toList, h6]
    by_cases hin : i = old.length
    · subst hin
      have hd0 : (flat vs).drop (old.length * 4) = [] := List.drop_eq_nil_of_le (by rw [f1, ← hvl]; omega)
      have ht0 : (flat vs).take (old.length * 4) = flat vs := List.take_of_length_le (by rw [f1, ← hvl]; omega)
      rw [hd0, ht0, List.append_nil] at hflat
      by_cases hroom : old.length + 1 ≤ c
      · have hr := fun ty => run_append_fits (P := Tryz.prog) (w := w) (t := 24) (ty := ty) (sLen := old.length) (sCap := c) (news := u.cells.toList) Tryz.underlying24 hi0 h2 (hlen1 w) (hfirst1 w rfl) (by rw [v1, hsz]) v2 hroom (by rw [v1, hsz, h6]; omega)
        refine (ins_end w _ g old.length c gv cv _ h4 h5 hr).mono ?_
        rintro ex w' ⟨rfl, rfl⟩
        have hk : ∀ b, b ≠ g → b < w.heap.size → (w.setRow g (setAt cur.toList (old.length * i0.size) u.cells.toList).toArray).heap[b]? = w.heap[b]? := fun b hb _ => setRow_other w g b _ hb
        refine ⟨some (g, c, 4), _, ⟨rfl, ⟨rfl, rfl, rfl⟩, by simp, fun j hj hne => setRow_other w g j _ (fun h9 => hne c 4 (h9 ▸ h1)), fun g' c' s' h => by simp at h; obtain ⟨rfl, rfl, rfl⟩ := h; exact .inr ⟨c, 4, h1⟩, ?_⟩, _, _, _, rfl, by rw [hil]⟩
        have hsl : (setAt cur.toList (old.length * i0.size) u.cells.toList).length = c * 4 := by rw [setAt_length _ _ _ (by rw [hcul, v1, hsz]; omega), hcul]
        refine omem_row (us := vs.take old.length ++ [u] ++ vs.drop old.length) (by decide) (setRow_heap w g cur _ e _ h2) (by simp only [List.size_toArray]; exact hsl) (fun h => by rw [h] at hil; simp at hil) (by rw [hil]; exact hroom) h5 (repL_ins (h7.keep (hokk g hk hgo.2.1)) (hu.keep (hokk g hk hgo.2.1))) hus4 ?_
        rw [hul, hflat]
        simp only [setAt, hsz]
        rw [hcurt, List.append_assoc, ← List.append_assoc, List.take_append_of_le_length (by rw [List.length_append, f1, ← hvl, v1]; omega), List.take_of_length_le (by rw [List.length_append, f1, ← hvl, v1]; omega)]
      · have hcn : c = old.length := by omega
        have hr := fun ty => run_append_grows (P := Tryz.prog) (w := w) (t := 24) (ty := ty) (b := some ⟨g, 0, none⟩) (sLen := old.length) (sCap := c) (olds := flat vs) (news := u.cells.toList) Tryz.underlying24 hi0 hz0 (hlen1 w)
          (by rw [hsz]; exact run_cells_of w.drew 4 old.length g 0 _ _ cur e _ h2 (by rw [f1, hvl]) (fun j v hj => by rw [Nat.zero_add]; exact f3 j v hj)) (hfirst1 w.drew rfl) (by omega) (by omega) (by rw [hby]; exact growslice_fits (by omega) (by omega))
        have hge := grownCap_ge w (old.length + 1) c 48
        have hle := grownCap_le_maxLen w (old.length + 1) c 48 (by simp only [maxLen]; omega)
        refine (ins_end w _ g old.length c gv cv _ h4 h5 hr).mono ?_
        rintro ex w' ⟨rfl, rfl⟩
        refine ⟨some (w.heap.size, grownCap w (old.length + 1) c 48, 4), _, ⟨rfl, ⟨rfl, rfl, rfl⟩, by simp, fun i hi _ => Go.heap_alloc_old w.drew _ hi, fun g c s h => by simp at h; obtain ⟨rfl, _, _⟩ := h; exact .inl ⟨by omega, by simp⟩, ?_⟩, _, _, _, rfl, by rw [hil]⟩
        have hk : ∀ b, E.ok b → E.ok b ∧ (w.drew.alloc (.cells ((flat vs).toArray ++ u.cells.toList.toArray ++ Builtin.zeroCells (Value.agg #[.int .i64 0, .slice none 0 0, .int .i64 0, .int .i64 0]).cells (grownCap w (old.length + 1) c 48 - (old.length + 1))) 48)).heap[b]? = w.heap[b]? := fun b hb => ⟨hb, Go.heap_alloc_old w.drew _ (hI.okl b hb)⟩
        refine omem_row (us := vs.take old.length ++ [u] ++ vs.drop old.length) (by decide) (Go.heap_alloc_new w.drew _) ?_ (fun h => by rw [h] at hil; simp at hil) (by rw [hil]; exact hge) hle (repL_ins (h7.keep hk) (hu.keep hk)) hus4 ?_
        · simp only [List.size_toArray, Array.size_append, size_zeroCells, f1, v1]
          have : (Value.agg #[.int .i64 0, .slice none 0 0, .int .i64 0, .int .i64 0]).cells.size = 4 := by kernel_rfl
          rw [this, ← hvl]; omega
        · rw [hul, hflat]
          simp only [Array.toList_append, List.append_assoc]
          rw [← List.append_assoc, List.take_append_of_le_length (by simp only [List.length_append]; rw [f1, ← hvl, v1]; omega), List.take_of_length_le (by simp only [List.length_append]; rw [f1, ← hvl, v1]; omega)]
    · have hlt : i < old.length := by omega
      have htk : ((flat vs).take (i * 4)).length = i * 4 := by rw [List.length_take, f1, ← hvl]; omega
      have hdk : ((flat vs).drop (i * 4)).length = (old.length - i) * 4 := by rw [List.length_drop, f1, ← hvl]; omega
      by_cases hroom : old.length + 1 ≤ c
      · refine (ins_shift w g gv old.length c cv i cur curv e ev (flat vs) u.cells.toList hlt hroom h5 h2 b2 hgv h6 (by rw [f1, hvl]) f3 f2 v1 v3 v2).mono ?_
        rintro ex w' ⟨rfl, rfl⟩
        generalize hX1 : setAt cur.toList ((i + 1) * 4) ((flat vs).drop (i * 4)) = X1
        have hX1l : X1.length = c * 4 := by rw [← hX1, setAt_length _ _ _ (by rw [hcul, hdk]; omega), hcul]
        have hk : ∀ b, b ≠ g → b < w.heap.size → ((w.drew.setRow g X1.toArray).setRow g (setAt X1 (i * 4) u.cells.toList).toArray).heap[b]? = w.heap[b]? := fun b hb _ => by rw [setRow_other _ g b _ hb, setRow_other w.drew g b _ hb]; rfl
        refine ⟨some (g, c, 4), _, ⟨rfl, ⟨rfl, rfl, rfl⟩, by simp, fun j hj hne => hk j (fun h9 => hne c 4 (h9 ▸ h1)) hj, fun g' c' s' h => by simp at h; obtain ⟨rfl, rfl, rfl⟩ := h; exact .inr ⟨c, 4, h1⟩, ?_⟩, _, _, _, rfl, by rw [hil]⟩
        have hsl : (setAt X1 (i * 4) u.cells.toList).length = c * 4 := by rw [setAt_length _ _ _ (by rw [hX1l, v1]; omega), hX1l]
        refine omem_row (us := vs.take i ++ [u] ++ vs.drop i) (by decide) (setRow_heap _ g X1.toArray _ e _ (setRow_heap w.drew g cur _ e _ h2)) (by simp only [List.size_toArray]; exact hsl) (fun h => by rw [h] at hil; simp at hil) (by rw [hil]; exact hroom) h5 (repL_ins (h7.keep (hokk g hk hgo.2.1)) (hu.keep (hokk g hk hgo.2.1))) hus4 ?_
        rw [hul, hflat]
        have hXt : X1.take (i * 4) = (flat vs).take (i * 4) := by
          rw [← hX1]
          simp only [setAt]
          rw [List.append_assoc, List.take_append_of_le_length (by rw [List.length_take, hcul]; omega), List.take_take, Nat.min_eq_left (by omega), ← hcurt, List.take_take, Nat.min_eq_left (by omega)]
        have hXd : X1.drop (i * 4 + u.cells.toList.length) = (flat vs).drop (i * 4) ++ cur.toList.drop ((i + 1) * 4 + (old.length - i) * 4) := by
          rw [← hX1, v1]
          simp only [setAt]
          rw [List.append_assoc, List.drop_left' (by rw [List.length_take, hcul]; omega), hdk]
        simp only [setAt]
        rw [hXt, hXd, ← List.append_assoc, List.take_append_of_le_length (by rw [List.length_append, List.length_append, htk, hdk, v1]; omega), List.take_of_length_le (by rw [List.length_append, List.length_append, htk, hdk, v1]; omega)]
      · have hcn : c = old.length := by omega
        subst hcn
        refine (ins_grow w g gv old.length cv i cur curv e ev (flat vs) u.cells.toList hlt (by omega) h2 b2 h6 (by rw [f1, hvl]) f3 f2 v1 v3 v2).mono ?_
        rintro ex w' ⟨rfl, X, hXl, hXt, Y, Z, rfl⟩
        have hge := grownCap_ge w (old.length + 1) old.length 48
        have hle := grownCap_le_maxLen w (old.length + 1) old.length 48 (by simp only [maxLen]; omega)
        generalize hG : grownCap w (old.length + 1) old.length 48 = G at *
        have hN : ((((w.alloc (.cells Z.toArray 48)).drew.setRow w.heap.size Y.toArray).drew).setRow w.heap.size X.toArray).heap[w.heap.size]? = some (.cells X.toArray 48 (0, 0)) :=
          setRow_heap _ _ Y.toArray _ _ _ (setRow_heap ((w.alloc (.cells Z.toArray 48)).drew) _ Z.toArray _ _ _ (Go.heap_alloc_new w _))
        have hO : ∀ b, b < w.heap.size → ((((w.alloc (.cells Z.toArray 48)).drew.setRow w.heap.size Y.toArray).drew).setRow w.heap.size X.toArray).heap[b]? = w.heap[b]? := fun b hb => by
          rw [setRow_other _ _ b _ (by omega)]
          show ((w.alloc (.cells Z.toArray 48)).drew.setRow w.heap.size Y.toArray).heap[b]? = _
          rw [setRow_other _ _ b _ (by omega)]
          exact Go.heap_alloc_old w _ hb
        have hSz : w.heap.size < ((((w.alloc (.cells Z.toArray 48)).drew.setRow w.heap.size Y.toArray).drew).setRow w.heap.size X.toArray).heap.size := (Array.getElem?_eq_some_iff.1 hN).1
        have hk : ∀ b, E.ok b → E.ok b ∧ ((((w.alloc (.cells Z.toArray 48)).drew.setRow w.heap.size Y.toArray).drew).setRow w.heap.size X.toArray).heap[b]? = w.heap[b]? := fun b hb => ⟨hb, hO b (hI.okl b hb)⟩
        refine ⟨some (w.heap.size, G, 4), _, ⟨rfl, ⟨rfl, rfl, rfl⟩, Nat.le_of_lt hSz, fun b hb _ => hO b hb, fun g c s h => by simp at h; obtain ⟨rfl, _, _⟩ := h; exact .inl ⟨Nat.le_refl _, hSz⟩, ?_⟩, _, _, _, rfl, by rw [hil]⟩
        refine omem_row (us := vs.take i ++ [u] ++ vs.drop i) (by decide) hN (by simp only [List.size_toArray]; exact hXl) (fun h => by rw [h] at hil; simp at hil) (by rw [hil]; exact hge) hle (repL_ins (h7.keep hk) (hu.keep hk)) hus4 ?_
        rw [hul, hflat]
        exact hXt
set_option maxRecDepth 100000 in
theorem OpW.insert {P : Program} {Q : Exit → St → Prop} {ops : Array Oper} {o : Oper} {l : List Oper} {k : List Fr} {st : St} {xs : Array Operand} {ts : Array TypeId} {x y z : Operand} (t tv d : Nat) {old : List SV} {h : SV} {i : Nat} (hP : P = Tryz.prog)
    (ho : o.op = .call { callee := .value (.func 39), args := xs, argTypes := ts }) (hxs : xs = #[x, y, z]) (hg : grd ops st o = some true) (hd : o.dst = some d) (hf : st.fresh d = true) (hn : d < st.n)
    (hx : aval st x = some (.own t)) (hm : lk st.m t = some (.row 4 old)) (hy : aval st y = some (.sv (iv (i : Int)))) (hz : aval st z = some (.own tv)) (hmv : lk st.m tv = some (.row 4 [h])) (hne : t ≠ tv) (hi : i ≤ old.length) (hb : (old.length + 1) * 49 ≤ 140737488355328)
    (hk : Ab.rn P Q ops l k { st with t := up st.t d (.own d), m := up (rm st.m t) d (.row 4 (insAt old i h)) }) : OpW P Q ops o l k st := by
  subst hP
  subst hxs
  refine Rn.takes (.own d) hg ho hm hd hf hn (fun _ _ => Tryz.call39 _ _) (fun keep w E a hI => ?_) (RnK.rn hk)
  rw [show (#[x, y, z] : Array Operand).map a.eval = #[a.eval x, a.eval y, a.eval z] by simp]
  refine (insert_took hI hx hm hy hz hmv hne hi hb).mono ?_
  rintro ex w' ⟨q, v, h1, g, c, s, rfl, rfl⟩
  refine ⟨_, _, h1, ?_⟩
  simp only [RepV]
  rw [lk_up, if_pos rfl]
  simp [Env.set]
def delAt (old : List SV) (i : Nat) : List SV := old.take i ++ old.drop (i + 1)
theorem delAt_len (old : List SV) (i : Nat) (hi : i < old.length) : (delAt old i).length = old.length - 1 := by
  unfold delAt; rw [List.length_append, List.length_take, List.length_drop]; omega
theorem repL_del {ok : Nat → Prop} {old : List SV} {i : Nat} {vs : List Value} (h1 : RepL w ok old vs) : RepL w ok (delAt old i) (vs.take i ++ vs.drop (i + 1)) := by
  have hl := h1.len
  have ht : RepL w ok (old.take i) (vs.take i) := RepL.of (by rw [List.length_take, List.length_take, hl]) fun j x v hx hv => by
    rw [List.getElem?_take] at hx hv
    split at hx
    · rw [if_pos (by assumption)] at hv; exact h1.get j x v hx hv
    · cases hx
  have hd : RepL w ok (old.drop (i + 1)) (vs.drop (i + 1)) := RepL.of (by rw [List.length_drop, List.length_drop, hl]) fun j x v hx hv => by
    rw [List.getElem?_drop] at hx hv; exact h1.get _ x v hx hv
  exact ht.append hd
theorem run_clearK {P : Program} (w : World) (t e ty : TypeId) (i0 : TypeInfo) (z : Value) (g o cc : Nat) (cur : Array Value) (e' : TypeId) (ht : P.underlying t = some (.slice e)) (hi : P.info? e = some i0) (hz : i0.zero = some z)
    (hg : w.heap[g]? = some (.cells cur e' (0, 0))) (hfit : o + (Builtin.zeroCells z.cells 1).toList.length ≤ cur.size) (h1 : ∀ v ∈ (Builtin.zeroCells z.cells 1).toList, v.oneCell' = true) :
    (Builtin.clear_ #[t] ty #[.slice (some ⟨g, o, none⟩) 1 cc]).run P w = .ok (.tuple #[]) (w.setRow g (setAt cur.toList o (Builtin.zeroCells z.cells 1).toList).toArray) := by
  have hst := run_storeCells_at P g o e' (Builtin.zeroCells z.cells 1).toList 0 cur w hg (by simpa using hfit) h1
  simp only [Nat.add_zero] at hst
  simp [Builtin.clear_, run_underlying ht, zeroValue, typeInfo, hi, hz, hst, setAt]
end
end Go.Proofs.YtinhfnbmgmociaaGreatDoor.Ab

namespace Go.Proofs.YtinhfnbmgmociaaGreatDoor.Ab
open Go.RowKit Go.Shelf Go.Sort Go.Lib
set_option linter.unusedVariables false
set_option linter.unusedSimpArgs false
def Tryz.laysSort_ren : Go.Shelf.Ren := ⟨fun | 5 => 50 | 8 => 77 | 7 => 76 | 19 => 104 | 20 => 105 | 10 => 95 | 11 => 96 | 12 => 97 | 13 => 98 | 14 => 99 | 15 => 100 | 16 => 101 | 17 => 102 | 18 => 103 | 30 => 115 | 31 => 116 | 32 => 117 | 33 => 118 | 34 => 119 | 35 => 120 | 40 => 129 | n => n, fun | 23 => 58 | 25 => 2 | 3 => 3 | 32 => 94 | 22 => 58 | 0 => 0 | 44 => 122 | 46 => 90 | 4 => 4 | 36 => 115 | 35 => 114 | 41 => 65 | 5 => 5 | 9 => 9 | 53 => 135 | 57 => 139 | 63 => 147 | 64 => 148 | n => n, fun | n => n⟩
theorem Tryz.laysSort : Go.Proofs.SlLaysM.n5 Tryz.prog Tryz.laysSort_ren where
  mixed := by kernel_rfl
  f5 := ⟨ "slices.Sort[[]int64,int64]", by decide, Tryz.func50.trans (congrArg some (by kernel_rfl))⟩
  f7 := ⟨ "slices.pdqsortOrdered[int64]", by decide, Tryz.func76.trans (congrArg some (by kernel_rfl))⟩
  f8 := Tryz.func77.trans (congrArg some (by kernel_rfl))
  f10 := ⟨ "slices.insertionSortOrdered[int64]", by decide, Tryz.func95.trans (congrArg some (by kernel_rfl))⟩
  f11 := ⟨ "slices.heapSortOrdered[int64]", by decide, Tryz.func96.trans (congrArg some (by kernel_rfl))⟩
  f12 := ⟨ "slices.breakPatternsOrdered[int64]", by decide, Tryz.func97.trans (congrArg some (by kernel_rfl))⟩
  f13 := ⟨ "slices.choosePivotOrdered[int64]", by decide, Tryz.func98.trans (congrArg some (by kernel_rfl))⟩
  f14 := ⟨ "slices.reverseRangeOrdered[int64]", by decide, Tryz.func99.trans (congrArg some (by kernel_rfl))⟩
  f15 := ⟨ "slices.partialInsertionSortOrdered[int64]", by decide, Tryz.func100.trans (congrArg some (by kernel_rfl))⟩
  f16 := ⟨ "cmp.Less[int64]", by decide, Tryz.func101.trans (congrArg some (by kernel_rfl))⟩
  f17 := ⟨ "slices.partitionEqualOrdered[int64]", by decide, Tryz.func102.trans (congrArg some (by kernel_rfl))⟩
  f18 := ⟨ "slices.partitionOrdered[int64]", by decide, Tryz.func103.trans (congrArg some (by kernel_rfl))⟩
  f19 := Tryz.func104.trans (congrArg some (by kernel_rfl))
  f20 := Tryz.func105.trans (congrArg some (by kernel_rfl))
  f30 := ⟨ "slices.siftDownOrdered[int64]", by decide, Tryz.func115.trans (congrArg some (by kernel_rfl))⟩
  f31 := Tryz.func116.trans (congrArg some (by kernel_rfl))
  f32 := Tryz.func117.trans (congrArg some (by kernel_rfl))
  f33 := ⟨ "slices.medianAdjacentOrdered[int64]", by decide, Tryz.func118.trans (congrArg some (by kernel_rfl))⟩
  f34 := ⟨ "slices.medianOrdered[int64]", by decide, Tryz.func119.trans (congrArg some (by kernel_rfl))⟩
  f35 := ⟨ "cmp.isNaN[int64]", by decide, Tryz.func120.trans (congrArg some (by kernel_rfl))⟩
  f40 := ⟨ "slices.order2Ordered[int64]", by decide, Tryz.func129.trans (congrArg some (by kernel_rfl))⟩
  t0 := Tryz.underlying0
  a0 := Tryz.isAgg0
  z0 := Tryz.sizeOf0
  v0 := Tryz.zeroValue0
  t3 := Tryz.underlying3
  a3 := Tryz.isAgg3
  z3 := Tryz.sizeOf3
  v3 := Tryz.zeroValue3
  t4 := Tryz.underlying4
  a4 := Tryz.isAgg4
  z4 := Tryz.sizeOf4
  v4 := Tryz.zeroValue4
  t5 := Tryz.underlying5
  a5 := Tryz.isAgg5
  z5 := Tryz.sizeOf5
  v5 := Tryz.zeroValue5
  t9 := Tryz.underlying9
  a9 := Tryz.isAgg9
  z9 := Tryz.sizeOf9
  v9 := Tryz.zeroValue9
  t22 := Tryz.underlying58
  a22 := Tryz.isAgg58
  z22 := Tryz.sizeOf58
  v22 := Tryz.zeroValue58
  t23 := Tryz.underlying58
  a23 := Tryz.isAgg58
  z23 := Tryz.sizeOf58
  v23 := Tryz.zeroValue58
  t25 := Tryz.underlying2
  a25 := Tryz.isAgg2
  z25 := Tryz.sizeOf2
  v25 := Tryz.zeroValue2
  t32 := Tryz.underlying94
  a32 := Tryz.isAgg94
  z32 := Tryz.sizeOf94
  v32 := Tryz.zeroValue94
  t35 := Tryz.underlying114
  a35 := Tryz.isAgg114
  z35 := Tryz.sizeOf114
  v35 := Tryz.zeroValue114
  t36 := Tryz.underlying115
  a36 := Tryz.isAgg115
  z36 := Tryz.sizeOf115
  v36 := Tryz.zeroValue115
  t41 := Tryz.underlying65
  a41 := Tryz.isAgg65
  z41 := Tryz.sizeOf65
  v41 := Tryz.zeroValue65
  t44 := Tryz.underlying122
  a44 := Tryz.isAgg122
  z44 := Tryz.sizeOf122
  v44 := Tryz.zeroValue122
  t46 := Tryz.underlying90
  a46 := Tryz.isAgg90
  z46 := Tryz.sizeOf90
  v46 := Tryz.zeroValue90
  t53 := Tryz.underlying135
  a53 := Tryz.isAgg135
  z53 := Tryz.sizeOf135
  v53 := Tryz.zeroValue135
  t57 := Tryz.underlying139
  a57 := Tryz.isAgg139
  z57 := Tryz.sizeOf139
  v57 := Tryz.zeroValue139
  t63 := Tryz.underlying147
  a63 := Tryz.isAgg147
  z63 := Tryz.sizeOf147
  v63 := Tryz.zeroValue147
  t64 := Tryz.underlying148
  a64 := Tryz.isAgg148
  z64 := Tryz.sizeOf148
  v64 := Tryz.zeroValue148
def Tryz.laysComp_ren : Go.Shelf.Ren := ⟨fun | 43 => 51 | n => n, fun | 22 => 58 | 23 => 2 | 3 => 3 | 4 => 4 | 0 => 0 | n => n, fun | n => n⟩
theorem Tryz.laysComp : Go.Proofs.SlLaysE.n43 Tryz.prog Tryz.laysComp_ren where
  mixed := by kernel_rfl
  f43 := ⟨ "slices.Compact[[]int64,int64]", by decide, Tryz.func51.trans (congrArg some (by kernel_rfl))⟩
  t0 := Tryz.underlying0
  a0 := Tryz.isAgg0
  z0 := Tryz.sizeOf0
  v0 := Tryz.zeroValue0
  t3 := Tryz.underlying3
  a3 := Tryz.isAgg3
  z3 := Tryz.sizeOf3
  v3 := Tryz.zeroValue3
  t4 := Tryz.underlying4
  a4 := Tryz.isAgg4
  z4 := Tryz.sizeOf4
  v4 := Tryz.zeroValue4
  t22 := Tryz.underlying58
  a22 := Tryz.isAgg58
  z22 := Tryz.sizeOf58
  v22 := Tryz.zeroValue58
  a23 := Tryz.isAgg2
  z23 := Tryz.sizeOf2

theorem putRow_at {enc : Int → Value} {w : World} {g : Nat} {d : Array Int} {cur : Array Value} {e : TypeId} {fr : Nat × Nat} (h : w.heap[g]? = some (.cells cur e fr)) : (putRow enc w g 0 d).heap[g]? = some (.cells (putCells enc 0 d cur) e fr) := by
  unfold putRow mapBlock
  simp only [Array.getElem?_modify, if_true, h, Option.map_some, onCells]
theorem putRow_ne {enc : Int → Value} {w : World} {g b : Nat} {d : Array Int} (h : b ≠ g) : (putRow enc w g 0 d).heap[b]? = w.heap[b]? := by
  unfold putRow mapBlock
  simp only [Array.getElem?_modify, if_neg (Ne.symm h)]
theorem putRow_size {enc : Int → Value} {w : World} {g : Nat} {d : Array Int} : (putRow enc w g 0 d).heap.size = w.heap.size := by
  unfold putRow mapBlock; simp
theorem putCells_size {enc : Int → Value} {d : Array Int} {cur : Array Value} : (putCells enc 0 d cur).size = cur.size := by unfold putCells; simp
theorem putCells_get {enc : Int → Value} {d : Array Int} {cur : Array Value} {j : Nat} (hj : j < d.size) (hc : j < cur.size) : (putCells enc 0 d cur)[j]? = some (enc d[j]!) := by
  unfold putCells
  rw [Array.getElem?_mapIdx, Array.getElem?_eq_getElem hc]
  simp [hj]
theorem rep_ivs {w : World} {ok : Nat → Prop} : ∀ {zs : List Int} {vs : List Value}, RepL w ok (zs.map iv) vs → vs = zs.map (Value.int .i64)
  | [], vs, h => by simpa [RepL] using h
  | z :: zs, vs, h => by
    simp only [List.map_cons, RepL, iv, RepS] at h
    obtain ⟨v, vs', rfl, rfl, h⟩ := h
    rw [rep_ivs h]; rfl
theorem ivs_rep (w : World) (ok : Nat → Prop) : ∀ (zs : List Int), RepL w ok (zs.map iv) (zs.map (Value.int .i64))
  | [] => by simp [RepL]
  | z :: zs => by
    simp only [List.map_cons, RepL, iv, RepS]
    exact ⟨_, _, rfl, rfl, ivs_rep w ok zs⟩
theorem int_cells (z : Int) : (Value.int .i64 z).cells = #[.int .i64 z] := rfl
/-- A row of numbers, from its cells. -/
theorem omem_ints {w : World} {ok : Nat → Prop} {g c : Nat} {e : TypeId} {zs : List Int} {cur : Array Value} (hh : w.heap[g]? = some (.cells cur e (0, 0))) (hcs : cur.size = c) (hne : zs = [] → c = 0) (hle : zs.length ≤ c) (hc : c ≤ maxLen)
    (ht : ∀ (j : Nat) (z : Int), zs[j]? = some z → cur[j]? = some (.int .i64 z)) : OMem w ok (some (g, c, 1)) (.row 1 (zs.map iv)) := by
  refine ⟨by decide, .inr ⟨g, c, e, cur, zs.map (Value.int .i64), rfl, hh, fun h => hne (List.map_eq_nil_iff.1 h), by simpa using hle, hc, by simpa using hcs, ivs_rep w ok zs, fun i u hi => ?_⟩⟩
  rw [List.getElem?_map] at hi
  obtain ⟨z, hz, rfl⟩ := Option.map_eq_some_iff.1 hi
  refine ⟨rfl, fun y hy => ?_, fun j y hj => ?_⟩
  · rw [int_cells] at hy; simp at hy; subst hy; rfl
  · rw [int_cells] at hj
    have : j = 0 := by
      rcases Nat.lt_or_ge j 1 with h | h
      · omega
      · rw [Array.getElem?_eq_none (by simpa using h)] at hj; cases hj
    subst this
    simp at hj; subst hj
    simpa using ht i z hz
theorem ints_omem {w : World} {E : Env} {m : Mem} {t g c sz : Nat} {zs : List Int} (h : MemRep w E m t (.row 1 (zs.map iv))) (ha : E.at_ t = some (g, c, sz)) : ∃ e cur, sz = 1 ∧ w.heap[g]? = some (.cells cur e (0, 0)) ∧ cur.size = c ∧ (zs = [] → c = 0) ∧ zs.length ≤ c ∧ c ≤ maxLen ∧
    ∀ (j : Nat) (z : Int), zs[j]? = some z → cur[j]? = some (.int .i64 z) := by
  obtain ⟨_, hmm⟩ := h
  rcases hmm with ⟨h1, _⟩ | ⟨g', c', e, cur, vs, h1, h2, h3, h4, h5, h6, h7, h8⟩
  · rw [ha] at h1; cases h1
  rw [ha] at h1
  simp only [Option.some.injEq, Prod.mk.injEq] at h1
  obtain ⟨rfl, rfl, rfl⟩ := h1
  refine ⟨e, cur, rfl, h2, by simpa using h6, fun h => h3 (by rw [h]; rfl), by simpa using h4, h5, fun j z hz => ?_⟩
  have hv := rep_ivs h7
  have := (h8 j (.int .i64 z) (by rw [hv, List.getElem?_map, hz]; rfl)).2.2 0 (.int .i64 z) rfl
  simpa using this
def sortL (zs : List Int) : List Int := zs.mergeSort fun x y => decide (x ≤ y)
theorem sortL_len (zs : List Int) : (sortL zs).length = zs.length := List.length_mergeSort zs
theorem sort_c (zs : List Int) (hz : zs.length < 4611686018427387904) : ACallsI Tryz.prog 50 [.own] (.row 1 (zs.map iv)) (fun r o => r = .many [] ∧ o = .row 1 ((sortL zs).map iv)) := by
  refine ⟨50, fun _ _ => Tryz.call50 _ _, fun w ok x cargs hok hgw hx ho hargs => ?_⟩
  obtain ⟨v, vs', hl, ⟨k, xs, hkx, hv⟩, hnil⟩ := hargs
  simp only [Obj'.row.injEq] at hkx
  obtain ⟨rfl, rfl⟩ := hkx
  have hca : cargs = #[v] := by
    simp only [XA.repL] at hnil
    subst hnil
    cases cargs; simp at hl; rw [hl]
  subst hca
  have fin : ∀ (w' : World), w'.os = w.os ∧ w'.tape = w.tape ∧ w'.output = w.output → w.heap.size ≤ w'.heap.size → (∀ b, xkeep w x b → w'.heap[b]? = w.heap[b]?) → OMem w' ok x (.row 1 ((sortL zs).map iv)) →
      ∃ (r : RV) (us : List Value) (E1 : Env) (o' : Obj'), (r = .many [] ∧ o' = .row 1 ((sortL zs).map iv)) ∧ Ending.returned (.tuple #[]) = .returned (r.val us) ∧ Inv (xkeep w x) w' E1 (cst r.comps) ⟨us.toArray, []⟩ ∧ Evo (xkeep w x) w ⟨ok, E1.at_⟩ w' E1 ∧ OMem w' E1.ok x o' ∧ o'.svOnly = true ∧
        ∀ g c s, x = some (g, c, s) → ¬ E1.ok g ∧ ∀ j sz xs c' s', r.comps[j]? = some (.own sz xs) → E1.at_ j ≠ some (g, c', s') := fun w' h1 h2 h3 h4 => by
    refine ⟨.many [], [], ⟨ok, fun _ => none⟩, _, ⟨rfl, rfl⟩, rfl, ?_, ⟨h1.1, h1.2.1, h1.2.2, h2, h3, fun b hb => ⟨hb, h3 b (hok b hb)⟩, fun b hb => .inl hb, fun _ _ => rfl⟩, h4, rfl, fun g c s hg => ⟨fun hk => (hok g hk).2 g c s hg rfl, fun j sz xs c' s' hj => by simp [RV.comps] at hj⟩⟩
    refine ⟨rfl, rfl, fun d x hx => by simp [cst, RV.comps, ent1, lk] at hx, fun t o ho => by simp [cst, RV.comps, impM, lk] at ho, fun t t' o o' g c s c' s' h => by simp [cst, RV.comps, impM, lk] at h, fun t o g c s h => by simp [cst, RV.comps, impM, lk] at h, ⟨fun b hb => Nat.lt_of_lt_of_le (hok b hb).1 h2, hgw.keep fun b hb => ⟨hb, h3 b (hok b hb)⟩⟩, fun b hb => Nat.lt_of_lt_of_le hb.1 h2⟩
  rcases hzs : zs with _ | ⟨z0, zs'⟩
  · -- nothing
    have hlen : (zs.map iv).length = 0 := by rw [hzs]; rfl
    have hv0 : ∃ p cap, v = .slice p 0 cap := by
      cases x with
      | none => obtain ⟨a, rfl⟩ := hv; exact ⟨a, 0, rfl⟩
      | some q => obtain ⟨g, c, s⟩ := q; simp only [hlen] at hv; exact ⟨_, c, hv⟩
    obtain ⟨p, cap, rfl⟩ := hv0
    have hc := AnyM.slices_Sort_int_none Tryz.laysSort p cap w
    change Calls Tryz.prog 50 _ _ _ at hc
    refine hc.mono ?_
    rintro e w' ⟨rfl, rfl⟩
    have hse : sortL zs = zs := by rw [hzs]; unfold sortL; simp
    have := fin w' ⟨rfl, rfl, rfl⟩ (Nat.le_refl _) (fun _ _ => rfl) (by rw [hse]; exact ho)
    rw [hzs] at this
    exact this
  · rw [← hzs]
    cases x with
    | none =>
      exfalso
      obtain ⟨_, hmm⟩ := ho
      rcases hmm with ⟨_, h⟩ | ⟨g, c, e, cur, vs, h1, _⟩
      · rw [hzs] at h; cases h
      · cases h1
    | some q =>
      obtain ⟨g, c, s⟩ := q
      obtain ⟨e, cur, rfl, h2, h3, h4, h5, h6, h7⟩ := ints_omem ho rfl
      simp only [List.length_map] at hv
      subst hv
      have hH : Holds (Value.int .i64) w g 0 zs.toArray := fun j hj => by
        simp only [List.size_toArray] at hj
        have := h7 j _ (List.getElem?_eq_getElem hj)
        refine ⟨?_, by simp [World.frozen?, h2]⟩
        rw [Nat.zero_add, show zs.toArray[j]! = zs[j] by simp [hj]]
        simp [World.cell?, h2, this]
      have hgw' : g < w.heap.size := hx g c 1 rfl
      have hc := AnyM.slices_Sort_int Tryz.laysSort g 0 c zs w hH hgw' hz
      change Calls Tryz.prog 50 _ _ _ at hc
      refine hc.mono ?_
      rintro ex w' ⟨rfl, n, os, rfl⟩
      have hheap : ∀ b, b < w.heap.size → (grow (putRow (Value.int .i64) (Sort.ahead w n) g 0 (zs.mergeSort fun x y => decide (x ≤ y)).toArray) os).heap[b]? = (putRow (Value.int .i64) (Sort.ahead w n) g 0 (zs.mergeSort fun x y => decide (x ≤ y)).toArray).heap[b]? := fun b hb => by
        show ((putRow (Value.int .i64) (Sort.ahead w n) g 0 (zs.mergeSort fun x y => decide (x ≤ y)).toArray).heap ++ os)[b]? = _
        rw [Array.getElem?_append_left (by rw [putRow_size]; exact hb)]
      refine fin _ ⟨rfl, rfl, rfl⟩ (by rw [size_grow, putRow_size]; exact Nat.le_add_right _ _) (fun b hb => ?_) ?_
      · rw [hheap b hb.1, putRow_ne (fun h => hb.2 g c 1 rfl h)]; rfl
      · have hat := putRow_at (enc := Value.int .i64) (w := Sort.ahead w n) (d := (zs.mergeSort fun x y => decide (x ≤ y)).toArray) (show (Sort.ahead w n).heap[g]? = _ from h2)
        rw [← hheap g hgw'] at hat
        refine omem_ints hat (by rw [putCells_size]; exact h3) (fun h => ?_) (by rw [sortL_len]; exact h5) h6 (fun j z hj => ?_)
        · have := sortL_len zs; rw [h, hzs] at this; simp at this
        · have hlt := (List.getElem?_eq_some_iff.1 hj).1
          have hlt2 : j < zs.length := by rw [← sortL_len]; exact hlt
          rw [putCells_get (by simpa using hlt2) (by omega)]
          congr 2
          have h9 : (zs.mergeSort fun x y => decide (x ≤ y))[j]? = some z := hj
          simp [h9]
def cmpL (zs : List Int) : List Int := compactUpTo zs.toArray zs.toArray.size
theorem cmpL_le (zs : List Int) : (cmpL zs).length ≤ zs.length := by
  unfold cmpL compactUpTo
  rw [List.length_map]
  exact Nat.le_trans (List.length_filter_le _ _) (by simp)
theorem cmpL_pos {zs : List Int} (h : zs ≠ []) : cmpL zs ≠ [] := by
  intro he
  unfold cmpL compactUpTo at he
  rw [List.map_eq_nil_iff, List.filter_eq_nil_iff] at he
  have hp : 0 < zs.length := List.length_pos_iff.2 h
  exact he 0 (List.mem_range.2 (by simpa using hp)) (keeps_lt_one _ 0 (by decide))
theorem int_oneCell : OneCell (Value.int .i64) := fun _ => rfl
set_option maxHeartbeats 4000000 in
set_option maxRecDepth 100000 in
theorem comp_nil (w : World) (b : Option Addr) (c : Nat) : Calls Tryz.prog 51 #[.slice b 0 c] w fun ex w' => ex = .returned (.slice b 0 c) ∧ w' = w := by
  have mixed : Tryz.prog.follows .mixedOrders = true := by kernel_rfl
  go_enter Tryz.func51, Tryz.ntmps51
  go_wp2
  go_ret
  exact ⟨rfl, rfl⟩
theorem comp_took {kp : Nat → Prop} {w : World} {E : Env} {st : St} {a : Act} (hI : Inv kp w E st a) {x : Operand} {t : Nat} {zs : List Int} (hx : aval st x = some (.own t)) (hm : lk st.m t = some (.row 1 (zs.map iv))) :
    Calls Tryz.prog 51 #[a.eval x] w (fun ex w' => ∃ (q : Option (Nat × Nat × Nat)) (v : Value), Took w E t 1 ((cmpL zs).map iv) ex w' q v ∧
      match q with | none => ∃ b, v = .slice b 0 0 | some (g, c, _) => v = .slice (some ⟨g, 0, none⟩) ((cmpL zs).map iv).length c) := by
  have hvx := aval_rep hI hx
  simp only [RepV, hm] at hvx
  have hmm := hI.mm t _ hm
  have hown := fun g c s h => hI.own t _ g c s hm h
  by_cases hz : zs = []
  · subst hz
    have hc0 : cmpL [] = [] := rfl
    rw [hc0]
    cases hat : E.at_ t with
    | none =>
      rw [hat] at hvx
      obtain ⟨b, hvx⟩ := hvx
      rw [hvx]
      refine (comp_nil w b 0).mono ?_
      rintro ex w' ⟨rfl, rfl⟩
      exact ⟨none, _, ⟨rfl, ⟨rfl, rfl, rfl⟩, Nat.le_refl _, fun _ _ _ => rfl, fun g c s h => (by cases h), ⟨by decide, .inl ⟨rfl, rfl⟩⟩⟩, b, rfl⟩
    | some q =>
      obtain ⟨g, c, s⟩ := q
      rw [hat] at hvx
      obtain ⟨e, cur, rfl, h2, h3, h4, h5, h6, h7⟩ := ints_omem hmm hat
      simp only [List.map_nil, List.length_nil] at hvx
      rw [hvx]
      refine (comp_nil w _ c).mono ?_
      rintro ex w' ⟨rfl, rfl⟩
      refine ⟨some (g, c, 1), _, ⟨rfl, ⟨rfl, rfl, rfl⟩, Nat.le_refl _, fun _ _ _ => rfl, fun g' c' s' h => by simp at h; obtain ⟨rfl, rfl, rfl⟩ := h; exact .inr ⟨_, _, hat⟩, omem_ints h2 h3 h4 h5 h6 h7⟩, rfl⟩
  · obtain ⟨_, hmm2⟩ := hmm
    rcases hmm2 with ⟨_, h⟩ | ⟨g, c, e0, cur0, vs0, hat, _⟩
    · exact (hz (List.map_eq_nil_iff.1 h)).elim
    rw [hat] at hvx
    obtain ⟨e, cur, _, h2, h3, h4, h5, h6, h7⟩ := ints_omem (hI.mm t _ hm) hat
    simp only [List.length_map] at hvx
    rw [hvx]
    have hH : Holds (Value.int .i64) w g 0 zs.toArray := fun j hj => by
      simp only [List.size_toArray] at hj
      have := h7 j _ (List.getElem?_eq_getElem hj)
      refine ⟨?_, by simp [World.frozen?, h2]⟩
      rw [Nat.zero_add, show zs.toArray[j]! = zs[j] by simp [hj]]
      simp [World.cell?, h2, this]
    have heq : EqlAt Tryz.prog (Tryz.laysComp_ren.t 23) (Value.int .i64) (fun x y => decide (x = y)) := by
      have := EqlAt.int Tryz.prog (Tryz.laysComp_ren.t 23) .i64
      rwa [show (fun x y : Int => x == y) = (fun x y => decide (x = y)) from rfl] at this
    have hneq : NeqAt Tryz.prog (Tryz.laysComp_ren.t 23) (Value.int .i64) (fun x y => decide (x = y)) := by
      have := NeqAt.int Tryz.prog (Tryz.laysComp_ren.t 23) .i64
      rwa [show (fun x y : Int => x == y) = (fun x y => decide (x = y)) from rfl] at this
    have hzv : ∀ w, (zeroValue (Tryz.laysComp_ren.t 23)).run Tryz.prog w = .ok (Value.int .i64 0) w := fun w => run_zeroValue (P := Tryz.prog) (w := w) (by kernel_rfl)
    have hc := AnyE.slices_Compact Tryz.laysComp (Value.int .i64) int_oneCell heq hneq (0 : Int) hzv g 0 c zs.toArray w hH (by unfold maxLen at h6; simp; omega) (by simpa using h5)
    change Calls Tryz.prog 51 _ _ _ at hc
    simp only [List.size_toArray] at hc
    refine hc.mono ?_
    rintro ex w' ⟨rfl, q, rfl⟩
    have hle := cmpL_le zs
    have hcl : cmpL zs = compactUpTo zs.toArray zs.length := by unfold cmpL; simp
    rw [← hcl]
    refine ⟨some (g, c, 1), _, ⟨rfl, ⟨rfl, rfl, rfl⟩, by rw [putRow_size]; exact Nat.le_refl _, fun b hb hne => ?_, fun g' c' s' h => by simp at h; obtain ⟨rfl, rfl, rfl⟩ := h; exact .inr ⟨_, _, hat⟩, ?_⟩, by simp⟩
    · rw [putRow_ne (fun h => hne c _ (h ▸ hat))]; rfl
    · have hp := putRow_at (enc := Value.int .i64) (w := Sort.ahead w q) (d := (cmpL zs ++ List.replicate (zs.length - (cmpL zs).length) 0).toArray) (show (Sort.ahead w q).heap[g]? = _ from h2)
      refine omem_ints hp (by rw [putCells_size]; exact h3) (fun h => (cmpL_pos hz h).elim) (by omega) h6 (fun j z hj => ?_)
      have hlt := (List.getElem?_eq_some_iff.1 hj).1
      have hsz : (cmpL zs ++ List.replicate (zs.length - (cmpL zs).length) (0 : Int)).toArray.size = zs.length := by simp; omega
      rw [putCells_get (by rw [hsz]; omega) (by omega)]
      congr 2
      have h9 : (cmpL zs ++ List.replicate (zs.length - (cmpL zs).length) (0 : Int))[j]? = some z := by rw [List.getElem?_append_left hlt]; exact hj
      have h10 : j < (cmpL zs ++ List.replicate (zs.length - (cmpL zs).length) (0 : Int)).length := (List.getElem?_eq_some_iff.1 h9).1
      simp only [List.getElem!_toArray]
      rw [List.getElem!_eq_getElem?_getD, h9]; rfl
set_option maxRecDepth 100000 in
theorem OpW.compact {P : Program} {Q : Exit → St → Prop} {ops : Array Oper} {o : Oper} {l : List Oper} {k : List Fr} {st : St} {xs : Array Operand} {ts : Array TypeId} {x : Operand} (t d : Nat) (zs : List Int) (hP : P = Tryz.prog)
    (ho : o.op = .call { callee := .value (.func 51), args := xs, argTypes := ts }) (hxs : xs = #[x]) (hg : grd ops st o = some true) (hd : o.dst = some d) (hf : st.fresh d = true) (hn : d < st.n)
    (hx : aval st x = some (.own t)) (hm : lk st.m t = some (.row 1 (zs.map iv)))
    (hk : Ab.rn P Q ops l k { st with t := up st.t d (.own d), m := up (rm st.m t) d (.row 1 ((cmpL zs).map iv)) }) : OpW P Q ops o l k st := by
  subst hP
  subst hxs
  refine Rn.takes (.own d) hg ho hm hd hf hn (fun _ _ => Tryz.call51 _ _) (fun keep w E a hI => ?_) (RnK.rn hk)
  rw [show (#[x] : Array Operand).map a.eval = #[a.eval x] by simp]
  refine (comp_took hI hx hm).mono ?_
  rintro ex w' ⟨q, v, h1, h2⟩
  refine ⟨_, _, h1, ?_⟩
  simp only [RepV]
  rw [lk_up, if_pos rfl]
  cases q with
  | none => simpa [Env.set] using h2
  | some p => simpa [Env.set] using h2
end Go.Proofs.YtinhfnbmgmociaaGreatDoor.Ab
