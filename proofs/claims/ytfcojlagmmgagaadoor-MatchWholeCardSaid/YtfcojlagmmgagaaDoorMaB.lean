/- match.seek: what is free, and what is under each node. -/
import Derived.Test.YtfcojlagmmgagaaDoorMaA
import Derived.Test.YtfcojlagmmgagaaDoorAbW
namespace Go.Proofs.YtfcojlagmmgagaaDoor.Ab
open Go.RowKit
set_option linter.unusedVariables false
set_option linter.unusedSimpArgs false

/-- The cores and gpus that are told to be under a thing, of the first i things. -/
def kidsTo (g : List Thing) (i u : Nat) : List Int := ((List.range i).filter fun j => decide (2 < (th g j).kind) && (th g j).up == (u : Int)).map Int.ofNat
def insL (n : Nat) (free : List Int) : List Bool := (List.range n).map fun j : Nat => decide (((j : Nat) : Int) ∈ free)
def seekSV (g : List Thing) (free : List Int) (s : Spec) : SV :=
  .ref (.agg ([things g, .lst ((insL g.length free).map bv), .lst ((List.range g.length).map fun u => ints (kidsTo g g.length u))] ++ specCells s)) 0
theorem insL_nil (n : Nat) : (insL n []).map bv = List.replicate n (.val (.bool false)) := by
  unfold insL
  apply List.ext_getElem?
  intro j
  by_cases hj : j < n
  · rw [List.getElem?_replicate, if_pos hj]; simp [bv, hj]
  · rw [List.getElem?_replicate, if_neg hj, List.getElem?_eq_none (by simp; omega)]
theorem insL_in {n : Nat} {l : List Int} {x : Int} (h0 : 0 ≤ x) (h1 : x < n) : ((insL n l).map bv).set x.toNat (.val (.bool true)) = (insL n (l ++ [x])).map bv := by
  unfold insL
  apply List.ext_getElem?
  intro j
  rw [List.getElem?_set]
  by_cases hj : j < n
  · simp only [List.getElem?_map, List.getElem?_range hj, Option.map_some, List.length_map, List.length_range]
    by_cases hx : x.toNat = j
    · have : (j : Int) = x := by omega
      rw [if_pos hx, if_pos (by omega)]
      simp [this, bv]
    · have : ¬ (j : Int) = x := by omega
      rw [if_neg hx]
      simp [this]
  · have h2 : ¬ x.toNat = j := by omega
    rw [if_neg h2]
    rw [List.getElem?_eq_none (by simp; omega), List.getElem?_eq_none (by simp; omega)]
theorem insL_out {n : Nat} {l : List Int} {x : Int} (h1 : ¬ x < n) : insL n (l ++ [x]) = insL n l := by
  unfold insL
  apply List.map_congr_left
  intro j hj
  have := List.mem_range.1 hj
  have : ¬ (j : Int) = x := by omega
  simp [this]
theorem insL_len (n : Nat) (l : List Int) : (insL n l).length = n := by simp [insL]
theorem kidsTo_succ (g : List Thing) (i u : Nat) : kidsTo g (i + 1) u = if 2 < (th g i).kind ∧ (th g i).up = (u : Int) then kidsTo g i u ++ [(i : Int)] else kidsTo g i u := by
  unfold kidsTo
  rw [List.range_succ, List.filter_append, List.map_append]
  by_cases h : 2 < (th g i).kind ∧ (th g i).up = (u : Int)
  · rw [if_pos h]; simp [h.1, h.2]
  · rw [if_neg h]
    have : (decide (2 < (th g i).kind) && (th g i).up == (u : Int)) = false := by
      rw [Bool.eq_false_iff]; intro hb; simp only [Bool.and_eq_true, decide_eq_true_eq, beq_iff_eq] at hb; exact h hb
    simp [this]
theorem th_get {g : List Thing} {i : Nat} {x : Thing} (h : g[i]? = some x) : th g i = x := by
  unfold th; rw [List.getD_eq_getElem?_getD, h]; rfl
set_option maxHeartbeats 4000000 in
set_option maxRecDepth 100000 in
theorem seek_c (g : List Thing) (free : List Int) (s : Spec) (hg : isGraph g = true) (ht : Things g) (hf : isSet free = true) (hl : free.length ≤ 140737488355328) : ACalls Tryd.prog 59 [things g, ints free, specSV s] (· = .one (.sv (seekSV g free s))) := by
  refine ACalls.of_bodyS (fun _ _ => Tryd.call59 _ _) Tryd.func59 rfl Tryd.ntmps59 (by simp) ?_
  refine Tr.ex ?_
  have hlen := isGraph_len hg
  simp [go_sem]
  refine DrawW.rdN [15, 18, 21] (by simp [go_sem]) rfl ?_
  simp [go_sem]
  refine OpD.make (k1 := .i64) (k2 := .i64) (n := g.length) rfl rfl (by simp [go_sem]) (by simp [go_sem]) (by simp [go_sem]) (by simp [go_sem]) (by simp [go_sem]; rfl) (by simp [go_sem]; rfl) (by omega) (by simp [go_sem]; omega) (by simp [go_sem]) (by simp [go_sem]) ?_
  simp [go_sem]
  refine OpD.makeB (k1 := .i64) (k2 := .i64) (n := g.length) rfl rfl (by simp [go_sem]) (by simp [go_sem]) (by simp [go_sem]) (by simp [go_sem]) (by simp [go_sem]; rfl) (by simp [go_sem]) (by simp [go_sem]) (by omega) (by simp [go_sem]; omega) ?_
  simp [go_sem]
  refine OpD.buildV rfl rfl (by simp [go_sem]) (by simp [go_sem]; rfl) (by simp [go_sem]; rfl) (by simp [go_sem, vfill]; rfl) (by simp [go_sem]) ?_
  simp [go_sem]
  refine OpD.box rfl rfl (by simp [go_sem]) (by simp [go_sem]) (by simp [go_sem]; rfl) (by simp [go_sem]; rfl) ?_
  simp [go_sem]
  refine ⟨by kernel_rfl, ?_⟩
  refine LoopW.of (fun i : Nat => ⟨69, [(0, .sv (things g)), (6, .sv (.val (.pointer none))), (7, .box 21 0), (22, .sv (ints free)), (23, .sv (iv free.length)), (24, .sv (iv i))],
      [(15, .row 1 ((insL g.length (free.take i)).map bv)), (18, .box (List.replicate g.length .nil)), (21, .box ([.sv (things g), .own 15, .sl 18 g.length] ++ (specCells s).map .sv))]⟩)
    (fun i => i ≤ free.length) (fun i => free.length - i) 0 (by omega) (Ent.chk (by simp [go_sem, insL_nil])) ?_
  intro i hi
  by_cases hlt : i < free.length
  · have hlt' : (i : Int) < free.length := by omega
    obtain ⟨x, hx⟩ : ∃ x, free[i]? = some x := ⟨_, List.getElem?_eq_getElem hlt⟩
    have hw : IntKind.i64.wrap ((i : Int) + 1) = (i : Int) + 1 := by rw [i64w] <;> omega
    have hb := isSet_mem hf x (List.mem_of_getElem? hx)
    have htk : free.take (i + 1) = free.take i ++ [x] := by rw [List.take_succ_eq_append_getElem hlt, gE hx]
    by_cases hxl : x < g.length
    · have hxn : x.toNat < g.length := by omega
      have hset := insL_in (l := free.take i) hb.1 hxl
      simp [go_sem, hlt, hlt', hx, gE hx, hxl, hb.1, insL_len, hxn]
      exact ⟨i + 1, by omega, by omega, Ent.chk (by simp [go_sem, hw, htk, hset])⟩
    · have hout := insL_out (l := free.take i) hxl
      simp [go_sem, hlt, hlt', hx, gE hx, hxl]
      exact ⟨i + 1, by omega, by omega, Ent.chk (by simp [go_sem, hw, htk, hout])⟩
  · have hil : i = free.length := by omega
    subst hil
    simp [go_sem]
    refine LoopW.ent (Ent.thawAll (t := 18) (n := g.length) (sz := 1) (by simp [go_sem]) (by decide) (by omega) (fun j hj => by
      have n1 : ¬ 15 = 2000 + j := by omega
      have n2 : ¬ 18 = 2000 + j := by omega
      have n3 : ¬ 21 = 2000 + j := by omega
      simp [go_sem, holdsL_nils, n1, n2, n3]; omega) (by decide)) ?_
    refine LoopW.halt ?_
    refine LoopW.of (fun i : Nat => ⟨69, [(6, .sv (.val (.pointer none))), (7, .box 21 0), (39, .sv (things g)), (40, .sv (iv g.length)), (41, .sv (iv i))],
        dyn g.length (fun j => .row 1 ((kidsTo g i j).map iv)) ++ [(15, .row 1 ((insL g.length free).map bv)), (18, .box (ownsL g.length)), (21, .box ([.sv (things g), .own 15, .sl 18 g.length] ++ (specCells s).map .sv))]⟩)
      (fun i => i ≤ g.length) (fun i => g.length - i) 0 (by omega) (Ent.chkD (K := fun _ => .row 1 []) rfl rfl (by simp [go_sem])) ?_
    · intro i hi
      by_cases hlt : i < g.length
      · have hlt' : (i : Int) < g.length := by omega
        obtain ⟨x, hx⟩ : ∃ x, g[i]? = some x := ⟨_, List.getElem?_eq_getElem hlt⟩
        have hw : IntKind.i64.wrap ((i : Int) + 1) = (i : Int) + 1 := by rw [i64w] <;> omega
        by_cases hk : 2 < x.kind
        · have h0 : 0 < i := by
            rcases Nat.eq_zero_or_pos i with h | h
            · subst h
              have := (isGraph_root hg).1
              rw [th_get hx] at this; omega
            · exact h
          have hup := isGraph_up hg h0 hlt
          rw [th_get hx] at hup
          obtain ⟨u, hu⟩ : ∃ u : Nat, x.up = u := ⟨x.up.toNat, by omega⟩
          have hun : u < g.length := by omega
          have n11 : ¬ 11 = 2000 + u := by omega
          have n15 : ¬ 15 = 2000 + u := by omega
          have n18 : ¬ 18 = 2000 + u := by omega
          have n21 : ¬ 21 = 2000 + u := by omega
          simp [go_sem, hlt, hlt', hx, gE hx, hk, lk_dynS, up_dynS, rm_dynS, holdsL_owns, any_dyn]
          refine DrawW.pull u hun (by simp) (by simp [go_sem, lk_dynS, holdsL_owns, any_dyn]) (by simp [go_sem, n11, n15, n18, n21]) ?_
          simp [go_sem, renL_owns hun, n11, n15, n18, n21]
          obtain ⟨C, hC⟩ : ∃ C, C = (ownsL g.length).set u (.own 900) := ⟨_, rfl⟩
          have hCl : C.length = g.length := by rw [hC]; simp [ownsL]
          have hCu : C[u]? = some (.own 900) := by rw [hC, List.getElem?_set, if_pos rfl, if_pos (by simpa [ownsL] using hun)]
          have hCd : C.drop u = .own 900 :: C.drop (u + 1) := by
            rw [List.drop_eq_getElem_cons (by omega), gE hCu]
          have hCh : ∀ t, t < 900 → AV.holdsL t C = false := fun t ht => by
            rw [hC]
            exact holdsL_set (by omega) (fun j _ => by omega)
          rw [← hC]
          have hun' : (u : Int) < g.length := by omega
          refine DrawW.rdN [64, 65] (by simp [go_sem, lk_dynXS, any_dynX, hCh]) rfl ?_
          simp [go_sem, lk_dynXS, up_dynXS, rm_dynXS, hu, hun, hun', hCd, hCu, hCl]
          refine OpD.bslice rfl rfl (by simp [go_sem]) (by simp [go_sem]) (by simp [go_sem]; rfl) (by simp [go_sem]; rfl) (by simp [go_sem]) (by simp [go_sem]) (by decide) (by simp [go_sem]) (by simp [go_sem]; rfl) ?_
          simp [go_sem, lk_dynXS, up_dynXS, rm_dynXS]
          have hkl : (kidsTo g i u).length ≤ 256 := by
            unfold kidsTo
            have := List.length_filter_le (fun j => decide (2 < (th g j).kind) && (th g j).up == (u : Int)) (List.range i)
            simp only [List.length_map, List.length_range] at this ⊢
            omega
          refine OpD.append (t := 900) (xs := (kidsTo g i u).map iv) (ys := [iv i]) rfl rfl (by simp [go_sem]) (by simp [go_sem]) (by simp [go_sem]; rfl) (by simp [go_sem]; rfl) (by simp [go_sem]) (by simp [go_sem]) (by simp [go_sem]) (by simp [go_sem, lk_dynXS]) (by simp [go_sem]; rfl) (by simp [go_sem, lk_dynXS]) (by simp [go_sem]) (by simp [go_sem]; omega) ?_
          have hun1 : u + 1 ≤ g.length := hun
          simp [go_sem, lk_dynXS, up_dynXS, rm_dynXS, hun, hun', hun1, hCd, hCu, hCl]
          refine ⟨by kernel_rfl, i + 1, by omega, by omega, ?_⟩
          have hK : ∀ j, j ≠ u → (kidsTo g (i + 1) j).map iv = (kidsTo g i j).map iv := fun j hj => by
            rw [kidsTo_succ, th_get hx, if_neg (fun h => hj (by have := h.2; omega))]
          have hKu : kidsTo g (i + 1) u = kidsTo g i u ++ [(i : Int)] := by rw [kidsTo_succ, th_get hx, if_pos ⟨hk, hu⟩]
          have hC65 : C.take u ++ AV.own 65 :: C.drop (u + 1) = (ownsL g.length).set u (.own 65) := by
            have := List.set_eq_take_append_cons_drop (l := C) (i := u) (a := AV.own 65)
            rw [if_pos (by omega)] at this
            rw [← this, hC, List.set_set]
          have hback : AV.renL 65 (2000 + u) ((ownsL g.length).set u (.own 65)) = ownsL g.length := renL_back hun (by decide)
          rw [hC65]
          refine Ent.push (t := 65) (sz := 1) (f := fun j => (kidsTo g i j).map iv) (f' := fun j => (kidsTo g (i + 1) j).map iv) hun rfl rfl (by decide) (by simp [go_sem, hKu]) hK ?_ (by simp [go_sem, hw, hback])
          have hh := holdsL_set (n := g.length) (u := u) (t := 2000 + u) (s := 65) (by omega) (fun j hj => by omega)
          have n64 : ¬ 64 = 2000 + u := by omega
          have n65 : ¬ 65 = 2000 + u := by omega
          have n900 : ¬ 900 = 2000 + u := by omega
          simp [go_sem, lk_dynXU, any_dynX, hh, n11, n15, n18, n21, n64, n65, n900]
          omega
        · have hK : ∀ j, kidsTo g (i + 1) j = kidsTo g i j := fun j => by rw [kidsTo_succ, th_get hx, if_neg (fun h => hk h.1)]
          simp [go_sem, hlt, hlt', hx, gE hx, hk, lk_dynS, up_dynS, rm_dynS, holdsL_owns, any_dyn]
          refine ⟨i + 1, by omega, by omega, ?_⟩
          simp only [hK]
          exact Ent.chkD (K := fun j => .row 1 ((kidsTo g i j).map iv)) rfl rfl (by simp [go_sem, hw])
      · have hil : i = g.length := by omega
        subst hil
        simp [go_sem, lk_dynS]
        refine HaltW.ent (Ent.rows (b := 18) (r' := [(15, .row 1 ((insL g.length free).map bv)), (21, .box ([.sv (things g), .own 15, .sl 18 g.length] ++ (specCells s).map .sv))]) (by decide) (fun j hj => ?_) (fun j hj t o ho => ?_) (fun t o ho => ?_)) ?_
        · have n15 : ¬ 15 = 2000 + j := by omega
          have n18 : ¬ 18 = 2000 + j := by omega
          have n21 : ¬ 21 = 2000 + j := by omega
          simp [go_sem, n15, n18, n21]
        · have n15 : ¬ 15 = 2000 + j := by omega
          have n18 : ¬ 18 = 2000 + j := by omega
          simp only [lk] at ho
          split at ho
          · rename_i e; subst e
            simp only [Option.some.injEq] at ho; subst ho
            exact ⟨by decide, rfl⟩
          · split at ho
            · rename_i e; subst e
              simp only [Option.some.injEq] at ho; subst ho
              exact ⟨by decide, by simp [go_sem, n15, n18]⟩
            · cases ho
        · simp only [lk] at ho ⊢
          by_cases h18 : 18 = t
          · subst h18; simpa using ho
          · by_cases h15 : 15 = t
            · subst h15; simpa using ho
            · by_cases h21 : 21 = t
              · subst h21; simpa [go_sem] using ho
              · simp [h18, h15, h21] at ho
        refine HaltW.ent (Ent.freeze 18 (Ent.freeze 15 (Ent.freeze 21 (Ent.refl _)))) (HaltW.go ?_)
        have hs := svs_map (fun i => ints (kidsTo g g.length i)) (List.range g.length)
        simp only [ints] at hs
        simp [go_sem, hs, seekSV]
end Go.Proofs.YtfcojlagmmgagaaDoor.Ab
