/- Graphs: there, Under. -/
import Derived.Test.YtfcojlagmmgagaaDoorGrG
namespace Go.Proofs.YtfcojlagmmgagaaDoor.Ab
open Go.RowKit
set_option linter.unusedVariables false
set_option linter.unusedSimpArgs false

def thereB (g : List Thing) (n : Int) : Bool := decide (0 ≤ n) && decide (n < g.length) && isGraph g
theorem there_c (g : List Thing) (n : Int) (hg : g.length ≤ 140737488355328) (ht : Things g) : ACalls Tryd.prog 68 [things g, iv n] (· = .one (.sv (bv (thereB g n)))) := by
  refine ACalls.of_body (fun _ _ => Tryd.call68 _ _) Tryd.func68 rfl Tryd.ntmps68 (by simp) ?_
  refine Tr.ex ?_
  unfold thereB
  by_cases h0 : 0 ≤ n
  · by_cases h1 : n < g.length
    · simp [go_sem, h0, h1]
      refine OpW.fn true (gRight_c g hg ht) rfl rfl (by simp [go_sem]) (by rintro _ r rfl; simp [go_sem]) ?_
      rintro r rfl
      simp [go_sem, h0, h1]
    · simp [go_sem, h0, h1]
  · simp [go_sem, h0]

theorem isGraph_len {g : List Thing} (h : isGraph g = true) : 1 ≤ g.length ∧ g.length ≤ 256 := by
  unfold isGraph at h
  simp only [Bool.and_eq_true, decide_eq_true_eq] at h
  exact ⟨h.1.1.1, h.1.1.2⟩
theorem isGraph_root {g : List Thing} (h : isGraph g = true) : (th g 0).kind = 0 ∧ (th g 0).up = -1 := by
  unfold isGraph rootB at h
  simp only [Bool.and_eq_true, beq_iff_eq] at h
  exact ⟨h.1.2.1.1, h.1.2.1.2⟩
theorem isGraph_up {g : List Thing} (h : isGraph g = true) {i : Nat} (h0 : 0 < i) (h1 : i < g.length) : 0 ≤ (th g i).up ∧ (th g i).up < i ∧ kindOk (th g i).kind (th g (th g i).up.toNat).kind = true := by
  unfold isGraph at h
  simp only [Bool.and_eq_true, List.all_eq_true] at h
  have := h.2 (i - 1) (by simp; omega)
  rw [show i - 1 + 1 = i by omega] at this
  unfold goodB at this
  simp only [Bool.and_eq_true, decide_eq_true_eq] at this
  exact ⟨this.1.1.1.1, this.1.1.1.2, this.1.1.2⟩
theorem isGraph_le {g : List Thing} (h : isGraph g = true) {i : Nat} (h1 : i < g.length) : (th g i).up < i := by
  by_cases h0 : 0 < i
  · exact (isGraph_up h h0 h1).2.1
  · have : i = 0 := by omega
    subst this
    rw [(isGraph_root h).2]; omega

/-- Is a thing under another one? -/
def inU (g : List Thing) (n : Nat) (i : Nat) : Bool := i == n || (if h : 0 ≤ (th g i).up ∧ (th g i).up < i then inU g n (th g i).up.toNat else false)
  termination_by i
  decreasing_by omega
def underL (g : List Thing) (n : Int) : List Int := if thereB g n = true then ((List.range g.length).filter (inU g n.toNat)).map Int.ofNat else []
def upTo (g : List Thing) (n i : Nat) : List Int := ((List.range i).filter (inU g n)).map Int.ofNat
theorem upTo_succ (g : List Thing) (n i : Nat) : upTo g n (i + 1) = if inU g n i = true then upTo g n i ++ [(i : Int)] else upTo g n i := by
  unfold upTo
  rw [List.range_succ, List.filter_append, List.map_append]
  split
  · rename_i h; simp [h]
  · rename_i h; simp [h]
def inRow (g : List Thing) (n i : Nat) : List SV := (List.range g.length).map fun j => bv (if j < i then inU g n j else j == n)

theorem Under_c (g : List Thing) (n : Int) (hg : g.length ≤ 140737488355328) (ht : Things g) : ACalls Tryd.prog 27 [things g, iv n] (· = .one (.sv (ints (underL g n)))) := by
  refine ACalls.of_bodyS (fun _ _ => Tryd.call27 _ _) Tryd.func27 rfl Tryd.ntmps27 (by simp) ?_
  refine Tr.ex ?_
  simp [go_sem]
  refine OpW.fn true (there_c g n hg ht) rfl rfl (by simp [go_sem]) (by rintro _ r rfl; simp [go_sem]) ?_
  rintro r rfl
  unfold underL
  cases hth : thereB g n with
  | false => simp [go_sem]
  | true =>
    unfold thereB at hth
    simp only [Bool.and_eq_true, decide_eq_true_eq] at hth
    obtain ⟨⟨h0, h1⟩, hgr⟩ := hth
    have hlen := isGraph_len hgr
    have hnl : n.toNat < g.length := by omega
    have hrep : (List.replicate g.length (SV.val (.bool false)))[n.toNat]? = some (SV.val (.bool false)) := by simp [hnl]
    simp [go_sem, hrep]
    refine ⟨by omega, ⟨h0, h1⟩, ?_⟩
    have hset : (List.replicate g.length (SV.val (.bool false))).set n.toNat (SV.val (.bool true)) = inRow g n.toNat 0 := by
      refine List.ext_getElem (by simp [inRow]) fun j h1 h2 => ?_
      simp [inRow, bv, List.getElem_set]
      by_cases hj : n.toNat = j
      · simp [hj]
      · simp [hj, Ne.symm hj]
    refine LoopW.of (fun i : Nat => ⟨55, [(0, .sv (things g)), (1, .sv (iv n)), (5, .own 15), (6, .own 6), (19, .sv (things g)), (20, .sv (iv g.length)), (21, .sv (iv i))], [(15, .row 1 (inRow g n.toNat i)), (6, .row 1 ((upTo g n.toNat i).map iv))]⟩)
      (fun i => i ≤ g.length) (fun i => g.length - i) 0 (by omega) (Ent.thaw 6 6 1 (by simp [go_sem]) (by simp [go_sem]) (by decide) (Ent.chk (by simp [go_sem, hset, upTo]))) ?_
    rintro i hi
    by_cases hlt : i < g.length
    · have hlt' : (i : Int) < g.length := by omega
      have hgi : g[i]? = some g[i] := List.getElem?_eq_getElem hlt
      have hthi : th g i = g[i] := by unfold th; simp [hlt]
      have hri : (inRow g n.toNat i)[i]? = some (bv (i == n.toNat)) := by unfold inRow; simp [hlt]
      have hlr : ∀ k, (inRow g n.toNat k).length = g.length := fun k => by simp [inRow]
      have hle := isGraph_le hgr hlt
      rw [hthi] at hle
      have hw : IntKind.i64.wrap ((i : Int) + 1) = (i : Int) + 1 := by rw [i64w] <;> omega
      have hset2 : (inRow g n.toNat i).set i (SV.val (.bool (inU g n.toNat i))) = inRow g n.toNat (i + 1) := by
        refine List.ext_getElem (by simp [inRow]) fun j h1 h2 => ?_
        simp [inRow, bv, List.getElem_set]
        by_cases hj : i = j
        · subst hj; simp
        · have : (j < i + 1) ↔ j < i := by omega
          simp [hj, this]
      have hri2 : (inRow g n.toNat (i + 1))[i]? = some (.val (.bool (inU g n.toNat i))) := by unfold inRow; simp [hlt, bv]
      have hup := upTo_succ g n.toNat i
      have hun := inU.eq_1 g n.toNat i
      rw [hthi] at hun
      simp [go_sem, hlt', hgi, hri, hlr]
      have hul : (upTo g n.toNat i).length ≤ i := by
        unfold upTo
        rw [List.length_map]
        exact Nat.le_trans (List.length_filter_le _ _) (by simp)
      cases hin : (i == n.toNat) with
      | true =>
        rw [hin, Bool.true_or] at hun
        rw [hun, if_pos rfl] at hup
        rw [hun] at hset2 hri2
        rw [hin] at hri
        simp [go_sem, hlt, hlt', hset2, hri, hri2, hlr, gE hri, gE hri2]
        exact ⟨by omega, i + 1, by omega, by omega, Ent.rename2 52 6 (by simp [go_sem]) (Ent.chk (by simp [go_sem, hup, hw]))⟩
      | false =>
        rw [hin, Bool.false_or] at hun
        rw [hin] at hri
        simp [go_sem]
        by_cases hu0 : 0 ≤ g[i].up
        · rw [dif_pos ⟨hu0, hle⟩] at hun
          have hrj : (inRow g n.toNat i)[g[i].up.toNat]? = some (bv (inU g n.toNat i)) := by
            unfold inRow
            have q1 : g[i].up.toNat < g.length := by omega
            have q2 : g[i].up.toNat < i := by omega
            simp [q1, q2, hun]
          have hul2 : g[i].up < g.length := by omega
          cases hv : inU g n.toNat i with
          | true =>
            rw [hv, if_pos rfl] at hup
            rw [hv] at hset2 hri2 hrj
            simp [go_sem, hlt, hlt', hset2, hri, hri2, hlr, hu0, hul2, hrj, gE hrj, gE hri, gE hri2]
            exact ⟨by omega, i + 1, by omega, by omega, Ent.rename2 52 6 (by simp [go_sem]) (Ent.chk (by simp [go_sem, hup, hw]))⟩
          | false =>
            rw [hv, if_neg (by simp)] at hup
            rw [hv] at hset2 hri2 hrj
            simp [go_sem, hlt, hlt', hset2, hri, hri2, hlr, hu0, hul2, hrj, gE hrj, gE hri, gE hri2]
            exact ⟨i + 1, by omega, by omega, Ent.chk (by simp [go_sem, hup, hw])⟩
        · rw [dif_neg (fun h => hu0 h.1)] at hun
          rw [hun, if_neg (by simp)] at hup
          rw [hun] at hset2 hri2
          simp [go_sem, hlt, hlt', hset2, hri, hri2, hlr, hu0, gE hri, gE hri2]
          exact ⟨i + 1, by omega, by omega, Ent.chk (by simp [go_sem, hup, hw])⟩
    · have hil : i = g.length := by omega
      subst hil
      simp [go_sem]
      simp [upTo]
end Go.Proofs.YtfcojlagmmgagaaDoor.Ab
