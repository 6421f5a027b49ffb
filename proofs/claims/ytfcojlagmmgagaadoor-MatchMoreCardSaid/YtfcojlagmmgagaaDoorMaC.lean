/- match: kind, here, Suits, Many, Find, Could. -/
import Derived.Test.YtfcojlagmmgagaaDoorMaB
namespace Go.Proofs.YtfcojlagmmgagaaDoor.Ab
open Go.RowKit
set_option linter.unusedVariables false
set_option linter.unusedSimpArgs false

def kidsL (g : List Thing) (u : Nat) : List Int := kidsTo g g.length u
/-- The free things of a kind under a node, of some. -/
def ofKind (g : List Thing) (free : List Int) (k : Int) (l : List Int) : List Int := l.filter fun n => decide (n ∈ free) && (th g n.toNat).kind == k
theorem kidsL_mem {g : List Thing} {u : Nat} {n : Int} (h : n ∈ kidsL g u) : 0 ≤ n ∧ n < g.length ∧ 2 < (th g n.toNat).kind ∧ (th g n.toNat).up = u := by
  unfold kidsL kidsTo at h
  obtain ⟨i, hi, rfl⟩ := List.mem_map.1 h
  simp only [List.mem_filter, List.mem_range, Bool.and_eq_true, decide_eq_true_eq, beq_iff_eq] at hi
  exact ⟨Int.natCast_nonneg i, by have := hi.1; simp only [Int.ofNat_eq_natCast]; omega, hi.2.1, hi.2.2⟩
theorem kidsL_len (g : List Thing) (u : Nat) : (kidsL g u).length ≤ g.length := by
  unfold kidsL kidsTo
  rw [List.length_map]
  exact Nat.le_trans (List.length_filter_le _ _) (by simp)
set_option maxHeartbeats 4000000 in
set_option maxRecDepth 100000 in
theorem kind_c (g : List Thing) (free : List Int) (s : Spec) (u : Nat) (k most : Int) (hg : isGraph g = true) (hu : u < g.length) (hm : 0 ≤ most) : ACalls Tryd.prog 91 [seekSV g free s, iv u, iv k, iv most] (· = .one (.sv (ints ((ofKind g free k (kidsL g u)).take most.toNat)))) := by
  refine ACalls.of_bodyS (fun _ _ => Tryd.call91 _ _) Tryd.func91 rfl Tryd.ntmps91 (by simp) ?_
  refine Tr.ex ?_
  have hlen := isGraph_len hg
  have hu' : (u : Int) < g.length := by omega
  have hk : ((List.range g.length).map fun u => ints (kidsTo g g.length u))[u]? = some (ints (kidsL g u)) := by
    rw [List.getElem?_map, List.getElem?_range hu]; rfl
  have hkl := kidsL_len g u
  have hkm : ∀ n ∈ kidsL g u, 0 ≤ n ∧ n < g.length := fun n hn => ⟨(kidsL_mem hn).1, (kidsL_mem hn).2.1⟩
  generalize hks : kidsL g u = ks at *
  have hkt : kidsTo g g.length u = ks := hks
  simp [go_sem, seekSV, hu, hu', hk, hkt]
  refine LoopW.ent (Ent.thaw 9 9 1 (by simp [go_sem]) (by simp [go_sem]) (by decide) (Ent.refl _)) ?_
  refine LoopW.of (fun i : Nat => ⟨55, [(0, .sv (seekSV g free s)), (2, .sv (iv k)), (3, .sv (iv most)), (8, .nil), (9, .own 9), (18, .sv (ints ks)), (19, .sv (iv ks.length)), (20, .sv (iv i))],
      [(9, .row 1 (((ofKind g free k (ks.take i)).take most.toNat).map iv))]⟩)
    (fun i => i ≤ ks.length) (fun i => ks.length - i) 0 (by omega) (Ent.chk (by simp [go_sem, seekSV, ofKind])) ?_
  intro i hi
  by_cases hlt : i < ks.length
  · have hlt' : (i : Int) < ks.length := by omega
    obtain ⟨n, hx⟩ : ∃ x, ks[i]? = some x := ⟨_, List.getElem?_eq_getElem hlt⟩
    have hw : IntKind.i64.wrap ((i : Int) + 1) = (i : Int) + 1 := by rw [i64w] <;> omega
    obtain ⟨hn0, hn1⟩ := hkm n (List.mem_of_getElem? hx)
    have hnn : n.toNat < g.length := by omega
    obtain ⟨x, hgx⟩ : ∃ x, g[n.toNat]? = some x := ⟨_, List.getElem?_eq_getElem hnn⟩
    have hin : ((insL g.length free).map bv)[n.toNat]? = some (bv (decide (n ∈ free))) := by
      unfold insL
      have : ((n.toNat : Nat) : Int) = n := by omega
      simp [List.getElem?_range hnn, this]
    have htk : ofKind g free k (ks.take (i + 1)) = if n ∈ free ∧ x.kind = k then ofKind g free k (ks.take i) ++ [n] else ofKind g free k (ks.take i) := by
      unfold ofKind
      rw [List.take_succ_eq_append_getElem hlt, gE hx, List.filter_append]
      have h3 : (th g n.toNat).kind = x.kind := by rw [th_get hgx]
      by_cases h1 : n ∈ free ∧ x.kind = k
      · rw [if_pos h1]; simp [h1.1, h1.2, h3]
      · rw [if_neg h1]
        have : (decide (n ∈ free) && (th g n.toNat).kind == k) = false := by
          rw [Bool.eq_false_iff]; intro hb
          simp only [Bool.and_eq_true, decide_eq_true_eq, beq_iff_eq, h3] at hb
          exact h1 hb
        simp [this]
    have hol : (ofKind g free k (ks.take i)).length ≤ 256 := by
      unfold ofKind
      have := List.length_filter_le (fun n => decide (n ∈ free) && (th g n.toNat).kind == k) (ks.take i)
      have h2 : (ks.take i).length ≤ ks.length := List.length_take_le' _ _
      omega
    generalize ofKind g free k (ks.take i) = out at *
    by_cases c1 : ((out.take most.toNat).length : Int) < most
    · have c1' : out.length < most.toNat := by rw [List.length_take] at c1; omega
      have ho : out.take most.toNat = out := List.take_of_length_le (by omega)
      rw [ho] at c1
      have hom : (out.map iv).take most.toNat = out.map iv := by rw [← List.map_take, ho]
      by_cases c2 : n ∈ free
      · by_cases c3 : x.kind = k
        · simp [go_sem, seekSV, hlt, hlt', hx, gE hx, ho, hom, c1, c2, c3, hn0, hn1, hnn, hin, gE hin, hgx, gE hgx, insL_len]
          refine ⟨by omega, i + 1, by omega, by omega, ?_⟩
          have ho2 : (out ++ [n]).take most.toNat = out ++ [n] := List.take_of_length_le (by simp; omega)
          refine Ent.rename2 52 9 (by simp [go_sem]) (Ent.chk ?_)
          have ho3 : ((out ++ [n]).map iv).take most.toNat = (out ++ [n]).map iv := by rw [← List.map_take, ho2]
          rw [htk, if_pos ⟨c2, c3⟩, ho3]
          simp [go_sem, hw]
        · have e3 : (x.kind == k) = false := by simpa using c3
          simp [go_sem, seekSV, hlt, hlt', hx, gE hx, ho, hom, c1, c2, e3, hn0, hn1, hnn, hin, gE hin, hgx, gE hgx, insL_len]
          refine ⟨i + 1, by omega, by omega, Ent.chk ?_⟩
          rw [htk, if_neg (fun h => c3 h.2), hom]
          simp [go_sem, hw]
      · simp [go_sem, seekSV, hlt, hlt', hx, gE hx, ho, hom, c1, c2, hn0, hn1, hnn, hin, gE hin, insL_len]
        refine ⟨i + 1, by omega, by omega, Ent.chk ?_⟩
        rw [htk, if_neg (fun h => c2 h.1), hom]
        simp [go_sem, hw]
    · have hge : most.toNat ≤ out.length := by rw [List.length_take] at c1; omega
      have hst : (if n ∈ free ∧ x.kind = k then out ++ [n] else out).take most.toNat = out.take most.toNat := by
        split
        · exact List.take_append_of_le_length hge
        · rfl
      have c1m : ¬ ((min most.toNat out.length : Nat) : Int) < most := by rw [List.length_take] at c1; exact c1
      simp [go_sem, seekSV, hlt, hlt', hx, gE hx, c1, c1m, hn0, hn1]
      refine ⟨i + 1, by omega, by omega, Ent.chk ?_⟩
      have hst2 : ((if n ∈ free ∧ x.kind = k then out ++ [n] else out).map iv).take most.toNat = (out.map iv).take most.toNat := by rw [← List.map_take, ← List.map_take, hst]
      rw [htk, hst2]
      simp [go_sem, hw]
  · have hil : i = ks.length := by omega
    subst hil
    simp [go_sem, seekSV]
/-- What a spec gets in a node. -/
def coresL (g : List Thing) (free : List Int) (s : Spec) (u : Nat) : List Int := (ofKind g free 3 (kidsL g u)).take s.cores.toNat
def gpusL (g : List Thing) (free : List Int) (s : Spec) (u : Nat) : List Int := (ofKind g free 4 (kidsL g u)).take s.gpus.toNat
def nodeOk (g : List Thing) (free : List Int) (s : Spec) (u : Nat) : Bool := (th g u).kind == 2 && decide ((u : Int) ∈ free) && (s.tag.toList == [] || (th g u).tag.toList == s.tag.toList)
def hereL (g : List Thing) (free : List Int) (s : Spec) (u : Nat) : List Int × Bool :=
  if nodeOk g free s u = true then
    (if (coresL g free s u).length < s.cores ∨ (gpusL g free s u).length < s.gpus then ([], false)
    else if s.whole = true then (if (kidsL g u).all (fun n => decide (n ∈ free)) = true then ((u : Int) :: kidsL g u, true) else ([], false))
    else (joinL (coresL g free s u) (gpusL g free s u), true))
  else ([], false)
attribute [go_sem] seekSV
set_option maxHeartbeats 8000000 in
set_option maxRecDepth 100000 in
theorem here_c (g : List Thing) (free : List Int) (s : Spec) (u : Nat) (hg : isGraph g = true) (hu : u < g.length) (hs : isSpec s = true) : ACalls Tryd.prog 60 [seekSV g free s, iv u] (· = .many [.sv (ints (hereL g free s u).1), .sv (bv (hereL g free s u).2)]) := by
  refine ACalls.of_bodyS (fun _ _ => Tryd.call60 _ _) Tryd.func60 rfl Tryd.ntmps60 (by simp) ?_
  refine Tr.ex ?_
  have hlen := isGraph_len hg
  have hu' : (u : Int) < g.length := by omega
  obtain ⟨x, hgx⟩ : ∃ x, g[u]? = some x := ⟨_, List.getElem?_eq_getElem hu⟩
  have hx := th_get hgx
  have hin : ((insL g.length free).map bv)[u]? = some (bv (decide ((u : Int) ∈ free))) := by
    unfold insL
    simp [List.getElem?_range hu]
  simp [go_sem, seekSV, hu, hu', hgx, gE hgx]
  refine DrawW.rd rfl ?_
  unfold hereL nodeOk
  rw [hx]
  by_cases c1 : x.kind = 2
  case neg =>
    have e1 : (x.kind == 2) = false := by simpa using c1
    simp [go_sem, bne, e1]
    show _ = true
    kernel_rfl
  have e1 : (x.kind == 2) = true := by simpa using c1
  by_cases c2 : (u : Int) ∈ free
  case neg =>
    simp [go_sem, bne, e1, c2, hu, hu', hin, gE hin, insL_len]
    show _ = true
    kernel_rfl
  have hc0 : 0 ≤ s.cores := by unfold isSpec inR at hs; simp only [Bool.and_eq_true, decide_eq_true_eq] at hs; omega
  have hp0 : 0 ≤ s.gpus := by unfold isSpec inR at hs; simp only [Bool.and_eq_true, decide_eq_true_eq] at hs; omega
  have hkc : ACalls Tryd.prog 91 [seekSV g free s, iv u, iv 3, iv s.cores] (· = .one (.sv (ints (coresL g free s u)))) := kind_c g free s u 3 s.cores hg hu hc0
  have hkg : ACalls Tryd.prog 91 [seekSV g free s, iv u, iv 4, iv s.gpus] (· = .one (.sv (ints (gpusL g free s u)))) := kind_c g free s u 4 s.gpus hg hu hp0
  have hcl : (coresL g free s u).length ≤ 256 := by
    unfold coresL ofKind
    have h1 := List.length_filter_le (fun n => decide (n ∈ free) && (th g n.toNat).kind == 3) (kidsL g u)
    have h2 := kidsL_len g u
    rw [List.length_take]; omega
  have hgl : (gpusL g free s u).length ≤ 256 := by
    unfold gpusL ofKind
    have h1 := List.length_filter_le (fun n => decide (n ∈ free) && (th g n.toNat).kind == 4) (kidsL g u)
    have h2 := kidsL_len g u
    rw [List.length_take]; omega
  generalize coresL g free s u = cs at *
  generalize gpusL g free s u = gs at *
  cases c3 : (s.tag.toList == [])
  case' true =>
    simp [go_sem, bne, e1, c2, c3, hu, hu', hin, gE hin, insL_len]
    refine ⟨by kernel_rfl, ?_⟩
  case' false =>
    cases c4 : (x.tag.toList == s.tag.toList)
    case' false =>
      simp [go_sem, bne, e1, c2, c3, c4, hu, hu', hin, gE hin, insL_len]
      refine (show _ = true from ?_)
      kernel_rfl
    case' true =>
      simp [go_sem, bne, e1, c2, c3, c4, hu, hu', hin, gE hin, insL_len]
      refine ⟨by kernel_rfl, ?_⟩
  all_goals
    refine DrawW.rd rfl ?_
    simp [go_sem]
    refine OpD.call false (hkc) rfl rfl (by simp [go_sem]) (fun h => by cases h) (by simp [go_sem]) (by simp [go_sem]) ?_
    simp [go_sem]
    refine OpD.call false (hkg) rfl rfl (by simp [go_sem]) (fun h => by cases h) (by simp [go_sem]) (by simp [go_sem]) ?_
    simp [go_sem]
    refine ⟨by kernel_rfl, ?_⟩
    by_cases d1 : (cs.length : Int) < s.cores
    · simp [go_sem, d1]
    by_cases d2 : (gs.length : Int) < s.gpus
    · simp [go_sem, d1, d2]
    cases hw : s.whole with
    | false =>
      simp [go_sem, d1, d2, hw]
      refine OpW.fn false (Join_c cs gs (by omega) (by omega)) rfl rfl (by simp [go_sem]) (fun h => by cases h) ?_
      rintro r rfl
      simp [go_sem]
    | true =>
      have hr : (List.range g.length)[u]? = some u := List.getElem?_range hu
      have hkt : kidsTo g g.length u = kidsL g u := rfl
      have hkm : ∀ n ∈ kidsL g u, 0 ≤ n ∧ n < g.length := fun n hn => ⟨(kidsL_mem hn).1, (kidsL_mem hn).2.1⟩
      have hkl := kidsL_len g u
      simp [go_sem, d1, d2, hw, hu, hu', hr, hkt]
      generalize kidsL g u = ks at *
      refine LoopW.of (fun i : Nat => ⟨123, [(0, .sv (seekSV g free s)), (1, .sv (iv u)), (4, .nil), (5, .sv (bv false)), (98, .sv (ints ks)), (99, .sv (iv ks.length)), (100, .sv (iv i))], []⟩)
        (fun i => i ≤ ks.length ∧ ∀ n ∈ ks.take i, n ∈ free) (fun i => ks.length - i) 0 ⟨by omega, by simp⟩ (Ent.chk (by simp [go_sem, hw])) ?_
      rintro i ⟨hi, hp⟩
      by_cases hlt : i < ks.length
      · have hlt' : (i : Int) < ks.length := by omega
        obtain ⟨n, hn⟩ : ∃ x, ks[i]? = some x := ⟨_, List.getElem?_eq_getElem hlt⟩
        have hw1 : IntKind.i64.wrap ((i : Int) + 1) = (i : Int) + 1 := by rw [i64w] <;> omega
        obtain ⟨hn0, hn1⟩ := hkm n (List.mem_of_getElem? hn)
        have hnn : n.toNat < g.length := by omega
        have hin2 : ((insL g.length free).map bv)[n.toNat]? = some (bv (decide (n ∈ free))) := by
          unfold insL
          have : ((n.toNat : Nat) : Int) = n := by omega
          simp [List.getElem?_range hnn, this]
        by_cases f1 : n ∈ free
        · simp [go_sem, hw, hlt, hlt', hn, gE hn, hn0, hn1, hnn, hin2, gE hin2, f1, insL_len]
          refine ⟨i + 1, ⟨by omega, ?_⟩, by omega, Ent.chk (by simp [go_sem, hw, hw1])⟩
          rw [List.take_succ_eq_append_getElem hlt, gE hn]
          intro m hm
          rcases List.mem_append.1 hm with h | h
          · exact hp m h
          · simp at h; subst h; exact f1
        · have hno : ¬ ∀ x ∈ ks, x ∈ free := fun h => f1 (h n (List.mem_of_getElem? hn))
          simp [go_sem, hw, hlt, hlt', hn, gE hn, hn0, hn1, hnn, hin2, gE hin2, f1, hno, insL_len]
      · have hil : i = ks.length := by omega
        subst hil
        rw [List.take_length] at hp
        have hall : ∀ x ∈ ks, x ∈ free := hp
        have hif : (if ∀ x ∈ ks, x ∈ free then ((u : Int) :: ks, true) else ([], false)) = ((u : Int) :: ks, true) := if_pos hall
        rw [hif]
        simp [go_sem, hw, hu, hu', hr, hkt]
        omega
end Go.Proofs.YtfcojlagmmgagaaDoor.Ab
