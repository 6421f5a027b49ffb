/- Graphs: graph.part, Right, there. -/
import Derived.Test.YtfcojlagmmgagaaDoorGrA
import Derived.Test.YtfcojlagmmgagaaDoorGrS
import Derived.Test.YtfcojlagmmgagaaDoorGrU
namespace Go.Proofs.YtfcojlagmmgagaaDoor.Ab
open Go.RowKit
set_option linter.unusedVariables false
set_option linter.unusedSimpArgs false

/-- May a kind be part of another one? -/
def kindOk (k up : Int) : Bool := (k == 1 && up == 0) || (k == 2 && (up == 0 || up == 1)) || ((k == 3 || k == 4) && up == 2)
theorem part_c (k up : Int) : ACalls Tryd.prog 64 [iv k, iv up] (· = .one (.sv (bv (kindOk k up)))) := by
  refine ACalls.of_body (fun _ _ => Tryd.call64 _ _) Tryd.func64 rfl Tryd.ntmps64 (by simp) ?_
  refine Tr.ex ?_
  unfold kindOk
  by_cases h1 : k = 1
  · subst h1; simp [go_sem]
  · have a1 : (k == 1) = false := by simpa using h1
    by_cases h2 : k = 2
    · subst h2
      by_cases hu : up = 0
      · subst hu; simp [go_sem]
      · have a4 : (up == 0) = false := by simpa using hu
        simp [go_sem, a4]
    · have a2 : (k == 2) = false := by simpa using h2
      by_cases h3 : k = 3
      · subst h3; simp [go_sem]
      · have a3 : (k == 3) = false := by simpa using h3
        by_cases h4 : k = 4
        · subst h4; simp [go_sem]
        · have a4 : (k == 4) = false := by simpa using h4
          simp [go_sem, a1, a2, a3, a4]

def th (g : List Thing) (i : Nat) : Thing := g.getD i default
/-- Is a thing, beyond the first one, as it should be? -/
def goodB (g : List Thing) (i : Nat) : Bool :=
  decide (0 ≤ (th g i).up) && decide ((th g i).up < i) && kindOk (th g i).kind (th g (th g i).up.toNat).kind && isTag (th g i).tag && ((th g i).tag.toList == [] || (th g i).kind == 2)
def rootB (t : Thing) : Bool := t.kind == 0 && t.up == -1 && t.tag.toList == []
def isGraph (g : List Thing) : Bool := decide (1 ≤ g.length) && decide (g.length ≤ 256) && rootB (th g 0) && (List.range (g.length - 1)).all fun i => goodB g (i + 1)
/-- What the machine asks of a graph that comes in. -/
def Things (g : List Thing) : Prop := ∀ t ∈ g, t.tag.size ≤ 9223372036854775807

set_option maxHeartbeats 4000000 in
theorem gRight_c (g : List Thing) (hg : g.length ≤ 140737488355328) (ht : Things g) : ACalls Tryd.prog 24 [things g] (· = .one (.sv (bv (isGraph g)))) := by
  refine ACalls.of_body (fun _ _ => Tryd.call24 _ _) Tryd.func24 rfl Tryd.ntmps24 (by simp) ?_
  refine Tr.ex ?_
  by_cases h1 : g.length < 1
  · have e : isGraph g = false := by unfold isGraph; have : ¬ 1 ≤ g.length := by omega
                                     simp [this]
    have h1' : (g.length : Int) < 1 := by omega
    simp [go_sem, h1', e]
  · have h1' : ¬ (g.length : Int) < 1 := by omega
    by_cases h2 : 256 < g.length
    · have e : isGraph g = false := by unfold isGraph; have : ¬ g.length ≤ 256 := by omega
                                       simp [this]
      have h2' : 256 < (g.length : Int) := by omega
      simp [go_sem, h1', h2', e]
    · have h2' : ¬ 256 < (g.length : Int) := by omega
      have h0 : 0 < g.length := by omega
      have hq : (!(g[0].kind == 0) || (!(g[0].up == -1) || !g[0].tag.toList.isEmpty)) = !rootB (th g 0) := by
        unfold rootB th
        simp [h0, Bool.or_assoc]
      cases hr : rootB (th g 0) with
      | false =>
        have e : isGraph g = false := by unfold isGraph; simp [hr]
        rw [hr] at hq
        simp [go_sem, h1', h2', e, getD_map, h0, hq]
      | true =>
        rw [hr] at hq
        have h1 : 1 ≤ g.length := by omega
        have h1'' : (1 : Int) ≤ g.length := by omega
        have hfit : ∀ a : Thing, a ∈ g → SV.fits 3 (thingSV a) = true := fun a _ => rfl
        simp [go_sem, h1', h2', getD_map, h0, hq, h1'', hfit]
        have hsl : (List.take g.length (List.map thingSV g)).tail = (g.drop 1).map thingSV := by
          rw [List.take_of_length_le (by simp)]
          cases g <;> simp
        refine LoopW.of (fun i : Nat => ⟨66, [(0, .sv (things g)), (2, .sv (bv false)), (21, .sv (.lst ((g.drop 1).map thingSV))), (22, .sv (iv (g.length - 1 : Nat))), (23, .sv (iv i))], []⟩)
          (fun i => i ≤ g.length - 1 ∧ ∀ j, j < i → goodB g (j + 1) = true) (fun i => g.length - 1 - i) 0 ⟨by omega, fun j hj => by omega⟩ (Ent.chk (by simp [go_sem, hsl])) ?_
        rintro i ⟨hi, hgood⟩
        by_cases hlt : i < g.length - 1
        · have hlt' : (i : Int) < (g.length - 1 : Nat) := by omega
          have hl2 : i < (g.drop 1).length := by simp; omega
          have hl3 : i + 1 < g.length := by omega
          have hl4 : 1 + i < g.length := by omega
          have hth : th g (i + 1) = g[i + 1] := by unfold th; simp [hl3]
          have hbad : goodB g (i + 1) = false → isGraph g = false := fun h => by
            unfold isGraph
            have : ((List.range (g.length - 1)).all fun i => goodB g (i + 1)) = false := by
              rw [List.all_eq_false]
              exact ⟨i, by simpa using hlt, by simp [h]⟩
            rw [this]; simp
          have hsz : (g[i + 1]).tag.size ≤ 9223372036854775807 := ht _ (List.getElem_mem _)
          have hw : IntKind.i64.wrap ((i : Int) + 1) = (i : Int) + 1 := by rw [i64w] <;> omega
          have hunf := hbad
          unfold goodB at hunf
          rw [hth] at hunf
          generalize hk : g[i + 1].kind = k at hunf
          generalize hu : g[i + 1].up = u at hunf
          generalize hs : g[i + 1].tag = s at hunf hsz
          have hge : g[i + 1]? = some ⟨k, u, s⟩ := by rw [List.getElem?_eq_getElem hl3, ← hk, ← hu, ← hs]
          simp [go_sem, hlt', hge]
          refine DrawW.rd rfl ?_
          simp [go_sem]
          by_cases c1 : u < 0
          · have e := hunf (by have : ¬ 0 ≤ u := by omega
                               simp [this])
            simp [go_sem, c1]
            exact ⟨by kernel_rfl, e⟩
          · simp [go_sem, c1]
            by_cases c2 : (i : Int) < u
            · have e := hunf (by have : ¬ u < ((i + 1 : Nat) : Int) := by omega
                                 simp only [this, decide_false, Bool.and_false, Bool.false_and])
              simp [go_sem, c2]
              exact ⟨by kernel_rfl, e⟩
            · have h0u : 0 ≤ u := by omega
              have hun : u.toNat < g.length := by omega
              have hul : u < (g.length : Int) := by omega
              have hgu : g[u.toNat]? = some g[u.toNat] := List.getElem?_eq_getElem hun
              have hthu : th g u.toNat = g[u.toNat] := by unfold th; simp [hun]
              rw [hthu] at hunf
              have q1 : (decide (0 ≤ u) && decide (u < ((i + 1 : Nat) : Int))) = true := by simp; omega
              rw [q1, Bool.true_and] at hunf
              simp [go_sem, c2, hgu, h0u, hul]
              refine OpD.call true (part_c k g[u.toNat].kind) rfl rfl (by simp [go_sem]) (by intro _; simp [go_sem]) (by simp [go_sem]) (by simp [go_sem]) ?_
              cases c3 : kindOk k g[u.toNat].kind with
              | false =>
                have e := hunf (by simp [c3])
                simp [go_sem]
                exact ⟨by kernel_rfl, e⟩
              | true =>
                rw [c3, Bool.true_and] at hunf
                simp [go_sem]
                refine OpD.call true (Tag_c s hsz) rfl rfl (by simp [go_sem]) (by intro _; simp [go_sem]) (by simp [go_sem]) (by simp [go_sem]) ?_
                cases c4 : isTag s with
                | false =>
                  have e := hunf (by simp [c4])
                  simp [go_sem]
                  exact ⟨by kernel_rfl, e⟩
                | true =>
                  rw [c4, Bool.true_and] at hunf
                  simp [go_sem]
                  have hgo : ∀ j, (s.toList == [] || k == 2) = true → j < i + 1 → goodB g (j + 1) = true := fun j hc hj => by
                    by_cases hji : j < i
                    · exact hgood j hji
                    · have : j = i := by omega
                      subst this
                      unfold goodB
                      rw [hth, hk, hu, hs, hthu, q1, c3, c4, hc]; rfl
                  cases c5 : s.toList.isEmpty with
                  | true =>
                    simp [go_sem]
                    exact ⟨by kernel_rfl, i + 1, ⟨by omega, fun j hj => hgo j (by simp [c5]) hj⟩, by omega, Ent.chk (by simp [go_sem, hw])⟩
                  | false =>
                    simp [go_sem]
                    refine ⟨by kernel_rfl, cnd.part (fun c6 => ?_) (fun c6 => ?_)⟩
                    · have e := hunf (by simp at c6; simp [c5, c6])
                      simp [go_sem]
                      exact e
                    · simp [go_sem]
                      exact ⟨i + 1, ⟨by omega, fun j hj => hgo j (by simp at c6; simp [c6]) hj⟩, by omega, Ent.chk (by simp [go_sem, hw])⟩
        · have hil : i = g.length - 1 := by omega
          have e : isGraph g = true := by
            unfold isGraph
            have : ((List.range (g.length - 1)).all fun i => goodB g (i + 1)) = true := by
              rw [List.all_eq_true]
              intro j hj
              exact hgood j (by simp at hj; omega)
            rw [this, hr]; simp; omega
          subst hil
          simp [go_sem, e]
end Go.Proofs.YtfcojlagmmgagaaDoor.Ab
