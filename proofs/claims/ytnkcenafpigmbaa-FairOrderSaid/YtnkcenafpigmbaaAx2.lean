/- A struct of what is shared, built in a region that draws. Code that stands ahead of more, run apart: what it leaves is told once. -/
import Derived.Test.YtnkcenafpigmbaaAx1
import Derived.Test.YtnkcenafpigmbaaAb3
namespace Go.Proofs.Ytnkcenafpigmbaa.Ab
open Go.RowKit
set_option linter.unusedVariables false
set_option linter.unusedSimpArgs false

theorem afill_agr {s st : St} {place : Nat → Option (Nat × Nat)} : ∀ (ps : List (Nat × Operand)) (xs : List SV), (∀ p ∈ ps, aval s p.2 = aval st p.2) → afill s place xs ps = afill st place xs ps
  | [], xs, _ => rfl
  | (i, x) :: rest, xs, h => by
    have e0 : aval s x = aval st x := h (i, x) List.mem_cons_self
    simp only [afill]
    rw [e0]
    cases place i with
    | none => rfl
    | some q => cases ((aval st x).bind AV.elem).bind acells with
      | none => rfl
      | some zs =>
        simp only
        split
        · exact afill_agr rest _ (fun p hp => h p (List.mem_cons_of_mem _ hp))
        · rfl
theorem OpD.buildS {P : Program} {Q : Exit → St → Prop} {D : List Nat} {ops : Array Oper} {o : Oper} {l : List Oper} {fs : List Ft} {k : List Fr} {st : St} {ty : TypeId} {d : Nat} {ps : Array (Nat × Operand)} {xs : List SV} {pl : List (Nat × Nat)} {z : Value} (ho : o.op = .build ty ps) (hd : o.dst = some d) (hg : grd ops st o = some true) (hz : tzero P ty = some z) (hpl : splaces P ty = some pl) (hxs : afill st (fun i => pl[i]?) (z.cells.toList.map svC) ps.toList = some xs)
    (hn : d < st.n) (h : Ab.rd P Q D ops l (⟨usesT ops o, [], [], some (d, .sv (.agg xs)), [], none, false, []⟩ :: fs) k { st with t := up st.t d (.sv (.agg xs)) }) : OpD P Q D ops o l fs k st :=
  OpD.heavy (f := ⟨usesT ops o, [], [], some (d, .sv (.agg xs)), [], none, false, []⟩) ⟨⟨fun _ t x hw => (by cases hw), fun t cs hw => (by cases hw)⟩, fun s hs hT hM _ _ keep w E a hI N Q hN => by
    have hv := aval_agr (s := s) (st := st) (o := o) hT
    have hg' : grd ops s o = some true := by rw [grd_agr (st := st) hT]; exact hg
    rw [if_pos (grd_run hI hg')]
    have hops : ∀ p ∈ ps.toList, p.2 ∈ o.op.operands := fun p hp => by
      simp only [ho, Op.operands, List.mem_toArray]; exact List.mem_map.2 ⟨p, hp, rfl⟩
    have := does_build (P := P) (st := s) ho hz hpl (by rw [afill_agr _ _ (fun p hp => hv p.2 (hops p hp))]; exact hxs) (by rw [hd]; simp [St.fitsDst, hs, hn])
    rw [hd] at this
    exact this.wp hI hN⟩ h
end Go.Proofs.Ytnkcenafpigmbaa.Ab

namespace Go.Proofs.Ytnkcenafpigmbaa.Ab
open Go.RowKit
set_option linter.unusedVariables false
set_option linter.unusedSimpArgs false

theorem HaltW.cut {P : Program} {Q : Exit → St → Prop} {a b : Code} {k : List Fr} {st : St} {σ : Type} (S : σ → St) (I : σ → Prop) (h : Ab.ex P (loopQ P Q (.seq b :: k) (fun st' => ∃ s, I s ∧ Ent st' (S s))) a [] st) (hk : ∀ s, I s → HaltW P Q b k (S s)) : HaltW P Q (.seq a b) k st :=
  Tr.seq (ex.cut.Tr.mono' (Tr.ex h) fun keep w E a e st' hI hq => by
    cases e with
    | normal =>
      obtain ⟨s, hs, hent⟩ := hq
      obtain ⟨E', h1, h2⟩ := hent keep w E a hI
      exact ⟨S s, E', h1, h2, hk s hs⟩
    | _ => exact ⟨st', E, hI, Evo.refl _ _ _, kx_kq (k := .seq b :: k) hq⟩)
end Go.Proofs.Ytnkcenafpigmbaa.Ab
