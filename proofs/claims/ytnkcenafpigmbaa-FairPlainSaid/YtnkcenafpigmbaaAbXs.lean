/- A closure over what is shared is shared. -/
import Derived.Test.YtnkcenafpigmbaaAx1
namespace Go.Proofs.Ytnkcenafpigmbaa.Ab
open Go.RowKit
set_option linter.unusedVariables false
set_option linter.unusedSimpArgs false

theorem OpW.go {P : Program} {Q : Exit → St → Prop} {ops : Array Oper} {l : List Oper} {k : List Fr} {o : Oper} {st : St} (h : Ab.rn P Q ops (o :: l) k st) : OpW P Q ops o l k st := RnK.rn h
theorem fnS_inv {kp : Nat → Prop} {w : World} {E : Env} {st : St} {a : Act} (hI : Inv kp w E st a) {d : Nat} {f : FuncId} {caps : List AV} {xs : List SV} (hd : lk st.t d = some (.fnv f caps)) (hs : AV.svs caps = some xs) : Inv kp w E { st with t := up st.t d (.sv (.fn f xs)) } a := by
  refine ⟨hI.df, hI.sz, fun e x hx => ?_, hI.mm, hI.inj, hI.own, hI.okl, hI.kpl⟩
  rw [lk_up] at hx
  split at hx
  · rename_i e1
    subst e1
    obtain ⟨v, h1, h2⟩ := hI.tm _ _ hd
    simp only [Option.some.injEq] at hx
    subst hx
    refine ⟨v, h1, ?_⟩
    simp only [RepV] at h2 ⊢
    obtain ⟨cs, rfl, hr⟩ := h2
    exact ⟨cs, rfl, hr.svs hs⟩
  · exact hI.tm e x hx
theorem OpW.fnS {P : Program} {Q : Exit → St → Prop} {ops : Array Oper} {l : List Oper} {k : List Fr} {o : Oper} {st : St} (d : Nat) {f : FuncId} {caps : List AV} {xs : List SV} (hd : lk st.t d = some (.fnv f caps)) (hs : AV.svs caps = some xs)
    (h : OpW P Q ops o l k { st with t := up st.t d (.sv (.fn f xs)) }) : OpW P Q ops o l k st :=
  OpW.ent (fun kp w E a hI => ⟨E, fnS_inv hI hd hs, Evo.refl _ _ _⟩) h
end Go.Proofs.Ytnkcenafpigmbaa.Ab
