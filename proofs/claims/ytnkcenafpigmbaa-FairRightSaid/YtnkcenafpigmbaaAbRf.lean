/- The abstract layer, part Rf: a float that is read as data. -/
import Derived.Test.YtnkcenafpigmbaaAb3
namespace Go.Proofs.Ytnkcenafpigmbaa.Ab
open Go.RowKit Go.ChangeShapes Go.WideShapes
set_option linter.unusedVariables false
set_option linter.unusedSimpArgs false

theorem trod_flt {H : Type} {enc : TypeId × Value → H} {P : Program} {W : World} {base : Nat} {spare : Nat → Bool} {held : Bool} {fuel : Nat} {t : TypeId} {cs : List Value} {x : DataW H × List MemPlace} {k : FloatKind} (ht : P.underlying t = some (.float k)) (h : DataW.trod enc P W base spare held fuel t cs = some x) : ∃ b, cs = [.float k b] ∧ x = (.lit (.float k b), []) ∧ (Lit.float k b).wf = true := by
  cases fuel with
  | zero => simp [DataW.trod] at h
  | succ n =>
    unfold DataW.trod at h
    rw [ht] at h
    split at h <;> simp_all
theorem opens_flt {P : Program} {t : TypeId} {k : FloatKind} (ht : P.underlying t = some (.float k)) (hc : P.cellsOf t = 1) : Opens P t (fun n : Nat => .val (.float k n)) (fun x => (Lit.float k x).wf = true) :=
  ⟨by omega, fun enc W held fuel cs x h _ => by
    obtain ⟨n, rfl, _, hw⟩ := trod_flt ht h
    exact ⟨n, by simp [hc], ⟨.float k n, by simp [Value.cells], by simp only [RepS]⟩, hw⟩⟩
theorem okWide_flt {P : Program} {w : World} {r : Reach} {b0 : Nat} {t : TypeId} {k : FloatKind} {v : Value} (ht : P.underlying t = some (.float k)) (h : Value.okWide P w r b0 t v) : ∃ n, v = .float k n := by
  cases v <;> simp_all [Value.okWide, Cell.okWide, Cell.ok]
theorem open_flt {H : Type} {enc : TypeId × Value → H} {P : Program} {w : World} {base : Nat} {spare : Nat → Bool} {held : Bool} {r : Reach} {b0 : Nat} {t : TypeId} {k : FloatKind} {v : Value} {d : DataW H} {ps : List MemPlace} (ht : P.underlying t = some (.float k)) (hval : Value.okWide P w r b0 t v) (hd : DataW.Trod enc P w base spare held t v d ps) :
    ∃ n, v = .float k n ∧ d = .lit (.float k n) ∧ ps = [] ∧ (Lit.float k n).wf = true := by
  obtain ⟨n, rfl⟩ := okWide_flt ht hval
  obtain ⟨fuel, hf⟩ := hd
  obtain ⟨n', h, hx, hw⟩ := trod_flt ht hf
  simp [Value.cells] at h
  subst h
  simp only [Prod.mk.injEq] at hx
  exact ⟨n, rfl, hx.1, hx.2, hw⟩
theorem shut_flt {H : Type} {enc : TypeId × Value → H} {P : Program} {w : World} {base : Nat} {spare : Nat → Bool} {held : Bool} {t : TypeId} {k : FloatKind} {n : Nat} (ht : P.underlying t = some (.float k)) (hw : (Lit.float k n).wf = true) : DataW.Trod enc P w base spare held t (.float k n) (.lit (.float k n)) [] :=
  ⟨1, by simp [DataW.trod, Value.cells, ht, hw]⟩
end Go.Proofs.Ytnkcenafpigmbaa.Ab
