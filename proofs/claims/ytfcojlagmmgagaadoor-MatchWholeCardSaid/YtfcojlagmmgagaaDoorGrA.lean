/- Things, as values. -/
import Derived.Test.YtfcojlagmmgagaaDoorAbR
import Derived.Test.YtfcojlagmmgagaaDoorTy
namespace Go.Proofs.YtfcojlagmmgagaaDoor.Ab
open Go.RowKit
structure Thing where
  kind : Int
  up : Int
  tag : ByteArray
  deriving Inhabited
def thingSV (t : Thing) : SV := .agg [iv t.kind, iv t.up, sv' t.tag]
def ThingOk (t : Thing) : Prop := (Lit.int .i64 t.kind).wf = true ∧ (Lit.int .i64 t.up).wf = true ∧ t.tag.size ≤ 140737488351232
theorem ThingOk_mk {p : Int × Int × ByteArray × Unit} (h : (Lit.int .i64 p.1).wf = true ∧ (Lit.int .i64 p.2.1).wf = true ∧ p.2.2.1.size ≤ 140737488351232 ∧ True) : ThingOk ⟨p.1, p.2.1, p.2.2.1⟩ := ⟨h.1, h.2.1, h.2.2.1⟩
def things (g : List Thing) : SV := .lst (g.map thingSV)
attribute [go_sem] thingSV things sv'
end Go.Proofs.YtfcojlagmmgagaaDoor.Ab
