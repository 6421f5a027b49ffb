/- share: what a parameter of Use tells. -/
import Derived.Test.YtnkcenafpigmbaaShE
namespace Go.Proofs.Ytnkcenafpigmbaa.Ab
open Go.RowKit Go.Proofs.Ytnkcenafpigmbaa.Fl
set_option linter.unusedVariables false
set_option linter.unusedSimpArgs false

def UseOk (u : Use) : Prop := (Lit.int .i64 u.who).wf = true ∧ (Lit.float .f64 u.had).wf = true ∧ (Lit.float .f64 u.weight).wf = true
theorem UseOk_mk {p : Int × Nat × Nat × Unit} (h : (Lit.int .i64 p.1).wf = true ∧ (Lit.float .f64 p.2.1).wf = true ∧ (Lit.float .f64 p.2.2.1).wf = true ∧ True) : UseOk ⟨p.1, p.2.1, p.2.2.1⟩ := ⟨h.1, h.2.1, h.2.2.1⟩
theorem fl_wf {x : Nat} (h : (Lit.float .f64 x).wf = true) : x < 18446744073709551616 := by
  have := of_decide_eq_true h
  omega
theorem UseOk.w {u : Use} (h : UseOk u) : UseW u := ⟨fl_wf h.2.1, fl_wf h.2.2⟩
end Go.Proofs.Ytnkcenafpigmbaa.Ab
