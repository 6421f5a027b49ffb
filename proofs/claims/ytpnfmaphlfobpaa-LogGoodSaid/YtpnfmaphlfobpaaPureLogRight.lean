/- The law LogRight. -/
import Derived.Test.YtpnfmaphlfobpaaLoC
namespace Go.Proofs.Ytpnfmaphlfobpaa.Ab
open Go.RowKit LogP
set_option linter.unusedVariables false
theorem bs_wf {l : List Int} (h : ∀ x ∈ l, (Lit.int .u8 x).wf = true) : Bs l := fun x hx => by
  have := h x hx
  simp [Lit.wf] at this
  have e0 : IntKind.u8.min = 0 := by decide
  have e1 : IntKind.u8.max = 255 := by decide
  omega
theorem law_LogRight (b e : List Int) (h0 : b.length * 1 ≤ 140737488351232 ∧ b.length ≤ maxLen ∧ ∀ x ∈ b, (Lit.int .u8 x).wf = true) (h1 : e.length * 1 ≤ 140737488351232 ∧ e.length ≤ maxLen ∧ ∀ x ∈ e, (Lit.int .u8 x).wf = true) :
    ACalls Try.prog 5 [SV.lst (b.map fun n => SV.val (.int .u8 n)), SV.lst (e.map fun n => SV.val (.int .u8 n))] (· = .one (.sv (bv true))) :=
  LogRight_c b e (bs_wf h0.2.2) (bs_wf h1.2.2) (by omega) (by omega)
end Go.Proofs.Ytpnfmaphlfobpaa.Ab
