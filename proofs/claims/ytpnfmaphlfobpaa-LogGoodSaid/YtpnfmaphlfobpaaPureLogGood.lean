/- The law LogGood. -/
import Derived.Test.YtpnfmaphlfobpaaPureLogRight
namespace Go.Proofs.Ytpnfmaphlfobpaa.Ab
open Go.RowKit LogP
set_option linter.unusedVariables false
theorem law_LogGood (b e : List Int) (h0 : b.length * 1 ≤ 140737488351232 ∧ b.length ≤ maxLen ∧ ∀ x ∈ b, (Lit.int .u8 x).wf = true) (h1 : e.length * 1 ≤ 140737488351232 ∧ e.length ≤ maxLen ∧ ∀ x ∈ e, (Lit.int .u8 x).wf = true) :
    ACalls Try.prog 6 [SV.lst (b.map fun n => SV.val (.int .u8 n)), SV.lst (e.map fun n => SV.val (.int .u8 n))] (· = .one (.sv (bv true))) :=
  LogGood_c b e (bs_wf h0.2.2) (bs_wf h1.2.2) (by omega) (by omega)
end Go.Proofs.Ytpnfmaphlfobpaa.Ab
