/- Layer 20, plainly: the good part of a log. -/
import Derived.Test.YtpnfmaphlfobpaaF5
import Derived.Test.YtpnfmaphlfobpaaLogP
namespace Go.Proofs.Ytpnfmaphlfobpaa.LogP
open Go.RowKit Go.Proofs.YtpnfmaphlfobpaaW.PrintWords Go.Proofs.YtpnfmaphlfobpaaW.PrintMore Go.Proofs.Ytpnfmaphlfobpaa.F Go.Proofs.Ytpnfmaphlfobpaa.Pk
set_option linter.unusedSimpArgs false
set_option linter.unusedVariables false
theorem good_ev {l : List Int} {es : List (List Int)} {n : Nat} (hB : Bs l) (hl : l.length < 4000000000000) (h : Rd l es n) : Ev (fun k => log_Good.f k l) (l.take n) := by
  have hle := h.le.1
  refine Ev.congr (f := fun k => (log_Read.f k l).bind fun bt => if 0 ≤ bt.2 then if bt.2 ≤ (l.length : Int) then some (l.take bt.2.toNat) else none else none) (fun k => ?_) ?_
  · simp only [log_Good.f, bytes_Clone.f]
    refine congrArg _ (funext fun t => ?_)
    by_cases h0 : 0 ≤ t.2
    · by_cases h1 : t.2 ≤ (l.length : Int)
      · rw [if_pos h0, if_pos h1, if_pos h0, if_pos h1, if_pos (by simp; omega)]; rfl
      · rw [if_pos h0, if_neg h1, if_pos h0, if_neg h1]
    · rw [if_neg h0, if_neg h0]
  · refine Ev.bind (read_ev hB hl h) ?_
    exact Ev.congr (f := fun _ => some (l.take n)) (fun k => by rw [if_pos (by omega), if_pos (by omega)]; simp) (Ev.now _)

end Go.Proofs.Ytpnfmaphlfobpaa.LogP
