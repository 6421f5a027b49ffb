/- Layer 3, plainly: the law is awake. -/
import Derived.Test.YtimllhflecippaaF9
import Derived.Test.YtimllhflecippaaStepP
namespace Go.Proofs.Ytimllhflecippaa.StepA
open Go.RowKit Go.Proofs.YtimllhflecippaaW.PrintWords Go.Proofs.YtimllhflecippaaW.PrintMore Go.Proofs.Ytimllhflecippaa.F Go.Proofs.Ytimllhflecippaa.Pk Go.Proofs.Ytimllhflecippaa.StepP Go.Proofs.Ytimllhflecippaa.StepQ
theorem awake_ev : Ev (fun k => bailiwicklaw03_awake.f k) true := Ev.of bailiwicklaw03_awake.mono (k := 40) (by decide +kernel)
end Go.Proofs.Ytimllhflecippaa.StepA
