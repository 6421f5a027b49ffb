/- Small own words beside the printer's: used by the texts that gprint.py writes. -/
import Derived.Test.YtimllhflecippaaWWords
import Derived.Test.YtimllhflecippaaWMore
namespace Go.Proofs.YtimllhflecippaaW.PrintWords
/-- A row that is read, its length spelled otherwise. -/
theorem Kd.C_cast {α : Type} {d : Kd α} {w : World} {A : Option Addr} {n : Nat} {xs : List α} (e : xs.length = n) (h : d.C w A xs.length xs) : d.C w A n xs := e ▸ h
end Go.Proofs.YtimllhflecippaaW.PrintWords
