-- Written by grow.py (a program of this session).
import Derived.Test.YtbcleckapamicaaDoorQVax3
import Derived.Test.YtbcleckapamicaaDoorOpn
namespace Go.Proofs.YtbcleckapamicaaDoor.varintShortPrm
open Go.RowKit Go.Proofs.YtbcleckapamicaaDoorW.PrintWords Go.Proofs.YtbcleckapamicaaDoor.QVa Go.Proofs.YtbcleckapamicaaDoor.Opn
set_option linter.unusedVariables false
def ok3 : Int → Prop := fun n => (Lit.int .i64 n).wf = true
theorem opens_ok3 : Opens Tryd.prog 3 (Kd.int .i64) ok3 := Opens.int Tryd.underlying3
def ok5 : Int → Prop := fun n => (Lit.int .u8 n).wf = true
theorem opens_ok5 : Opens Tryd.prog 5 (Kd.int .u8) ok5 := Opens.int Tryd.underlying5
/-- What is to be proved of the function: at all that comes in it answers true. -/
def Pure : Prop := ∀ (x0 : Int) (x1 : Int), ok3 x0 → ok5 x1 → ∃ k, shibbolethlaw01_VarintShort.f k x0 x1 = some true
end Go.Proofs.YtbcleckapamicaaDoor.varintShortPrm
