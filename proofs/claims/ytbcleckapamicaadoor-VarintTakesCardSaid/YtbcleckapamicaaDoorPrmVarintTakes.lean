-- Written by grow.py (a program of this session).
import Derived.Test.YtbcleckapamicaaDoorQTkx0
import Derived.Test.YtbcleckapamicaaDoorOpn
namespace Go.Proofs.YtbcleckapamicaaDoor.varintTakesPrm
open Go.RowKit Go.Proofs.YtbcleckapamicaaDoorW.PrintWords Go.Proofs.YtbcleckapamicaaDoor.QTk Go.Proofs.YtbcleckapamicaaDoor.Opn
set_option linter.unusedVariables false
def ok5 : Int → Prop := fun n => (Lit.int .u8 n).wf = true
theorem opens_ok5 : Opens Tryd.prog 5 (Kd.int .u8) ok5 := Opens.int Tryd.underlying5
def ok22 : List (Int) → Prop := fun xs => xs.length ≤ 9223372036854775807 ∧ ∀ x ∈ xs, ok5 x
theorem opens_ok22 : Opens Tryd.prog 22 (Kd.slice 5 (Kd.int .u8)) ok22 := Opens.slice Tryd.underlying22 (by kernel_rfl) opens_ok5
/-- What is to be proved of the function: at all that comes in it answers true. -/
def Pure : Prop := ∀ (x0 : List (Int)) (x1 : List (Int)), ok22 x0 → ok22 x1 → shibbolethlaw01_VarintTakes.f x0 x1 = some true
end Go.Proofs.YtbcleckapamicaaDoor.varintTakesPrm
