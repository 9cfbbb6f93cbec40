-- Written by grow.py (a program of this session).
import Derived.Test.YtbcleckapamicaaQSfx0
import Derived.Test.YtbcleckapamicaaOpn
namespace Go.Proofs.Ytbcleckapamicaa.streamFarPrm
open Go.RowKit Go.Proofs.YtbcleckapamicaaW.PrintWords Go.Proofs.Ytbcleckapamicaa.QSf Go.Proofs.Ytbcleckapamicaa.Opn
set_option linter.unusedVariables false
def ok58 : Int → Prop := fun n => (Lit.int .u16 n).wf = true
theorem opens_ok58 : Opens Try.prog 58 (Kd.int .u16) ok58 := Opens.int Try.underlying58
def ok5 : Int → Prop := fun n => (Lit.int .u8 n).wf = true
theorem opens_ok5 : Opens Try.prog 5 (Kd.int .u8) ok5 := Opens.int Try.underlying5
def ok44 : List (Int) → Prop := fun xs => xs.length ≤ 9223372036854775807 ∧ ∀ x ∈ xs, ok5 x
theorem opens_ok44 : Opens Try.prog 44 (Kd.slice 5 (Kd.int .u8)) ok44 := Opens.slice Try.underlying44 (by kernel_rfl) opens_ok5
/-- What is to be proved of the function: at all that comes in it answers true. -/
def Pure : Prop := ∀ (x0 : Int) (x1 : List (Int)), ok58 x0 → ok44 x1 → shibbolethlaw13_StreamFar.f x0 x1 = some true
end Go.Proofs.Ytbcleckapamicaa.streamFarPrm
