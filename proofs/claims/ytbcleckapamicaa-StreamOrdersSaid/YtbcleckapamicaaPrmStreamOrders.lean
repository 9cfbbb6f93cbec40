-- Written by grow.py (a program of this session).
import Derived.Test.YtbcleckapamicaaQSox0
import Derived.Test.YtbcleckapamicaaOpn
namespace Go.Proofs.Ytbcleckapamicaa.streamOrdersPrm
open Go.RowKit Go.Proofs.YtbcleckapamicaaW.PrintWords Go.Proofs.Ytbcleckapamicaa.QSo Go.Proofs.Ytbcleckapamicaa.Opn
set_option linter.unusedVariables false
def ok5 : Int → Prop := fun n => (Lit.int .u8 n).wf = true
theorem opens_ok5 : Opens Try.prog 5 (Kd.int .u8) ok5 := Opens.int Try.underlying5
def ok44 : List (Int) → Prop := fun xs => xs.length ≤ 9223372036854775807 ∧ ∀ x ∈ xs, ok5 x
theorem opens_ok44 : Opens Try.prog 44 (Kd.slice 5 (Kd.int .u8)) ok44 := Opens.slice Try.underlying44 (by kernel_rfl) opens_ok5
def ok60 : List (List (Int)) → Prop := fun xs => xs.length ≤ 9223372036854775807 ∧ ∀ x ∈ xs, ok44 x
theorem opens_ok60 : Opens Try.prog 60 (Kd.slice 44 (Kd.slice 5 (Kd.int .u8))) ok60 := Opens.slice Try.underlying60 (by kernel_rfl) opens_ok44
/-- What is to be proved of the function: at all that comes in it answers true. -/
def Pure : Prop := ∀ (x0 : List (List (Int))) (x1 : List (Int)) (x2 : List (Int)), ok60 x0 → ok44 x1 → ok44 x2 → shibbolethlaw13_StreamOrders.f x0 x1 x2 = some true
end Go.Proofs.Ytbcleckapamicaa.streamOrdersPrm
