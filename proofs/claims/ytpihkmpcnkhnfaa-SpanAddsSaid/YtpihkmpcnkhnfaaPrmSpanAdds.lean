-- Written by grow.py (a program of this session).
import Derived.Test.YtpihkmpcnkhnfaaQSex0
import Derived.Test.YtpihkmpcnkhnfaaOpn
namespace Go.Proofs.Ytpihkmpcnkhnfaa.spanAddsPrm
open Go.RowKit Go.Proofs.YtpihkmpcnkhnfaaW.PrintWords Go.Proofs.Ytpihkmpcnkhnfaa.QSe Go.Proofs.Ytpihkmpcnkhnfaa.Opn
set_option linter.unusedVariables false
def ok3 : Int → Prop := fun n => (Lit.int .i64 n).wf = true
theorem opens_ok3 : Opens Try.prog 3 (Kd.int .i64) ok3 := Opens.int Try.underlying3
def ok22 : List (Int) → Prop := fun xs => xs.length ≤ 9223372036854775807 ∧ ∀ x ∈ xs, ok3 x
theorem opens_ok22 : Opens Try.prog 22 (Kd.slice 3 (Kd.int .i64)) ok22 := Opens.slice Try.underlying22 (by kernel_rfl) opens_ok3
/-- What is to be proved of the function: at all that comes in it answers true. -/
def Pure : Prop := ∀ (x0 : List (Int)) (x1 : List (Int)), ok22 x0 → ok22 x1 → shibbolethlaw11_SpanAdds.f x0 x1 = some true
end Go.Proofs.Ytpihkmpcnkhnfaa.spanAddsPrm
