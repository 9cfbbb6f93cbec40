-- Written by grow.py (a program of this session).
import Derived.Test.YtpihkmpcnkhnfaaQSrx0
import Derived.Test.YtpihkmpcnkhnfaaOpn
namespace Go.Proofs.Ytpihkmpcnkhnfaa.spanRunsPrm
open Go.RowKit Go.Proofs.YtpihkmpcnkhnfaaW.PrintWords Go.Proofs.Ytpihkmpcnkhnfaa.QSr Go.Proofs.Ytpihkmpcnkhnfaa.Opn
set_option linter.unusedVariables false
def ok41 : Int → Prop := fun n => (Lit.int .u32 n).wf = true
theorem opens_ok41 : Opens Try.prog 41 (Kd.int .u32) ok41 := Opens.int Try.underlying41
def ok42 : Int → Prop := fun n => (Lit.int .u16 n).wf = true
theorem opens_ok42 : Opens Try.prog 42 (Kd.int .u16) ok42 := Opens.int Try.underlying42
/-- What is to be proved of the function: at all that comes in it answers true. -/
def Pure : Prop := ∀ (x0 : Int) (x1 : Int), ok41 x0 → ok42 x1 → shibbolethlaw11_SpanRuns.f x0 x1 = some true
end Go.Proofs.Ytpihkmpcnkhnfaa.spanRunsPrm
