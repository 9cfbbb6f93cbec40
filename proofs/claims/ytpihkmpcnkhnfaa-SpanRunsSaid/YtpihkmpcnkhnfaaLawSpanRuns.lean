-- Written by grow.py (a program of this session).
import Derived.Test.YtpihkmpcnkhnfaaLawBSpanRuns
import Derived.WalkKit
import Derived.ProofKit
import Derived.OpenShut
import Derived.ShutString
import Derived.ChangeOld
import Derived.Below
import Derived.SizedLaws
namespace Go.Proofs.Ytpihkmpcnkhnfaa.spanRuns
open Go.ChangeShapes Go.WideShapes Go.ChangeAt Go.RowKit Go.Proofs.Ytpihkmpcnkhnfaa.Opn Go.Proofs.YtpihkmpcnkhnfaaW.PrintWords Go.Proofs.Ytpihkmpcnkhnfaa.spanRunsPrm
set_option linter.unusedVariables false
theorem proved : Rows.SpanRunsSaid := over
#print axioms proved
end Go.Proofs.Ytpihkmpcnkhnfaa.spanRuns
namespace Go.Proofs.Ytpihkmpcnkhnfaa
/-- The row, under a short name, for the claim. -/
theorem spanRuns_holds : Rows.SpanRunsSaid := spanRuns.proved
end Go.Proofs.Ytpihkmpcnkhnfaa
