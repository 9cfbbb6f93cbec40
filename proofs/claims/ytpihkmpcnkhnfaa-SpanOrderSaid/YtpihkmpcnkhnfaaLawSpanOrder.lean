-- Written by grow.py (a program of this session).
import Derived.Test.YtpihkmpcnkhnfaaLawBSpanOrder
import Derived.WalkKit
import Derived.ProofKit
import Derived.OpenShut
import Derived.ShutString
import Derived.ChangeOld
import Derived.Below
import Derived.SizedLaws
namespace Go.Proofs.Ytpihkmpcnkhnfaa.spanOrder
open Go.ChangeShapes Go.WideShapes Go.ChangeAt Go.RowKit Go.Proofs.Ytpihkmpcnkhnfaa.Opn Go.Proofs.YtpihkmpcnkhnfaaW.PrintWords Go.Proofs.Ytpihkmpcnkhnfaa.spanOrderPrm
set_option linter.unusedVariables false
theorem proved : Rows.SpanOrderSaid := over
#print axioms proved
end Go.Proofs.Ytpihkmpcnkhnfaa.spanOrder
namespace Go.Proofs.Ytpihkmpcnkhnfaa
/-- The row, under a short name, for the claim. -/
theorem spanOrder_holds : Rows.SpanOrderSaid := spanOrder.proved
end Go.Proofs.Ytpihkmpcnkhnfaa
