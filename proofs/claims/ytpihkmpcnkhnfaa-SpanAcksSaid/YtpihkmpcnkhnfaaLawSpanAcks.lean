-- Written by grow.py (a program of this session).
import Derived.Test.YtpihkmpcnkhnfaaLawBSpanAcks
import Derived.WalkKit
import Derived.ProofKit
import Derived.OpenShut
import Derived.ShutString
import Derived.ChangeOld
import Derived.Below
import Derived.SizedLaws
namespace Go.Proofs.Ytpihkmpcnkhnfaa.spanAcks
open Go.ChangeShapes Go.WideShapes Go.ChangeAt Go.RowKit Go.Proofs.Ytpihkmpcnkhnfaa.Opn Go.Proofs.YtpihkmpcnkhnfaaW.PrintWords Go.Proofs.Ytpihkmpcnkhnfaa.spanAcksPrm
set_option linter.unusedVariables false
theorem proved : Rows.SpanAcksSaid := over
#print axioms proved
end Go.Proofs.Ytpihkmpcnkhnfaa.spanAcks
namespace Go.Proofs.Ytpihkmpcnkhnfaa
/-- The row, under a short name, for the claim. -/
theorem spanAcks_holds : Rows.SpanAcksSaid := spanAcks.proved
end Go.Proofs.Ytpihkmpcnkhnfaa
