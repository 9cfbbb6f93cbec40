-- Written by grow.py (a program of this session).
import Derived.Test.YtpihkmpcnkhnfaaLawBSpanAdds
import Derived.WalkKit
import Derived.ProofKit
import Derived.OpenShut
import Derived.ShutString
import Derived.ChangeOld
import Derived.Below
import Derived.SizedLaws
namespace Go.Proofs.Ytpihkmpcnkhnfaa.spanAdds
open Go.ChangeShapes Go.WideShapes Go.ChangeAt Go.RowKit Go.Proofs.Ytpihkmpcnkhnfaa.Opn Go.Proofs.YtpihkmpcnkhnfaaW.PrintWords Go.Proofs.Ytpihkmpcnkhnfaa.spanAddsPrm
set_option linter.unusedVariables false
theorem proved : Rows.SpanAddsSaid := over
#print axioms proved
end Go.Proofs.Ytpihkmpcnkhnfaa.spanAdds
namespace Go.Proofs.Ytpihkmpcnkhnfaa
/-- The row, under a short name, for the claim. -/
theorem spanAdds_holds : Rows.SpanAddsSaid := spanAdds.proved
end Go.Proofs.Ytpihkmpcnkhnfaa
