-- Written by grow.py (a program of this session).
import Derived.Test.YtbcleckapamicaaLawBStreamActs
import Derived.WalkKit
import Derived.ProofKit
import Derived.OpenShut
import Derived.ShutString
import Derived.ChangeOld
import Derived.Below
import Derived.SizedLaws
namespace Go.Proofs.Ytbcleckapamicaa.streamActs
open Go.ChangeShapes Go.WideShapes Go.ChangeAt Go.RowKit Go.Proofs.Ytbcleckapamicaa.Opn Go.Proofs.YtbcleckapamicaaW.PrintWords Go.Proofs.Ytbcleckapamicaa.streamActsPrm
set_option linter.unusedVariables false
theorem proved : Rows.StreamActsSaid := over
#print axioms proved
end Go.Proofs.Ytbcleckapamicaa.streamActs
namespace Go.Proofs.Ytbcleckapamicaa
/-- The row, under a short name, for the claim. -/
theorem streamActs_holds : Rows.StreamActsSaid := streamActs.proved
end Go.Proofs.Ytbcleckapamicaa
