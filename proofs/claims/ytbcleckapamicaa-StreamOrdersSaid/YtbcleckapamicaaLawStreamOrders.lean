-- Written by grow.py (a program of this session).
import Derived.Test.YtbcleckapamicaaLawBStreamOrders
import Derived.WalkKit
import Derived.ProofKit
import Derived.OpenShut
import Derived.ShutString
import Derived.ChangeOld
import Derived.Below
import Derived.SizedLaws
namespace Go.Proofs.Ytbcleckapamicaa.streamOrders
open Go.ChangeShapes Go.WideShapes Go.ChangeAt Go.RowKit Go.Proofs.Ytbcleckapamicaa.Opn Go.Proofs.YtbcleckapamicaaW.PrintWords Go.Proofs.Ytbcleckapamicaa.streamOrdersPrm
set_option linter.unusedVariables false
theorem proved : Rows.StreamOrdersSaid := over
#print axioms proved
end Go.Proofs.Ytbcleckapamicaa.streamOrders
namespace Go.Proofs.Ytbcleckapamicaa
/-- The row, under a short name, for the claim. -/
theorem streamOrders_holds : Rows.StreamOrdersSaid := streamOrders.proved
end Go.Proofs.Ytbcleckapamicaa
