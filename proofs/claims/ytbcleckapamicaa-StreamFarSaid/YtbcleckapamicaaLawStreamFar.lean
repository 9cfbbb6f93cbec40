-- Written by grow.py (a program of this session).
import Derived.Test.YtbcleckapamicaaLawBStreamFar
import Derived.WalkKit
import Derived.ProofKit
import Derived.OpenShut
import Derived.ShutString
import Derived.ChangeOld
import Derived.Below
import Derived.SizedLaws
namespace Go.Proofs.Ytbcleckapamicaa.streamFar
open Go.ChangeShapes Go.WideShapes Go.ChangeAt Go.RowKit Go.Proofs.Ytbcleckapamicaa.Opn Go.Proofs.YtbcleckapamicaaW.PrintWords Go.Proofs.Ytbcleckapamicaa.streamFarPrm
set_option linter.unusedVariables false
theorem proved : Rows.StreamFarSaid := over
#print axioms proved
end Go.Proofs.Ytbcleckapamicaa.streamFar
namespace Go.Proofs.Ytbcleckapamicaa
/-- The row, under a short name, for the claim. -/
theorem streamFar_holds : Rows.StreamFarSaid := streamFar.proved
end Go.Proofs.Ytbcleckapamicaa
