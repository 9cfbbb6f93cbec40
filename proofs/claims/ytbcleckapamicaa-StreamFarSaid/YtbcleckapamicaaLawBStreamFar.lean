-- Written by grow.py (a program of this session).
import Derived.Test.YtbcleckapamicaaLawAStreamFar
import Derived.WalkKit
import Derived.ProofKit
import Derived.OpenShut
import Derived.ShutString
import Derived.ChangeOld
import Derived.Below
import Derived.SizedLaws
import Derived.JoinedOf
namespace Go.Proofs.Ytbcleckapamicaa.streamFar
open Go.ChangeShapes Go.WideShapes Go.ChangeAt Go.RowKit Go.Proofs.Ytbcleckapamicaa.Opn Go.Proofs.YtbcleckapamicaaW.PrintWords Go.Proofs.Ytbcleckapamicaa.streamFarPrm
set_option linter.unusedVariables false
theorem over : Rows.streamFarRow.holds Try.pinned (OpenSpec.ofChange Rows.streamFarSpec) :=
  OpenClaim.holds_of_wide 7 Try.f7 rfl rfl rfl rfl rfl rfl rfl ⟨rfl, rfl, rfl, rfl, rfl⟩ rfl rfl rfl rfl rfl (by kernel_rfl) Try.func7 (by kernel_rfl)
    (of_decide_eq_true (by kernel_rfl)) (by unfold Func.isWrapper; first | (rw [if_pos (by decide +kernel)]; kernel_rfl) | (rw [if_neg (by decide +kernel)]; exact ⟨rfl, rfl⟩))
    (fun os started H enc _ => lifted os started H enc)
end Go.Proofs.Ytbcleckapamicaa.streamFar
