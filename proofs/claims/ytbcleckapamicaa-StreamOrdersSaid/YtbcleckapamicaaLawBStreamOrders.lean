-- Written by grow.py (a program of this session).
import Derived.Test.YtbcleckapamicaaLawAStreamOrders
import Derived.WalkKit
import Derived.ProofKit
import Derived.OpenShut
import Derived.ShutString
import Derived.ChangeOld
import Derived.Below
import Derived.SizedLaws
import Derived.JoinedOf
namespace Go.Proofs.Ytbcleckapamicaa.streamOrders
open Go.ChangeShapes Go.WideShapes Go.ChangeAt Go.RowKit Go.Proofs.Ytbcleckapamicaa.Opn Go.Proofs.YtbcleckapamicaaW.PrintWords Go.Proofs.Ytbcleckapamicaa.streamOrdersPrm
set_option linter.unusedVariables false
theorem over : Rows.streamOrdersRow.holds Try.pinned (OpenSpec.ofChange Rows.streamOrdersSpec) :=
  OpenClaim.holds_of_wide 8 Try.f8 rfl rfl rfl rfl rfl rfl rfl ⟨rfl, rfl, rfl, rfl, rfl⟩ rfl rfl rfl rfl rfl (by kernel_rfl) Try.func8 (by kernel_rfl)
    (of_decide_eq_true (by kernel_rfl)) (by unfold Func.isWrapper; first | (rw [if_pos (by decide +kernel)]; kernel_rfl) | (rw [if_neg (by decide +kernel)]; exact ⟨rfl, rfl⟩))
    (fun os started H enc _ => lifted os started H enc)
end Go.Proofs.Ytbcleckapamicaa.streamOrders
