-- Written by grow.py (a program of this session).
import Derived.Test.YtbcleckapamicaaQChx2
import Derived.Test.YtbcleckapamicaaOpn
namespace Go.Proofs.Ytbcleckapamicaa.chooseVerifiesPrm
open Go.RowKit Go.Proofs.YtbcleckapamicaaW.PrintWords Go.Proofs.Ytbcleckapamicaa.QCh Go.Proofs.Ytbcleckapamicaa.Opn
set_option linter.unusedVariables false
def ok3 : Int → Prop := fun n => (Lit.int .i64 n).wf = true
theorem opens_ok3 : Opens Try.prog 3 (Kd.int .i64) ok3 := Opens.int Try.underlying3
def ok22 : List (Int) → Prop := fun xs => xs.length ≤ 9223372036854775807 ∧ ∀ x ∈ xs, ok3 x
theorem opens_ok22 : Opens Try.prog 22 (Kd.slice 3 (Kd.int .i64)) ok22 := Opens.slice Try.underlying22 (by kernel_rfl) opens_ok3
def okT36 : ((List (Int)) × (List (Int)) × (List (Int)) × (Int)) → Prop := fun x => ok22 x.1 ∧ ok22 x.2.1 ∧ ok22 x.2.2.1 ∧ ok3 x.2.2.2
theorem opens_okT36 : Opens Try.prog 36 (Kd.pair (Kd.slice 3 (Kd.int .i64)) (Kd.pair (Kd.slice 3 (Kd.int .i64)) (Kd.pair (Kd.slice 3 (Kd.int .i64)) (Kd.int .i64)))) okT36 := Opens.struct Try.underlying36 (by kernel_rfl) (OpensF.cons rfl (by kernel_rfl) opens_ok22 (OpensF.cons rfl (by kernel_rfl) opens_ok22 (OpensF.cons rfl (by kernel_rfl) opens_ok22 (OpensF.last rfl (by kernel_rfl) opens_ok3))))
/-- What is to be proved of the function: at all that comes in it answers true. -/
def Pure : Prop := ∀ (x0 : (List (Int)) × (List (Int)) × (List (Int)) × (Int)), okT36 x0 → ∃ k, shibbolethlaw19_ChooseVerifies.f k (x0.1) (x0.2.1) (x0.2.2.1) (x0.2.2.2) = some true
end Go.Proofs.Ytbcleckapamicaa.chooseVerifiesPrm
