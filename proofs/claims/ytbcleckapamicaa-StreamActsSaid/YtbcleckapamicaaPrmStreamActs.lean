-- Written by grow.py (a program of this session).
import Derived.Test.YtbcleckapamicaaQSax0
import Derived.Test.YtbcleckapamicaaOpn
namespace Go.Proofs.Ytbcleckapamicaa.streamActsPrm
open Go.RowKit Go.Proofs.YtbcleckapamicaaW.PrintWords Go.Proofs.Ytbcleckapamicaa.QSa Go.Proofs.Ytbcleckapamicaa.Opn
set_option linter.unusedVariables false
def ok4 : Bool → Prop := fun _ => True
theorem opens_ok4 : Opens Try.prog 4 Kd.bool ok4 := Opens.bool Try.underlying4
def ok3 : Int → Prop := fun n => (Lit.int .i64 n).wf = true
theorem opens_ok3 : Opens Try.prog 3 (Kd.int .i64) ok3 := Opens.int Try.underlying3
def ok5 : Int → Prop := fun n => (Lit.int .u8 n).wf = true
theorem opens_ok5 : Opens Try.prog 5 (Kd.int .u8) ok5 := Opens.int Try.underlying5
def ok44 : List (Int) → Prop := fun xs => xs.length ≤ 9223372036854775807 ∧ ∀ x ∈ xs, ok5 x
theorem opens_ok44 : Opens Try.prog 44 (Kd.slice 5 (Kd.int .u8)) ok44 := Opens.slice Try.underlying44 (by kernel_rfl) opens_ok5
def ok48 : ((Bool) × (Int) × (List (Int))) → Prop := fun x => ok4 x.1 ∧ ok3 x.2.1 ∧ ok44 x.2.2
theorem opens_ok48 : Opens Try.prog 48 (Kd.pair Kd.bool (Kd.pair (Kd.int .i64) (Kd.slice 5 (Kd.int .u8)))) ok48 := Opens.struct Try.underlying48 (by kernel_rfl) (OpensF.cons rfl (by kernel_rfl) opens_ok4 (OpensF.cons rfl (by kernel_rfl) opens_ok3 (OpensF.last rfl (by kernel_rfl) opens_ok44)))
def ok38 : List ((Bool) × (Int) × (List (Int))) → Prop := fun xs => xs.length ≤ 9223372036854775807 ∧ ∀ x ∈ xs, ok48 x
theorem opens_ok38 : Opens Try.prog 38 (Kd.slice 48 (Kd.pair Kd.bool (Kd.pair (Kd.int .i64) (Kd.slice 5 (Kd.int .u8))))) ok38 := Opens.slice Try.underlying38 (by kernel_rfl) opens_ok48
/-- What is to be proved of the function: at all that comes in it answers true. -/
def Pure : Prop := ∀ (x0 : List ((Bool) × (Int) × (List (Int)))), ok38 x0 → shibbolethlaw13_StreamActs.f x0 = some true
end Go.Proofs.Ytbcleckapamicaa.streamActsPrm
