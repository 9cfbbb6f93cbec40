/- A part of the proof of the law FrameReads: FctC. -/
import Derived.Test.YtbcleckapamicaaDoorRows
import Derived.JoinedOf
import Derived.KernelRfl
namespace Go.Proofs.YtbcleckapamicaaDoor.Fct
open Go
theorem c26 : ((Rows.varintWritesRow.lifted == Tryd.prog.liftsFinal)) = true := by kernel_rfl
end Go.Proofs.YtbcleckapamicaaDoor.Fct
