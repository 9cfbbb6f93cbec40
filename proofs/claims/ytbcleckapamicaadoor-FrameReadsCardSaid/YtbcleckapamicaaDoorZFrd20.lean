/- A part of the proof of the law FrameReads: FctD. -/
import Derived.Test.YtbcleckapamicaaDoorRows
import Derived.JoinedOf
import Derived.KernelRfl
namespace Go.Proofs.YtbcleckapamicaaDoor.Fct
open Go
theorem c27 : ((Tryd.prog.make == some Rows.varintWritesRow.make)) = true := by kernel_rfl
end Go.Proofs.YtbcleckapamicaaDoor.Fct
