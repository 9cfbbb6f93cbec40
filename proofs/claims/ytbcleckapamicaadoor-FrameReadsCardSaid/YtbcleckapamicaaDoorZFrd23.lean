/- A part of the proof of the law FrameReads: FctF. -/
import Derived.Test.YtbcleckapamicaaDoorRows
import Derived.SevenTiedAt
import Derived.KernelRfl
namespace Go.Proofs.YtbcleckapamicaaDoor.Fct
open Go
theorem looks : true = Tryd.prog.looks [] := by kernel_rfl
end Go.Proofs.YtbcleckapamicaaDoor.Fct
