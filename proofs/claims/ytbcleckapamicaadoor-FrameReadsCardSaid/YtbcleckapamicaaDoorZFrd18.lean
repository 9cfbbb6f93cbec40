/- A part of the proof of the law FrameReads: FctB. -/
import Derived.Test.YtbcleckapamicaaDoorRows
import Derived.JoinedOf
import Derived.KernelRfl
namespace Go.Proofs.YtbcleckapamicaaDoor.Fct
open Go
theorem c25 : (Tryd.prog.mayEnter) = true := by kernel_rfl
end Go.Proofs.YtbcleckapamicaaDoor.Fct
