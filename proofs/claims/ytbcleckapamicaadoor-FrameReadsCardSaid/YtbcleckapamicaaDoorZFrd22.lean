/- A part of the proof of the law FrameReads: FctE. -/
import Derived.Test.YtbcleckapamicaaDoorRows
import Derived.SevenTiedAt
import Derived.KernelRfl
namespace Go.Proofs.YtbcleckapamicaaDoor.Fct
open Go
theorem mainIs : Tryd.prog.mainIs = some (true, ("a92992abae9a7faf473446de595c24795e0800cca3beedcf787efacb10ad6474" : String).toList) := by kernel_rfl
end Go.Proofs.YtbcleckapamicaaDoor.Fct
