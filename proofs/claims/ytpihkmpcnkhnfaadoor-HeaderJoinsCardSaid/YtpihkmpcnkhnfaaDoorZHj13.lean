/- A part of the proof of the law HeaderJoins: FctB. -/
import Derived.Test.YtpihkmpcnkhnfaaDoorRows
import Derived.JoinedOf
import Derived.KernelRfl
namespace Go.Proofs.YtpihkmpcnkhnfaaDoor.Fct
open Go
theorem c25 : (Tryd.prog.mayEnter) = true := by kernel_rfl
end Go.Proofs.YtpihkmpcnkhnfaaDoor.Fct
