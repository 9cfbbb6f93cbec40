/- A part of the proof of the law HeaderJoins: FctF. -/
import Derived.Test.YtpihkmpcnkhnfaaDoorRows
import Derived.SevenTiedAt
import Derived.KernelRfl
namespace Go.Proofs.YtpihkmpcnkhnfaaDoor.Fct
open Go
theorem looks : true = Tryd.prog.looks [] := by kernel_rfl
end Go.Proofs.YtpihkmpcnkhnfaaDoor.Fct
