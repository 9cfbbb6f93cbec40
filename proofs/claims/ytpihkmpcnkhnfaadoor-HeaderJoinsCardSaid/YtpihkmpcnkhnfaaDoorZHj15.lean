/- A part of the proof of the law HeaderJoins: FctD. -/
import Derived.Test.YtpihkmpcnkhnfaaDoorRows
import Derived.JoinedOf
import Derived.KernelRfl
namespace Go.Proofs.YtpihkmpcnkhnfaaDoor.Fct
open Go
theorem c27 : ((Tryd.prog.make == some Rows.headerSplitsRow.make)) = true := by kernel_rfl
end Go.Proofs.YtpihkmpcnkhnfaaDoor.Fct
