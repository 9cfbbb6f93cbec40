/- A part of the proof of the law HeaderJoins: FctC. -/
import Derived.Test.YtpihkmpcnkhnfaaDoorRows
import Derived.JoinedOf
import Derived.KernelRfl
namespace Go.Proofs.YtpihkmpcnkhnfaaDoor.Fct
open Go
theorem c26 : ((Rows.headerSplitsRow.lifted == Tryd.prog.liftsFinal)) = true := by kernel_rfl
end Go.Proofs.YtpihkmpcnkhnfaaDoor.Fct
