/- A part of the proof of the law HeaderJoins: FctE. -/
import Derived.Test.YtpihkmpcnkhnfaaDoorRows
import Derived.SevenTiedAt
import Derived.KernelRfl
namespace Go.Proofs.YtpihkmpcnkhnfaaDoor.Fct
open Go
theorem mainIs : Tryd.prog.mainIs = some (true, ("e4b4559173637b86b7f573f80954eae9fcc9a650e0a7595644907919904e9c3b" : String).toList) := by kernel_rfl
end Go.Proofs.YtpihkmpcnkhnfaaDoor.Fct
