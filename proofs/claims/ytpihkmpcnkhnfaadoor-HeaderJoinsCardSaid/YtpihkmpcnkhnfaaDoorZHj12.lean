/- A part of the proof of the law HeaderJoins: FctA. -/
import Derived.Test.YtpihkmpcnkhnfaaDoorRows
import Derived.JoinedOf
import Derived.KernelRfl
namespace Go.Proofs.YtpihkmpcnkhnfaaDoor.Fct
open Go
theorem c1 : (laidOutB Tryd.prog) = true := by kernel_rfl
theorem c2 : (mapsRowed Tryd.prog) = true := by kernel_rfl
theorem c6 : ((Tryd.prog.stops == [])) = true := by kernel_rfl
theorem c8 : ((Tryd.prog.stopKnobs == [])) = true := by kernel_rfl
theorem c22 : ((Rows.headerSplitsRow.plainKeys == Tryd.prog.plainKeys)) = true := by kernel_rfl
theorem c24 : (Tryd.prog.stopsHeard) = true := by kernel_rfl
end Go.Proofs.YtpihkmpcnkhnfaaDoor.Fct
