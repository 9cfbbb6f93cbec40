-- Written by gfacts.py (a program of this session): closed facts on the program, each by the kernel.
import Derived.Test.YtbcleckapamicaaDoorRows
import Derived.JoinedOf
import Derived.KernelRfl
namespace Go.Proofs.YtbcleckapamicaaDoor.Fct
open Go
theorem c26 : ((Rows.varintWritesRow.lifted == Tryd.prog.liftsFinal)) = true := by kernel_rfl
end Go.Proofs.YtbcleckapamicaaDoor.Fct
