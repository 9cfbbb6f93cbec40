-- Written by gfacts.py (a program of this session): a closed fact on the program, by the kernel.
import Derived.Test.YtbcleckapamicaaDoorRows
import Derived.SevenTiedAt
import Derived.KernelRfl
namespace Go.Proofs.YtbcleckapamicaaDoor.Fct
open Go
theorem looks : true = Tryd.prog.looks [] := by kernel_rfl
end Go.Proofs.YtbcleckapamicaaDoor.Fct
