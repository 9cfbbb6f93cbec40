-- Written by gprint.py (a program of this session) over the kit's print.py; contracts that were proved by hand are taken as given.
import Derived.Test.YtbcleckapamicaaDoorProg
import Derived.Below
import Derived.Deep.Draws
import Derived.Deep.AppendLies
import Derived.Maps.AppendAt
import Derived.OwnWalk
import Derived.Laws.BytesArg
import Derived.Laws.MakeOwn
import Derived.Laws.OwnMore
import Derived.Deep.OwnRows
import Derived.Tactics
import Derived.Lib.ConvBytes
import Derived.Laws.Slices
import Derived.WalkKit
import Derived.KernelRfl
import Derived.RowKit3
import Derived.Deep.LoopGhost
import Derived.Deep.QuietTactic
import Derived.BigQuiet
import Derived.WideLaws
import Derived.Deep.DeepCutAuto
import Derived.Deep.CutBlock
import Derived.Deep.RegionHeld3
import Derived.Laws.Rows
import Derived.Lib.AppendStr
import Derived.ArgAppend
import Derived.Laws.IdiomCopy
import Derived.OrdersHeld
import Derived.Laws.BitsLemmas
import Derived.RowKit
import Derived.Test.YtbcleckapamicaaDoorWWords
import Derived.Test.YtbcleckapamicaaDoorWLast
import Derived.Test.YtbcleckapamicaaDoorWTab
import Derived.Test.YtbcleckapamicaaDoorWFour
import Derived.Test.YtbcleckapamicaaDoorWQPut
import Derived.Test.YtbcleckapamicaaDoorWApart
import Derived.Test.YtbcleckapamicaaDoorWArr
import Derived.Test.YtbcleckapamicaaDoorWZeros
import Derived.Test.YtbcleckapamicaaDoorWFoot
import Derived.Test.YtbcleckapamicaaDoorWKept
import Derived.Test.YtbcleckapamicaaDoorWShare
import Derived.Test.YtbcleckapamicaaDoorWN
import Derived.Test.YtbcleckapamicaaDoorWFootNe
import Derived.Test.YtbcleckapamicaaDoorWAt
import Derived.Test.YtbcleckapamicaaDoorWEqStruct
import Derived.Test.YtbcleckapamicaaDoorWRepsOne
import Derived.Test.YtbcleckapamicaaDoorWInv
import Derived.Test.YtbcleckapamicaaDoorWInvWords
import Derived.Test.YtbcleckapamicaaDoorWGuard
import Derived.Test.YtbcleckapamicaaDoorWNEv
import Derived.Test.YtbcleckapamicaaDoorWMore
namespace Go.Proofs.YtbcleckapamicaaDoor.QVa
open Go.RowKit Go.Proofs.YtbcleckapamicaaDoorW.PrintWords Go.Proofs.YtbcleckapamicaaDoorW.PrintLast Go.Proofs.YtbcleckapamicaaDoorW.PrintMore
attribute [local go_sem] max2_int min2_int max_two min_two max_three min_three max_four min_four   -- for this text's walks alone
set_option linter.unusedVariables false
set_option linter.unusedSimpArgs false



def errW : Option Int → Value
  | none => .nilIface
  | some c => .iface 0 (.int .i64 c)
theorem errW_none : errW none = .nilIface := rfl
theorem errW_some (c : Int) : errW (some c) = .iface 0 (.int .i64 c) := rfl

theorem info5 : (Tryd.prog.info? 5).map (fun i => (i.zero, i.size, i.bytes)) = some (some (.int .u8 0), 1, 1) := by kernel_rfl
-- the values' own types

end Go.Proofs.YtbcleckapamicaaDoor.QVa
