/- The law HeaderCut: it holds for every input; the last of its texts. -/
import Derived.Test.YtbcleckapamicaaDoorZHc13
import Derived.Test.YtbcleckapamicaaDoorCards
import Derived.Test.YtbcleckapamicaaDoorTie
import Derived.Test.YtbcleckapamicaaDoorZHc14
import Derived.Test.YtbcleckapamicaaDoorZHc15
import Derived.WalkKit
import Derived.ProofKit
import Derived.OpenShut
import Derived.ShutString
import Derived.ChangeOld
import Derived.Below
import Derived.SizedLaws
import Derived.LaidLaws
import Derived.SevenTiedAt
import Derived.ChangeVars
import Derived.JoinedOf
namespace Go.Proofs.YtbcleckapamicaaDoor.headerCut
open Go.ChangeShapes Go.WideShapes Go.ChangeAt Go.RowKit Go.Proofs.YtbcleckapamicaaDoor.Opn Go.Proofs.YtbcleckapamicaaDoorW.PrintWords Go.Proofs.YtbcleckapamicaaDoor.headerCutPrm
set_option linter.unusedVariables false
theorem proved : Rows.HeaderCutCardSaid :=
  Claim7.holds_tied_plain_at .later [] [.data, .data] true (true, "a92992abae9a7faf473446de595c24795e0800cca3beedcf787efacb10ad6474") true
    over (fun _ h => by cases h) (by kernel_rfl) (fun _ h => by cases h) headerCut_row_tie rfl ⟨rfl, rfl⟩ Fct.mainIs rfl
    (fun f fn hf hfn => by
      obtain rfl : f = 13 := Option.some.inj ((show Tryd.prog.funcNamed Rows.headerCutRow.func = some 13 by kernel_rfl).symm.trans hf) |>.symm
      obtain rfl : fn = Tryd.f13 := (Option.some.inj (Tryd.func13.symm.trans hfn)).symm
      exact ⟨Fct.looks, fun j t ht => by
        rw [Tryd.params13] at ht
        rcases j with _ | _ | j
        · obtain rfl : t = 44 := by simpa using ht.symm
          exact (show Tryd.prog.wantsStandIn 44 = false by kernel_rfl)
        · obtain rfl : t = 76 := by simpa using ht.symm
          exact (show Tryd.prog.wantsStandIn 76 = false by kernel_rfl)
        · simp at ht⟩)
    goes
#print axioms proved
end Go.Proofs.YtbcleckapamicaaDoor.headerCut
namespace Go.Proofs.YtbcleckapamicaaDoor
theorem headerCut_holds : Rows.HeaderCutCardSaid := headerCut.proved
end Go.Proofs.YtbcleckapamicaaDoor
