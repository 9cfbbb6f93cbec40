/- The law HeaderReads: it holds for every input; the last of its texts. -/
import Derived.Test.YtbcleckapamicaaDoorZHr14
import Derived.Test.YtbcleckapamicaaDoorCards
import Derived.Test.YtbcleckapamicaaDoorTie
import Derived.Test.YtbcleckapamicaaDoorZHr15
import Derived.Test.YtbcleckapamicaaDoorZHr16
import Derived.WalkKit
import Derived.ProofKit
import Derived.OpenShut
import Derived.ShutString
import Derived.ChangeOld
import Derived.Below
import Derived.SizedLaws
import Derived.LaidLaws
import Derived.SevenTiedAt
import Derived.ChangeVars
import Derived.JoinedOf
namespace Go.Proofs.YtbcleckapamicaaDoor.headerReads
open Go.ChangeShapes Go.WideShapes Go.ChangeAt Go.RowKit Go.Proofs.YtbcleckapamicaaDoor.Opn Go.Proofs.YtbcleckapamicaaDoorW.PrintWords Go.Proofs.YtbcleckapamicaaDoor.headerReadsPrm
set_option linter.unusedVariables false
theorem proved : Rows.HeaderReadsCardSaid :=
  Claim7.holds_tied_plain_at .later [] [.data, .data] true (true, "a92992abae9a7faf473446de595c24795e0800cca3beedcf787efacb10ad6474") true
    over (fun _ h => by cases h) (by kernel_rfl) (fun _ h => by cases h) headerReads_row_tie rfl ⟨rfl, rfl⟩ Fct.mainIs rfl
    (fun f fn hf hfn => by
      obtain rfl : f = 11 := Option.some.inj ((show Tryd.prog.funcNamed Rows.headerReadsRow.func = some 11 by kernel_rfl).symm.trans hf) |>.symm
      obtain rfl : fn = Tryd.f11 := (Option.some.inj (Tryd.func11.symm.trans hfn)).symm
      exact ⟨Fct.looks, fun j t ht => by
        rw [Tryd.params11] at ht
        rcases j with _ | j
        · obtain rfl : t = 22 := by simpa using ht.symm
          exact (show Tryd.prog.wantsStandIn 22 = false by kernel_rfl)
        · simp at ht⟩)
    goes
#print axioms proved
end Go.Proofs.YtbcleckapamicaaDoor.headerReads
namespace Go.Proofs.YtbcleckapamicaaDoor
theorem headerReads_holds : Rows.HeaderReadsCardSaid := headerReads.proved
end Go.Proofs.YtbcleckapamicaaDoor
