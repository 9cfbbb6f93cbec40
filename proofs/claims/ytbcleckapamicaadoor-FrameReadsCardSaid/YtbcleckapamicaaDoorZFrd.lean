/- The law FrameReads: it holds for every input; the last of its texts. -/
import Derived.Test.YtbcleckapamicaaDoorZFrd21
import Derived.Test.YtbcleckapamicaaDoorCards
import Derived.Test.YtbcleckapamicaaDoorTie
import Derived.Test.YtbcleckapamicaaDoorZFrd22
import Derived.Test.YtbcleckapamicaaDoorZFrd23
import Derived.WalkKit
import Derived.ProofKit
import Derived.OpenShut
import Derived.ShutString
import Derived.ChangeOld
import Derived.Below
import Derived.SizedLaws
import Derived.LaidLaws
import Derived.SevenTiedAt
import Derived.ChangeVars
import Derived.JoinedOf
namespace Go.Proofs.YtbcleckapamicaaDoor.frameReads
open Go.ChangeShapes Go.WideShapes Go.ChangeAt Go.RowKit Go.Proofs.YtbcleckapamicaaDoor.Opn Go.Proofs.YtbcleckapamicaaDoorW.PrintWords Go.Proofs.YtbcleckapamicaaDoor.frameReadsPrm
set_option linter.unusedVariables false
theorem proved : Rows.FrameReadsCardSaid :=
  Claim7.holds_tied_plain_at .later [] [.data, .data] true (true, "a92992abae9a7faf473446de595c24795e0800cca3beedcf787efacb10ad6474") true
    over (fun _ h => by cases h) (by kernel_rfl) (fun _ h => by cases h) frameReads_row_tie rfl ⟨rfl, rfl⟩ Fct.mainIs rfl
    (fun f fn hf hfn => by
      obtain rfl : f = 16 := Option.some.inj ((show Tryd.prog.funcNamed Rows.frameReadsRow.func = some 16 by kernel_rfl).symm.trans hf) |>.symm
      obtain rfl : fn = Tryd.f16 := (Option.some.inj (Tryd.func16.symm.trans hfn)).symm
      exact ⟨Fct.looks, fun j t ht => by
        rw [Tryd.params16] at ht
        rcases j with _ | j
        · obtain rfl : t = 22 := by simpa using ht.symm
          exact (show Tryd.prog.wantsStandIn 22 = false by kernel_rfl)
        · simp at ht⟩)
    goes
#print axioms proved
end Go.Proofs.YtbcleckapamicaaDoor.frameReads
namespace Go.Proofs.YtbcleckapamicaaDoor
theorem frameReads_holds : Rows.FrameReadsCardSaid := frameReads.proved
end Go.Proofs.YtbcleckapamicaaDoor
