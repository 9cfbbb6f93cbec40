/- The law FrameKinds: it holds for every input; the last of its texts. -/
import Derived.Test.YtbcleckapamicaaDoorZFk16
import Derived.Test.YtbcleckapamicaaDoorCards
import Derived.Test.YtbcleckapamicaaDoorTie
import Derived.Test.YtbcleckapamicaaDoorZFk17
import Derived.Test.YtbcleckapamicaaDoorZFk18
import Derived.WalkKit
import Derived.ProofKit
import Derived.OpenShut
import Derived.ShutString
import Derived.ChangeOld
import Derived.Below
import Derived.SizedLaws
import Derived.LaidLaws
import Derived.SevenTiedAt
import Derived.ChangeVars
import Derived.JoinedOf
namespace Go.Proofs.YtbcleckapamicaaDoor.frameKinds
open Go.ChangeShapes Go.WideShapes Go.ChangeAt Go.RowKit Go.Proofs.YtbcleckapamicaaDoor.Opn Go.Proofs.YtbcleckapamicaaDoorW.PrintWords Go.Proofs.YtbcleckapamicaaDoor.frameKindsPrm
set_option linter.unusedVariables false
theorem proved : Rows.FrameKindsCardSaid :=
  Claim7.holds_tied_plain_at .later [] [.data, .data] true (true, "a92992abae9a7faf473446de595c24795e0800cca3beedcf787efacb10ad6474") true
    over (fun _ h => by cases h) (by kernel_rfl) (fun _ h => by cases h) frameKinds_row_tie rfl ⟨rfl, rfl⟩ Fct.mainIs rfl
    (fun f fn hf hfn => by
      obtain rfl : f = 20 := Option.some.inj ((show Tryd.prog.funcNamed Rows.frameKindsRow.func = some 20 by kernel_rfl).symm.trans hf) |>.symm
      obtain rfl : fn = Tryd.f20 := (Option.some.inj (Tryd.func20.symm.trans hfn)).symm
      exact ⟨Fct.looks, fun j t ht => by
        rw [Tryd.params20] at ht
        rcases j with _ | j
        · obtain rfl : t = 5 := by simpa using ht.symm
          exact (show Tryd.prog.wantsStandIn 5 = false by kernel_rfl)
        · simp at ht⟩)
    goes
#print axioms proved
end Go.Proofs.YtbcleckapamicaaDoor.frameKinds
namespace Go.Proofs.YtbcleckapamicaaDoor
theorem frameKinds_holds : Rows.FrameKindsCardSaid := frameKinds.proved
end Go.Proofs.YtbcleckapamicaaDoor
