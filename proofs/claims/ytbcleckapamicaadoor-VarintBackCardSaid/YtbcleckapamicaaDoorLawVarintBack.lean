-- Written by grow.py (a program of this session).
import Derived.Test.YtbcleckapamicaaDoorLawBVarintBack
import Derived.Test.YtbcleckapamicaaDoorCards
import Derived.Test.YtbcleckapamicaaDoorTie
import Derived.Test.YtbcleckapamicaaDoorFctE
import Derived.Test.YtbcleckapamicaaDoorFctF
import Derived.WalkKit
import Derived.ProofKit
import Derived.OpenShut
import Derived.ShutString
import Derived.ChangeOld
import Derived.Below
import Derived.SizedLaws
import Derived.LaidLaws
import Derived.SevenTiedAt
import Derived.ChangeVars
import Derived.JoinedOf
namespace Go.Proofs.YtbcleckapamicaaDoor.varintBack
open Go.ChangeShapes Go.WideShapes Go.ChangeAt Go.RowKit Go.Proofs.YtbcleckapamicaaDoor.Opn Go.Proofs.YtbcleckapamicaaDoorW.PrintWords Go.Proofs.YtbcleckapamicaaDoor.varintBackPrm
set_option linter.unusedVariables false
theorem proved : Rows.VarintBackCardSaid :=
  Claim7.holds_tied_plain_at .later [] [.data, .data] true (true, "a92992abae9a7faf473446de595c24795e0800cca3beedcf787efacb10ad6474") true
    over (fun _ h => by cases h) (by kernel_rfl) (fun _ h => by cases h) varintBack_row_tie rfl ⟨rfl, rfl⟩ Fct.mainIs rfl
    (fun f fn hf hfn => by
      obtain rfl : f = 5 := Option.some.inj ((show Tryd.prog.funcNamed Rows.varintBackRow.func = some 5 by kernel_rfl).symm.trans hf) |>.symm
      obtain rfl : fn = Tryd.f5 := (Option.some.inj (Tryd.func5.symm.trans hfn)).symm
      exact ⟨Fct.looks, fun j t ht => by
        rw [Tryd.params5] at ht
        rcases j with _ | _ | j
        · obtain rfl : t = 3 := by simpa using ht.symm
          exact (show Tryd.prog.wantsStandIn 3 = false by kernel_rfl)
        · obtain rfl : t = 22 := by simpa using ht.symm
          exact (show Tryd.prog.wantsStandIn 22 = false by kernel_rfl)
        · simp at ht⟩)
    goes
#print axioms proved
end Go.Proofs.YtbcleckapamicaaDoor.varintBack
namespace Go.Proofs.YtbcleckapamicaaDoor
/-- The row, under a short name, for the claim. -/
theorem varintBack_holds : Rows.VarintBackCardSaid := varintBack.proved
end Go.Proofs.YtbcleckapamicaaDoor
