/- The law HeaderJoins: it holds for every input; the last of its texts. -/
import Derived.Test.YtpihkmpcnkhnfaaDoorZHj16
import Derived.Test.YtpihkmpcnkhnfaaDoorCards
import Derived.Test.YtpihkmpcnkhnfaaDoorTie
import Derived.Test.YtpihkmpcnkhnfaaDoorZHj17
import Derived.Test.YtpihkmpcnkhnfaaDoorZHj18
import Derived.WalkKit
import Derived.ProofKit
import Derived.OpenShut
import Derived.ShutString
import Derived.ChangeOld
import Derived.Below
import Derived.SizedLaws
import Derived.LaidLaws
import Derived.SevenTiedAt
import Derived.ChangeVars
import Derived.JoinedOf
namespace Go.Proofs.YtpihkmpcnkhnfaaDoor.headerJoins
open Go.ChangeShapes Go.WideShapes Go.ChangeAt Go.RowKit Go.Proofs.YtpihkmpcnkhnfaaDoor.Opn Go.Proofs.YtpihkmpcnkhnfaaDoorW.PrintWords Go.Proofs.YtpihkmpcnkhnfaaDoor.headerJoinsPrm
set_option linter.unusedVariables false
theorem proved : Rows.HeaderJoinsCardSaid :=
  Claim7.holds_tied_plain_at .later [] [.data, .data] true (true, "e4b4559173637b86b7f573f80954eae9fcc9a650e0a7595644907919904e9c3b") true
    over (fun _ h => by cases h) (by kernel_rfl) (fun _ h => by cases h) headerJoins_row_tie rfl ⟨rfl, rfl⟩ Fct.mainIs rfl
    (fun f fn hf hfn => by
      obtain rfl : f = 4 := Option.some.inj ((show Tryd.prog.funcNamed Rows.headerJoinsRow.func = some 4 by kernel_rfl).symm.trans hf) |>.symm
      obtain rfl : fn = Tryd.f4 := (Option.some.inj (Tryd.func4.symm.trans hfn)).symm
      exact ⟨Fct.looks, fun j t ht => by
        rw [Tryd.params4] at ht
        rcases j with _ | j
        · obtain rfl : t = 39 := by simpa using ht.symm
          exact (show Tryd.prog.wantsStandIn 39 = false by kernel_rfl)
        · simp at ht⟩)
    goes
#print axioms proved
end Go.Proofs.YtpihkmpcnkhnfaaDoor.headerJoins
namespace Go.Proofs.YtpihkmpcnkhnfaaDoor
theorem headerJoins_holds : Rows.HeaderJoinsCardSaid := headerJoins.proved
end Go.Proofs.YtpihkmpcnkhnfaaDoor
