/- The law HeaderSplits: it holds for every input; the last of its texts. -/
import Derived.Test.YtpihkmpcnkhnfaaDoorZHs15
import Derived.Test.YtpihkmpcnkhnfaaDoorCards
import Derived.Test.YtpihkmpcnkhnfaaDoorTie
import Derived.Test.YtpihkmpcnkhnfaaDoorZHs16
import Derived.Test.YtpihkmpcnkhnfaaDoorZHs17
import Derived.WalkKit
import Derived.ProofKit
import Derived.OpenShut
import Derived.ShutString
import Derived.ChangeOld
import Derived.Below
import Derived.SizedLaws
import Derived.LaidLaws
import Derived.SevenTiedAt
import Derived.ChangeVars
import Derived.JoinedOf
namespace Go.Proofs.YtpihkmpcnkhnfaaDoor.headerSplits
open Go.ChangeShapes Go.WideShapes Go.ChangeAt Go.RowKit Go.Proofs.YtpihkmpcnkhnfaaDoor.Opn Go.Proofs.YtpihkmpcnkhnfaaDoorW.PrintWords Go.Proofs.YtpihkmpcnkhnfaaDoor.headerSplitsPrm
set_option linter.unusedVariables false
theorem proved : Rows.HeaderSplitsCardSaid :=
  Claim7.holds_tied_plain_at .later [] [.data, .data] true (true, "e4b4559173637b86b7f573f80954eae9fcc9a650e0a7595644907919904e9c3b") true
    over (fun _ h => by cases h) (by kernel_rfl) (fun _ h => by cases h) headerSplits_row_tie rfl ⟨rfl, rfl⟩ Fct.mainIs rfl
    (fun f fn hf hfn => by
      obtain rfl : f = 3 := Option.some.inj ((show Tryd.prog.funcNamed Rows.headerSplitsRow.func = some 3 by kernel_rfl).symm.trans hf) |>.symm
      obtain rfl : fn = Tryd.f3 := (Option.some.inj (Tryd.func3.symm.trans hfn)).symm
      exact ⟨Fct.looks, fun j t ht => by
        rw [Tryd.params3] at ht
        rcases j with _ | j
        · obtain rfl : t = 22 := by simpa using ht.symm
          exact (show Tryd.prog.wantsStandIn 22 = false by kernel_rfl)
        · simp at ht⟩)
    goes
#print axioms proved
end Go.Proofs.YtpihkmpcnkhnfaaDoor.headerSplits
namespace Go.Proofs.YtpihkmpcnkhnfaaDoor
theorem headerSplits_holds : Rows.HeaderSplitsCardSaid := headerSplits.proved
end Go.Proofs.YtpihkmpcnkhnfaaDoor
