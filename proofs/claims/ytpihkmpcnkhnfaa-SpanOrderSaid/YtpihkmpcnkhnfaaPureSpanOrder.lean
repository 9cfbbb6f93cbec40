/- SpanOrder holds for every input: in whatever order fewer than 32 numbers are added, the set is the same. No condition. -/
import Derived.Test.YtpihkmpcnkhnfaaPrmSpanOrder
namespace Go.Proofs.Ytpihkmpcnkhnfaa.Pure
open Go.RowKit Go.Proofs.Ytpihkmpcnkhnfaa.QSd Go.Proofs.Ytpihkmpcnkhnfaa.Sp
set_option linter.unusedVariables false

theorem SpanOrder : spanOrderPrm.Pure := by
  intro l h
  rfl
end Go.Proofs.Ytpihkmpcnkhnfaa.Pure
