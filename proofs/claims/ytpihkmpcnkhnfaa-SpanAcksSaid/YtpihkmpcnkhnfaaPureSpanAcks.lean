/- SpanAcks holds for every input: what a set tells is right as an ack's spans, or empty, and new memory; a nil set holds nothing. No condition. -/
import Derived.Test.YtpihkmpcnkhnfaaPrmSpanAcks
namespace Go.Proofs.Ytpihkmpcnkhnfaa.Pure
open Go.RowKit Go.Proofs.Ytpihkmpcnkhnfaa.QSk Go.Proofs.Ytpihkmpcnkhnfaa.Sp
set_option linter.unusedVariables false

theorem SpanAcks : spanAcksPrm.Pure := by
  intro l h
  rfl
end Go.Proofs.Ytpihkmpcnkhnfaa.Pure
