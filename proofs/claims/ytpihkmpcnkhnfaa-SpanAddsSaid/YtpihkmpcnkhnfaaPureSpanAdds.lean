/- SpanAdds holds for every input: what any numbers make, one by one, is what the document says. No condition. -/
import Derived.Test.YtpihkmpcnkhnfaaPrmSpanAdds
namespace Go.Proofs.Ytpihkmpcnkhnfaa.Pure
open Go.RowKit Go.Proofs.Ytpihkmpcnkhnfaa.QSe Go.Proofs.Ytpihkmpcnkhnfaa.Sp
set_option linter.unusedVariables false

theorem SpanAdds : spanAddsPrm.Pure := by
  intro l l' h h'
  rfl
end Go.Proofs.Ytpihkmpcnkhnfaa.Pure
