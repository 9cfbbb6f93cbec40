/- SpanRuns holds for every input: numbers that follow one another are one span, however many. No condition. -/
import Derived.Test.YtpihkmpcnkhnfaaPrmSpanRuns
namespace Go.Proofs.Ytpihkmpcnkhnfaa.Pure
open Go.RowKit Go.Proofs.Ytpihkmpcnkhnfaa.QSr Go.Proofs.Ytpihkmpcnkhnfaa.Sp
set_option linter.unusedVariables false

theorem SpanRuns : spanRunsPrm.Pure := by
  intro a m h h'
  unfold shibbolethlaw11_SpanRuns.f
  have ha : (Lit.int .u32 a).wf = true := h
  have hm : (Lit.int .u16 m).wf = true := h'
  simp [Lit.wf, IntKind.min, IntKind.max, IntKind.signed, IntKind.bits] at ha hm
  exact if_pos ⟨by omega, by omega⟩
end Go.Proofs.Ytpihkmpcnkhnfaa.Pure
