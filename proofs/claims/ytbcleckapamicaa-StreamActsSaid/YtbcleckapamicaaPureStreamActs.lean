/- StreamActs holds for every input: what any pieces make, and which messages are taken, act by act. No condition. -/
import Derived.Test.YtbcleckapamicaaPrmStreamActs
namespace Go.Proofs.Ytbcleckapamicaa.Pure
open Go.RowKit Go.Proofs.Ytbcleckapamicaa.QSa Go.Proofs.Ytbcleckapamicaa.Stm
set_option linter.unusedVariables false

theorem StreamActs : streamActsPrm.Pure := by
  intro l h
  unfold shibbolethlaw13_StreamActs.f
  refine if_pos (fun a ha x hx => ?_)
  have hw : (Lit.int .u8 x).wf = true := (h.2 a ha).2.2.2 x hx
  simp [Lit.wf, IntKind.min, IntKind.max, IntKind.signed, IntKind.bits] at hw
  omega
end Go.Proofs.Ytbcleckapamicaa.Pure
