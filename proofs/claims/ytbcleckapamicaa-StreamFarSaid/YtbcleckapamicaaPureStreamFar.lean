/- StreamFar holds for every input: what stands too far behind what was taken is not held; what stands nearer is held. No condition. -/
import Derived.Test.YtbcleckapamicaaPrmStreamFar
namespace Go.Proofs.Ytbcleckapamicaa.Pure
open Go.RowKit Go.Proofs.Ytbcleckapamicaa.QSf Go.Proofs.Ytbcleckapamicaa.Stm
set_option linter.unusedVariables false

theorem StreamFar : streamFarPrm.Pure := by
  intro a l h h'
  unfold shibbolethlaw13_StreamFar.f
  have ha : (Lit.int .u16 a).wf = true := h
  simp [Lit.wf, IntKind.min, IntKind.max, IntKind.signed, IntKind.bits] at ha
  refine if_pos ⟨by omega, fun x hx => ?_⟩
  have hw : (Lit.int .u8 x).wf = true := h'.2 x hx
  simp [Lit.wf, IntKind.min, IntKind.max, IntKind.signed, IntKind.bits] at hw
  omega
end Go.Proofs.Ytbcleckapamicaa.Pure
