/- StreamOrders holds for every input: messages cut anyhow, put in any order, come out in order. No condition. -/
import Derived.Test.YtbcleckapamicaaPrmStreamOrders
namespace Go.Proofs.Ytbcleckapamicaa.Pure
open Go.RowKit Go.Proofs.Ytbcleckapamicaa.QSo Go.Proofs.Ytbcleckapamicaa.Stm
set_option linter.unusedVariables false

theorem StreamOrders : streamOrdersPrm.Pure := by
  intro l0 l1 l2 h0 h1 h2
  have hb : ∀ l : List Int, streamOrdersPrm.ok44 l → Bytes l := by
    intro l h x hx
    have hw : (Lit.int .u8 x).wf = true := h.2 x hx
    simp [Lit.wf, IntKind.min, IntKind.max, IntKind.signed, IntKind.bits] at hw
    omega
  unfold shibbolethlaw13_StreamOrders.f
  exact if_pos ⟨fun b hm => hb b (h0.2 b hm), hb l1 h1, hb l2 h2⟩
end Go.Proofs.Ytbcleckapamicaa.Pure
