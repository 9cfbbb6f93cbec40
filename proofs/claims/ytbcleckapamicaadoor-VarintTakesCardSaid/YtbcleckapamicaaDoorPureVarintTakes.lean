/- VarintTakes holds for every input: the bytes behind the length that any bytes begin with, what stands behind them, and bytes with their length. No condition but the laid tables of the library, which the card ties. -/
import Derived.Test.YtbcleckapamicaaDoorPrmVarintTakes
import Derived.Test.YtbcleckapamicaaDoorVaP
namespace Go.Proofs.YtbcleckapamicaaDoor.Pure
open Go.RowKit Go.Proofs.YtbcleckapamicaaDoor.QTk Go.Proofs.YtbcleckapamicaaDoor.VaP Go.Proofs.YtbcleckapamicaaDoor.Vn
set_option linter.unusedVariables false

theorem VarintTakes : varintTakesPrm.Pure := by
  intro l p h h'
  unfold shibbolethlaw01_VarintTakes.f
  exact if_pos ⟨bytes_of_wf h.2, bytes_of_wf h'.2⟩
end Go.Proofs.YtbcleckapamicaaDoor.Pure
