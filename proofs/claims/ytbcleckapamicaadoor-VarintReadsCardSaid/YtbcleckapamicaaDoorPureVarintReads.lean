/- VarintReads holds for every input: the number that any bytes begin with is the document's. No condition but the laid tables of the library, which the card ties. -/
import Derived.Test.YtbcleckapamicaaDoorPrmVarintReads
import Derived.Test.YtbcleckapamicaaDoorVaP
namespace Go.Proofs.YtbcleckapamicaaDoor.Pure
open Go.RowKit Go.Proofs.YtbcleckapamicaaDoor.QVa Go.Proofs.YtbcleckapamicaaDoor.Vn Go.Proofs.YtbcleckapamicaaDoor.VaP

theorem VarintReads : varintReadsPrm.Pure := by
  intro l h
  have hB : Bytes l := bytes_of_wf h.2
  refine ⟨2000, ?_⟩
  unfold shibbolethlaw01_VarintReads.f
  by_cases h0 : (l.length : Int) > 1000
  · rw [if_pos h0]
  · rw [if_neg h0, vread_f l hB, read_f l hB (by omega) _ (by omega)]
    simp [awake_f 2000 (by omega)]
end Go.Proofs.YtbcleckapamicaaDoor.Pure
