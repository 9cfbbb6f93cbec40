/- VarintShort holds for every input: what is cut short is too short. No condition but the laid tables of the library, which the card ties. -/
import Derived.Test.YtbcleckapamicaaDoorPrmVarintShort
import Derived.Test.YtbcleckapamicaaDoorVaP
namespace Go.Proofs.YtbcleckapamicaaDoor.Pure
open Go.RowKit Go.Proofs.YtbcleckapamicaaDoor.QVa Go.Proofs.YtbcleckapamicaaDoor.Vn Go.Proofs.YtbcleckapamicaaDoor.VaP Go.Proofs.YtbcleckapamicaaDoorW.PrintWords
open Go.Proofs.YtbcleckapamicaaDoor.Gv (bits_TrailingZeros.f slices_Clone_byte_byte.f varint_Size.f varint_Read.f)
set_option linter.unusedVariables false
set_option linter.unusedSimpArgs false

theorem VarintShort : varintShortPrm.Pure := by
  intro n c _ hc
  refine ⟨3000, ?_⟩
  have hc' : 0 ≤ c ∧ c ≤ 255 := by
    have := hc
    simp [varintShortPrm.ok5, Lit.wf, IntKind.min, IntKind.max, IntKind.signed, IntKind.bits] at this
    exact ⟨by omega, by omega⟩
  unfold shibbolethlaw01_VarintShort.f
  have h8 := vbytes_le n
  rw [append_f [] n (by simp) 3000 (by omega)]
  simp only [Option.bind_some, List.nil_append]
  have e : Int.tmod (wrap64 c) 8 = c % 8 := by rw [show wrap64 c = c from by unfold wrap64; omega, Int.tmod_eq_emod_of_nonneg hc'.1]
  rw [e]
  by_cases h1 : c % 8 ≥ ((vbytes n).length : Int)
  · rw [if_pos h1, awake_f 3000 (by omega)]; rfl
  · rw [if_neg h1, if_pos (by omega), if_pos (by omega), vread_f _ ((vbytes_bytes n).take _), vread_short n (c % 8).toNat (by omega)]
    simp [awake_f 3000 (by omega)]
end Go.Proofs.YtbcleckapamicaaDoor.Pure
