/- VarintWrites holds for every input: the bytes and the size of any number, behind any bytes. No condition but the laid tables of the library, which the card ties. -/
import Derived.Test.YtbcleckapamicaaDoorPrmVarintWrites
import Derived.Test.YtbcleckapamicaaDoorVaP
namespace Go.Proofs.YtbcleckapamicaaDoor.Pure
open Go.RowKit Go.Proofs.YtbcleckapamicaaDoor.QVa Go.Proofs.YtbcleckapamicaaDoor.Vn Go.Proofs.YtbcleckapamicaaDoor.VaP Go.Proofs.YtbcleckapamicaaDoorW.PrintWords
open Go.Proofs.YtbcleckapamicaaDoor.Gv (bits_TrailingZeros.f slices_Clone_byte_byte.f varint_Size.f varint_Read.f)
set_option linter.unusedVariables false
set_option linter.unusedSimpArgs false

theorem VarintWrites : varintWritesPrm.Pure := by
  intro l n h _
  have hB : Bytes l := bytes_of_wf h.2
  refine ⟨3000, ?_⟩
  unfold shibbolethlaw01_VarintWrites.f
  by_cases h0 : (l.length : Int) > 1000
  · rw [if_pos h0]
  · have h8 := vbytes_le n
    rw [if_neg h0]
    simp only [Option.bind_some, List.nil_append, List.length_nil, Nat.zero_add]
    rw [if_pos (by omega), append_f l n (by omega) 3000 (by omega)]
    simp only [Option.bind_some]
    rw [if_pos (by omega), bytes_f n 3000 (by omega)]
    simp only [Option.bind_some]
    rw [if_pos (by omega), same_f _ (by rw [List.length_append]; omega) 3000 (by rw [List.length_append]; omega)]
    simp [varint_Size.f, size_f n 3000 (by omega), same_f l (by omega) 3000 (by omega), awake_f 3000 (by omega)]
end Go.Proofs.YtbcleckapamicaaDoor.Pure
