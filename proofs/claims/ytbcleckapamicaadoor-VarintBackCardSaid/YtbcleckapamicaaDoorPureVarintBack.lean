/- VarintBack holds for every input: what is appended is read as it was, whatever stands behind it. No condition but the laid tables of the library, which the card ties. -/
import Derived.Test.YtbcleckapamicaaDoorPrmVarintBack
import Derived.Test.YtbcleckapamicaaDoorVaP
namespace Go.Proofs.YtbcleckapamicaaDoor.Pure
open Go.RowKit Go.Proofs.YtbcleckapamicaaDoor.QVa Go.Proofs.YtbcleckapamicaaDoor.Vn Go.Proofs.YtbcleckapamicaaDoor.VaP Go.Proofs.YtbcleckapamicaaDoorW.PrintWords
open Go.Proofs.YtbcleckapamicaaDoor.Gv (bits_TrailingZeros.f slices_Clone_byte_byte.f varint_Size.f varint_Read.f)
set_option linter.unusedVariables false
set_option linter.unusedSimpArgs false

theorem VarintBack : varintBackPrm.Pure := by
  intro n l _ h
  have hB : Bytes l := bytes_of_wf h.2
  refine ⟨3000, ?_⟩
  unfold shibbolethlaw01_VarintBack.f
  by_cases h0 : (l.length : Int) > 1000
  · rw [if_pos h0]
  · have h8 := vbytes_le n
    have hs := vbytes_len n
    rw [if_neg h0, append_f [] n (by simp) 3000 (by omega)]
    simp only [Option.bind_some, List.nil_append, List.length_nil, Nat.zero_add]
    rw [if_pos (by omega)]
    try simp only [Option.bind_some]
    rw [if_pos (by omega), vread_f _ ((vbytes_bytes n).append hB)]
    simp only [Option.bind_some]
    by_cases h1 : n < 0
    · rw [if_pos h1]
      have e : vbytes n = [] := by unfold vbytes; rw [if_pos (.inl h1)]
      simp [shibbolethlaw01_VarintBack.j0, e, awake_f 2999 (by omega)]
    · rw [if_neg h1]
      by_cases h2 : n > 4611686018427387903
      · have e : vbytes n = [] := by unfold vbytes; rw [if_pos (.inr h2)]
        rw [decide_eq_true h2]
        simp [shibbolethlaw01_VarintBack.j0, e, awake_f 2999 (by omega)]
      · rw [decide_eq_false h2, vread_vbytes n (by omega) (by omega) l]
        simp [shibbolethlaw01_VarintBack.j0, awake_f 2999 (by omega)]
end Go.Proofs.YtbcleckapamicaaDoor.Pure
