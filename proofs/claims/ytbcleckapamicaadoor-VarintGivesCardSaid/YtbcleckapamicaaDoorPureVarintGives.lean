/- VarintGives holds for every input: what is given is taken as it was, and nothing more. No condition but the laid tables of the library, which the card ties. -/
import Derived.Test.YtbcleckapamicaaDoorPrmVarintGives
import Derived.Test.YtbcleckapamicaaDoorVaP
namespace Go.Proofs.YtbcleckapamicaaDoor.Pure
open Go.RowKit Go.Proofs.YtbcleckapamicaaDoor.QVa Go.Proofs.YtbcleckapamicaaDoor.Vn Go.Proofs.YtbcleckapamicaaDoor.VaP Go.Proofs.YtbcleckapamicaaDoorW.PrintWords
open Go.Proofs.YtbcleckapamicaaDoor.Gv (bits_TrailingZeros.f slices_Clone_byte_byte.f varint_Size.f varint_Read.f)
set_option linter.unusedVariables false
set_option linter.unusedSimpArgs false

theorem give_f (l p : List Int) (hl : l.length ≤ 100000) (hp : p.length ≤ 100000) (k : Nat) (hk : 9 < k) : varint_Give.f k l p = some (l ++ vbytes p.length ++ p) := by
  have h8 := vbytes_le (p.length : Int)
  unfold varint_Give.f
  rw [append_f l _ (by omega) k hk]
  simp only [Option.bind_some]
  rw [if_pos (by rw [List.length_append]; omega)]
theorem take_give (p r : List Int) (hp : p.length ≤ 100000) (hr : r.length ≤ 100000) (hB : Bytes p) (hB' : Bytes r) : varint_Take.f (vbytes p.length ++ p ++ r) = some (p, r, 0) := by
  have h8 := vbytes_le (p.length : Int)
  unfold varint_Take.f
  have hv := vread_vbytes (p.length : Int) (by omega) (by omega) (p ++ r)
  rw [← List.append_assoc] at hv
  rw [vread_f _ (((vbytes_bytes _).append hB).append hB'), hv]
  simp only [Option.bind_some]
  have hlen : ((vbytes (p.length : Int) ++ p ++ r).length : Int) = (vbytes (p.length : Int)).length + p.length + r.length := by simp only [List.length_append]; omega
  have w1 : wrap64 (((vbytes (p.length : Int) ++ p ++ r).length : Int) - ((vbytes (p.length : Int)).length : Int)) = (p.length : Int) + r.length := by rw [hlen]; unfold wrap64; omega
  have w2 : wrap64 (((vbytes (p.length : Int)).length : Int) + (p.length : Int)) = (((vbytes (p.length : Int)).length + p.length : Nat) : Int) := by unfold wrap64; omega
  rw [if_pos trivial, w1, if_neg (by omega), if_pos (by omega), w2, if_pos (by omega), if_pos (by rw [hlen]; omega), Int.toNat_natCast, Int.toNat_natCast]
  have e1 : ((vbytes (p.length : Int) ++ p ++ r).take ((vbytes (p.length : Int)).length + p.length)).drop (vbytes (p.length : Int)).length = p := by
    rw [List.take_append_of_le_length (by rw [List.length_append]; omega), List.take_of_length_le (by rw [List.length_append]; omega), List.drop_left]
  have e2 : (vbytes (p.length : Int) ++ p ++ r).drop ((vbytes (p.length : Int)).length + p.length) = r := by
    rw [show (vbytes (p.length : Int)).length + p.length = (vbytes (p.length : Int) ++ p).length from by rw [List.length_append], List.drop_left]
  rw [e1, e2]
  unfold slices_Clone_byte_byte.f
  rw [if_pos (by omega), if_pos (by omega)]
  simp only [Option.bind_some]
  rw [if_pos (by omega)]
theorem VarintGives : varintGivesPrm.Pure := by
  intro p r h h'
  have hB : Bytes p := bytes_of_wf h.2
  have hB' : Bytes r := bytes_of_wf h'.2
  refine ⟨3000, ?_⟩
  unfold shibbolethlaw01_VarintGives.f
  by_cases h0 : (p.length : Int) > 1000
  · rw [if_pos h0]; simp [shibbolethlaw01_VarintGives.j0]
  rw [if_neg h0]
  simp only [shibbolethlaw01_VarintGives.j0]
  by_cases h1 : (r.length : Int) > 1000
  · rw [decide_eq_true h1]; rfl
  · have h8 := vbytes_le (p.length : Int)
    rw [decide_eq_false h1, if_neg (by decide), give_f [] p (by simp) (by omega) _ (by omega)]
    simp only [Option.bind_some, List.nil_append]
    rw [if_pos (by rw [List.length_append]; omega), take_give p r (by omega) (by omega) hB hB']
    simp [same_f p (by omega) 2999 (by omega), same_f r (by omega) 2999 (by omega), awake_f 2999 (by omega)]
end Go.Proofs.YtbcleckapamicaaDoor.Pure
