/- Plain: both Takes answer alike. -/
import Derived.Test.YtbcleckapamicaaDoorTk0
import Derived.Test.YtbcleckapamicaaDoorVaP
namespace Go.Proofs.YtbcleckapamicaaDoor.TkP
open Go.RowKit Go.Proofs.YtbcleckapamicaaDoor.QVa Go.Proofs.YtbcleckapamicaaDoor.Vn Go.Proofs.YtbcleckapamicaaDoor.VaP Go.Proofs.YtbcleckapamicaaDoorW.PrintWords
open Go.Proofs.YtbcleckapamicaaDoor.Gv (bits_TrailingZeros.f slices_Clone_byte_byte.f varint_Size.f varint_Read.f)
open Go.Proofs.YtbcleckapamicaaDoor.Tk (shibbolethref01_Take.f)
set_option linter.unusedVariables false
set_option linter.unusedSimpArgs false

theorem vread_ok (l : List Int) (n s : Int) (h : vread l = (n, s, 0)) : 0 ≤ n ∧ n ≤ 4611686018427387903 ∧ 1 ≤ s ∧ s ≤ l.length ∧ s ≤ 8 := by
  unfold vread at h
  by_cases h0 : l.length = 0
  · rw [if_pos h0] at h; simp at h
  · rw [if_neg h0] at h
    by_cases h1 : l.length < 2 ^ (rd l 0 / 64).toNat
    · rw [if_pos h1] at h; simp at h
    · rw [if_neg h1] at h
      have hq : 1 ≤ (2 ^ (rd l 0 / 64).toNat : Nat) := Nat.one_le_two_pow
      generalize (2 ^ (rd l 0 / 64).toNat : Nat) = q at h h1 hq
      generalize num (rd l 0 % 64) ((l.take q).drop 1) = m at h
      by_cases h2 : vsize m = (q : Int)
      · rw [if_pos h2] at h
        simp only [Prod.mk.injEq, and_true] at h
        obtain ⟨rfl, rfl⟩ := h
        have hv := vsize_cases m
        omega
      · rw [if_neg h2] at h; simp at h
theorem take_both (l : List Int) (hB : Bytes l) (hl : l.length ≤ 1000) (k : Nat) (hk : 30 < k) : ∃ p r e, shibbolethref01_Take.f k l = some (p, r, e) ∧ varint_Take.f l = some (p, r, e) ∧ p.length ≤ 1000 ∧ r.length ≤ 1000 := by
  unfold shibbolethref01_Take.f varint_Take.f
  rw [read_f l hB (by omega) k hk, vread_f l hB]
  obtain ⟨n, s, e, hv⟩ : ∃ n s e, vread l = (n, s, e) := ⟨_, _, _, rfl⟩
  rw [hv]
  simp only [Option.bind_some]
  by_cases he : e = 0
  · subst he
    obtain ⟨n0, n1, s1, sl, s8⟩ := vread_ok l n s hv
    have w1 : wrap64 ((l.length : Int) - s) = (l.length : Int) - s := by unfold wrap64; omega
    rw [if_pos rfl, if_pos rfl, w1]
    by_cases hn : n > (l.length : Int) - s
    · rw [if_pos hn, if_pos hn]
      exact ⟨_, _, _, rfl, rfl, by simp, by simp⟩
    · have w2 : wrap64 (s + n) = s + n := by unfold wrap64; omega
      rw [if_neg hn, if_neg hn, if_pos (by omega), if_pos (by omega), w2, if_pos (by omega), if_pos (by omega), if_pos (by omega), if_pos (by omega)]
      unfold slices_Clone_byte_byte.f
      have l1 : ((l.take (s + n).toNat).drop s.toNat).length ≤ 1000 := by simp only [List.length_drop, List.length_take]; omega
      have l2 : (l.drop (s + n).toNat).length ≤ 1000 := by simp only [List.length_drop]; omega
      rw [if_pos (by omega), if_pos (by omega)]
      simp only [Option.bind_some]
      refine ⟨_, _, _, rfl, ?_, l1, l2⟩
      first
        | rfl
        | (rw [if_pos (by omega)])
  · rw [if_neg he, if_neg he]
    exact ⟨_, _, _, rfl, rfl, by simp, by simp⟩
end Go.Proofs.YtbcleckapamicaaDoor.TkP
