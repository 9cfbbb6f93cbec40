/- A part of the proof of the law HeaderWrites: VaP, HeP, PureHeaderWrites, Tab. -/
import Derived.Test.YtbcleckapamicaaDoorZHw15
import Derived.Test.YtbcleckapamicaaDoorZHw04
import Derived.Test.YtbcleckapamicaaDoorZHw02
import Derived.Test.YtbcleckapamicaaDoorZHw13
import Derived.Test.YtbcleckapamicaaDoorZHw05
import Derived.Test.YtbcleckapamicaaDoorZHw14
import Derived.Test.YtbcleckapamicaaDoorRows
import Derived.LaidLaws
import Derived.Lib.LaidTab
import Derived.Stop.LaidErr
namespace Go.Proofs.YtbcleckapamicaaDoor.VaP
open Go.RowKit Go.Proofs.YtbcleckapamicaaDoorW.PrintWords Go.Proofs.YtbcleckapamicaaDoorW.PrintLast Go.Proofs.YtbcleckapamicaaDoorW.PrintMore Go.Proofs.YtbcleckapamicaaDoor.QVa Go.Proofs.YtbcleckapamicaaDoor.Vn
open Go.Proofs.YtbcleckapamicaaDoor.Gv (bits_TrailingZeros.f slices_Clone_byte_byte.f varint_Size.f varint_Read.f)
set_option linter.unusedVariables false
set_option linter.unusedSimpArgs false
theorem same_l (l : List Int) (hl : l.length ≤ 9223372036854775806) : ∀ (d i k : Nat), i + d = l.length → d < k → shibbolethlaw01_same.l0 k l l (i : Int) = some true := by
  intro d
  induction d with
  | zero =>
    intro i k hi hk
    obtain ⟨k, rfl⟩ : ∃ m, k = m + 1 := ⟨k - 1, by omega⟩
    simp only [shibbolethlaw01_same.l0]
    rw [if_neg (by omega)]
  | succ d ih =>
    intro i k hi hk
    obtain ⟨k, rfl⟩ : ∃ m, k = m + 1 := ⟨k - 1, by omega⟩
    simp only [shibbolethlaw01_same.l0]
    rw [if_pos (by omega), if_pos (by omega), if_pos (by omega), if_pos trivial, show wrap64 ((i : Int) + 1) = ((i + 1 : Nat) : Int) from by unfold wrap64; omega]
    exact ih (i + 1) k (by omega) (by omega)
theorem same_f (l : List Int) (hl : l.length ≤ 9223372036854775806) (k : Nat) (hk : l.length < k) : shibbolethlaw01_same.f k l l = some true := by
  unfold shibbolethlaw01_same.f
  rw [if_pos rfl]
  exact same_l l hl l.length 0 k (by omega) hk
theorem size_f (n : Int) (k : Nat) (hk : 0 < k) : shibbolethref01_Size.f k n = some (vsize n) := by
  obtain ⟨k, rfl⟩ : ∃ m, k = m + 1 := ⟨k - 1, by omega⟩
  unfold shibbolethref01_Size.f vsize
  simp only [shibbolethref01_Size.j0]
  by_cases h1 : n < 0
  · simp [h1]
  · by_cases h2 : 4611686018427387903 < n
    · simp [h1, h2]
    · by_cases h3 : n < 64
      · simp [h1, h2, h3]
      · by_cases h4 : n < 16384
        · simp [h1, h2, h3, h4]
        · by_cases h5 : n < 1073741824
          · simp [h1, h2, h3, h4, h5]
          · simp [h1, h2, h3, h4, h5]
theorem or_mark (a : Int) (i m : Nat) (h0 : 0 ≤ a) (ha : a < 2 ^ i) (hm : m * 2 ^ i < 18446744073709551616) (hi : (2 : Int) ^ i ≤ 18446744073709551616) : Go.bits .or .u64 a ((m * 2 ^ i : Nat) : Int) = a + ((m * 2 ^ i : Nat) : Int) := by
  rw [u64_or a _ h0 (by omega) (by omega) (by omega), Int.toNat_natCast]
  have hc : ((a.toNat : Nat) : Int) < ((2 ^ i : Nat) : Int) := by rw [Int.toNat_of_nonneg h0]; simpa using ha
  have h := Nat.shiftLeft_add_eq_or_of_lt (i := i) (b := a.toNat) (Int.ofNat_lt.1 hc) m
  rw [Nat.shiftLeft_eq] at h
  rw [Nat.or_comm, ← h]
  omega
theorem shr_0 (x : Int) : shr .u64 x 0 = x := by simp [shr]
theorem shr_8 (x : Int) : shr .u64 x 8 = x / 256 := by simp [shr, IntKind.bits]
theorem shr_16 (x : Int) : shr .u64 x 16 = x / 65536 := by simp [shr, IntKind.bits]
theorem shr_24 (x : Int) : shr .u64 x 24 = x / 16777216 := by simp [shr, IntKind.bits]
theorem shr_32 (x : Int) : shr .u64 x 32 = x / 4294967296 := by simp [shr, IntKind.bits]
theorem shr_40 (x : Int) : shr .u64 x 40 = x / 1099511627776 := by simp [shr, IntKind.bits]
theorem shr_48 (x : Int) : shr .u64 x 48 = x / 281474976710656 := by simp [shr, IntKind.bits]
theorem shr_56 (x : Int) : shr .u64 x 56 = x / 72057594037927936 := by simp [shr, IntKind.bits]
theorem append_step (l : List Int) (x : Int) (j k : Nat) (hj : j ≤ 7) (hl : l.length < 140737488355328) : varint_Append.l0 (k + 1) l x (j : Int) = varint_Append.l0 k (l ++ [shr .u64 x ((8 * j : Nat) : Int) % 256]) x ((j : Int) - 1) := by
  simp only [varint_Append.l0]
  have e1 : wrap64 (8 * (j : Int)) = ((8 * j : Nat) : Int) := by unfold wrap64; omega
  have e2 : wrap64 ((j : Int) - 1) = (j : Int) - 1 := by unfold wrap64; omega
  rw [e1, e2, if_pos (by omega), if_pos (by omega), if_pos hl]
theorem append_end (l : List Int) (x : Int) (k : Nat) : varint_Append.l0 (k + 1) l x (-1) = some l := by
  simp only [varint_Append.l0]
  rw [if_neg (by omega)]
theorem append_f (l : List Int) (n : Int) (hl : l.length ≤ 1000000) (k : Nat) (hk : 9 < k) : varint_Append.f k l n = some (l ++ vbytes n) := by
  obtain ⟨k, rfl⟩ : ∃ m, k = m + 9 := ⟨k - 9, by omega⟩
  unfold varint_Append.f slices_Clone_byte_byte.f varint_Size.f
  rw [if_pos (by omega)]
  simp only [Option.bind_some]
  rcases vsize_cases n with ⟨hn, h, e⟩ | ⟨hn, h, e⟩ | ⟨hn, h, e⟩ | ⟨hn, h, e⟩ | ⟨hn, h, e⟩ <;> rw [h, e]
  · simp
  · have w1 : IntKind.u64.wrap n = n := by simp [IntKind.wrap, IntKind.bits, IntKind.signed]; omega
    have w2 : shl .u64 (IntKind.u64.wrap 0) (wrap64 ((wrap64 (8 * 1)) - 2)) = ((0 * 2 ^ 6 : Nat) : Int) := by decide +kernel
    have w3 : bits_TrailingZeros.f (IntKind.u64.wrap 1) = some 0 := by decide +kernel
    have w4 : wrap64 (1 - 1) = ((0 : Nat) : Int) := by decide +kernel
    rw [if_neg (by decide), w3]
    simp only [Option.bind_some]
    rw [if_pos (by decide +kernel), w1, w2, w4, or_mark n 6 0 hn.1 (by omega) (by omega) (by decide), show (k + 9) = (k + 7) + 1 + 1 from rfl, append_step _ _ 0 _ (by omega) (by omega), show (((0 : Nat) : Int) - 1) = -1 from rfl, append_end]
    congr 2
    simp only [show ((8 * 0 : Nat) : Int) = 0 from rfl, shr_0]
    congr 1; omega
  · have w1 : IntKind.u64.wrap n = n := by simp [IntKind.wrap, IntKind.bits, IntKind.signed]; omega
    have w2 : shl .u64 (IntKind.u64.wrap 1) (wrap64 ((wrap64 (8 * 2)) - 2)) = ((1 * 2 ^ 14 : Nat) : Int) := by decide +kernel
    have w3 : bits_TrailingZeros.f (IntKind.u64.wrap 2) = some 1 := by decide +kernel
    have w4 : wrap64 (2 - 1) = ((1 : Nat) : Int) := by decide +kernel
    rw [if_neg (by decide), w3]
    simp only [Option.bind_some]
    rw [if_pos (by decide +kernel), w1, w2, w4, or_mark n 14 1 (by omega) (by omega) (by omega) (by decide), show (k + 9) = (k + 6) + 1 + 1 + 1 from rfl, append_step _ _ 1 _ (by omega) (by omega), show (((1 : Nat) : Int) - 1) = ((0 : Nat) : Int) from rfl,
      append_step _ _ 0 _ (by omega) (by simp; omega), show (((0 : Nat) : Int) - 1) = -1 from rfl, append_end]
    simp only [show ((8 * 0 : Nat) : Int) = 0 from rfl, show ((8 * 1 : Nat) : Int) = 8 from rfl, shr_0, shr_8, List.append_assoc, List.cons_append, List.nil_append]
    congr 2
    simp only [List.cons.injEq, and_true]
    omega
  · have w1 : IntKind.u64.wrap n = n := by simp [IntKind.wrap, IntKind.bits, IntKind.signed]; omega
    have w2 : shl .u64 (IntKind.u64.wrap 2) (wrap64 ((wrap64 (8 * 4)) - 2)) = ((2 * 2 ^ 30 : Nat) : Int) := by decide +kernel
    have w3 : bits_TrailingZeros.f (IntKind.u64.wrap 4) = some 2 := by decide +kernel
    have w4 : wrap64 (4 - 1) = ((3 : Nat) : Int) := by decide +kernel
    rw [if_neg (by decide), w3]
    simp only [Option.bind_some]
    rw [if_pos (by decide +kernel), w1, w2, w4, or_mark n 30 2 (by omega) (by omega) (by omega) (by decide), show (k + 9) = (k + 4) + 1 + 1 + 1 + 1 + 1 from rfl, append_step _ _ 3 _ (by omega) (by omega), show (((3 : Nat) : Int) - 1) = ((2 : Nat) : Int) from rfl,
      append_step _ _ 2 _ (by omega) (by simp; omega), show (((2 : Nat) : Int) - 1) = ((1 : Nat) : Int) from rfl, append_step _ _ 1 _ (by omega) (by simp; omega), show (((1 : Nat) : Int) - 1) = ((0 : Nat) : Int) from rfl,
      append_step _ _ 0 _ (by omega) (by simp; omega), show (((0 : Nat) : Int) - 1) = -1 from rfl, append_end]
    simp only [show ((8 * 0 : Nat) : Int) = 0 from rfl, show ((8 * 1 : Nat) : Int) = 8 from rfl, show ((8 * 2 : Nat) : Int) = 16 from rfl, show ((8 * 3 : Nat) : Int) = 24 from rfl, shr_0, shr_8, shr_16, shr_24, List.append_assoc, List.cons_append, List.nil_append]
    congr 2
    simp only [List.cons.injEq, and_true]
    omega
  · have w1 : IntKind.u64.wrap n = n := by simp [IntKind.wrap, IntKind.bits, IntKind.signed]; omega
    have w2 : shl .u64 (IntKind.u64.wrap 3) (wrap64 ((wrap64 (8 * 8)) - 2)) = ((3 * 2 ^ 62 : Nat) : Int) := by decide +kernel
    have w3 : bits_TrailingZeros.f (IntKind.u64.wrap 8) = some 3 := by decide +kernel
    have w4 : wrap64 (8 - 1) = ((7 : Nat) : Int) := by decide +kernel
    rw [if_neg (by decide), w3]
    simp only [Option.bind_some]
    rw [if_pos (by decide +kernel), w1, w2, w4, or_mark n 62 3 (by omega) (by omega) (by omega) (by decide), show (k + 9) = k + 1 + 1 + 1 + 1 + 1 + 1 + 1 + 1 + 1 from rfl, append_step _ _ 7 _ (by omega) (by omega), show (((7 : Nat) : Int) - 1) = ((6 : Nat) : Int) from rfl,
      append_step _ _ 6 _ (by omega) (by simp; omega), show (((6 : Nat) : Int) - 1) = ((5 : Nat) : Int) from rfl, append_step _ _ 5 _ (by omega) (by simp; omega), show (((5 : Nat) : Int) - 1) = ((4 : Nat) : Int) from rfl,
      append_step _ _ 4 _ (by omega) (by simp; omega), show (((4 : Nat) : Int) - 1) = ((3 : Nat) : Int) from rfl, append_step _ _ 3 _ (by omega) (by simp; omega), show (((3 : Nat) : Int) - 1) = ((2 : Nat) : Int) from rfl,
      append_step _ _ 2 _ (by omega) (by simp; omega), show (((2 : Nat) : Int) - 1) = ((1 : Nat) : Int) from rfl, append_step _ _ 1 _ (by omega) (by simp; omega), show (((1 : Nat) : Int) - 1) = ((0 : Nat) : Int) from rfl,
      append_step _ _ 0 _ (by omega) (by simp; omega), show (((0 : Nat) : Int) - 1) = -1 from rfl, append_end]
    simp only [show ((8 * 0 : Nat) : Int) = 0 from rfl, show ((8 * 1 : Nat) : Int) = 8 from rfl, show ((8 * 2 : Nat) : Int) = 16 from rfl, show ((8 * 3 : Nat) : Int) = 24 from rfl, show ((8 * 4 : Nat) : Int) = 32 from rfl, show ((8 * 5 : Nat) : Int) = 40 from rfl, show ((8 * 6 : Nat) : Int) = 48 from rfl, show ((8 * 7 : Nat) : Int) = 56 from rfl,
      shr_0, shr_8, shr_16, shr_24, shr_32, shr_40, shr_48, shr_56, List.append_assoc, List.cons_append, List.nil_append]
    congr 2
    simp only [List.cons.injEq, and_true]
    omega
theorem bytes_l0 (n : Int) (s : Nat) (hs : s ≤ 8) : ∀ (d j k : Nat), j + d = s → shibbolethref01_Bytes.l0 (k + d + 1) n (s : Int) (List.replicate j 0) (j : Int) = shibbolethref01_Bytes.l1 k (s : Int) (List.replicate s 0) n ((s : Int) - 1) := by
  intro d
  induction d with
  | zero =>
    intro j k hj
    obtain rfl : j = s := by omega
    simp only [shibbolethref01_Bytes.l0]
    rw [if_neg (by omega), show wrap64 ((j : Int) - 1) = (j : Int) - 1 from by unfold wrap64; omega]
  | succ d ih =>
    intro j k hj
    rw [show k + (d + 1) + 1 = (k + d + 1) + 1 from by omega]
    rw [shibbolethref01_Bytes.l0]
    rw [if_pos (by omega), if_pos (by simp; omega), show wrap64 ((j : Int) + 1) = ((j + 1 : Nat) : Int) from by unfold wrap64; omega, show List.replicate j (0 : Int) ++ [0] = List.replicate (j + 1) 0 from by rw [List.replicate_succ']]
    exact ih (j + 1) k (by omega)
theorem bytes_step (s : Int) (l : List Int) (x : Int) (i k : Nat) (hi : i < l.length) (hl : l.length ≤ 8) (h0 : 0 ≤ x) (hx : x < 4611686018427387904) : shibbolethref01_Bytes.l1 (k + 1) s l x (i : Int) = shibbolethref01_Bytes.l1 k s (l.set i (x % 256)) (x / 256) ((i : Int) - 1) := by
  rw [shibbolethref01_Bytes.l1]
  rw [if_pos (by omega), if_pos (by omega), if_pos (by omega), Int.toNat_natCast, show wrap64 ((i : Int) - 1) = (i : Int) - 1 from by unfold wrap64; omega, Int.tmod_eq_emod_of_nonneg h0, Int.tdiv_eq_ediv_of_nonneg h0,
    show x % 256 % 256 = x % 256 from by omega, show wrap64 (x / 256) = x / 256 from by unfold wrap64; omega]
theorem bytes_end (s : Int) (l : List Int) (x : Int) (k : Nat) (hl : 0 < l.length) : shibbolethref01_Bytes.l1 (k + 1) s l x (-1) = some (if s = 2 then l.set 0 ((rd l 0 + 64) % 256) else if s = 4 then l.set 0 ((rd l 0 + 128) % 256) else if s = 8 then l.set 0 ((rd l 0 + 192) % 256) else l) := by
  rw [shibbolethref01_Bytes.l1]
  have hp : 0 < (l.length : Int) := by omega
  rw [if_neg (by omega)]
  simp only [if_pos hp, Int.toNat_zero]
  split
  · rfl
  · split
    · rfl
    · split <;> rfl
theorem bytes_f (n : Int) (k : Nat) (hk : 30 < k) : shibbolethref01_Bytes.f k n = some (vbytes n) := by
  obtain ⟨k, rfl⟩ : ∃ m, k = m + 30 := ⟨k - 30, by omega⟩
  unfold shibbolethref01_Bytes.f
  rw [size_f n _ (by omega)]
  simp only [Option.bind_some]
  rcases vsize_cases n with ⟨hn, h, e⟩ | ⟨hn, h, e⟩ | ⟨hn, h, e⟩ | ⟨hn, h, e⟩ | ⟨hn, h, e⟩ <;> rw [h, e]
  · have := bytes_l0 n 0 (by omega) 0 0 (k + 29) rfl
    rw [show k + 30 = k + 29 + 0 + 1 from rfl]
    refine Eq.trans this ?_
    rw [shibbolethref01_Bytes.l1]; simp
  · have := bytes_l0 n 1 (by omega) 1 0 (k + 28) rfl
    rw [show k + 30 = k + 28 + 1 + 1 from rfl]
    refine Eq.trans this ?_
    rw [show (((1 : Nat) : Int) - 1) = ((0 : Nat) : Int) from rfl, bytes_step _ _ _ 0 _ (by simp) (by simp) (by omega) (by omega), show (((0 : Nat) : Int) - 1) = -1 from rfl, bytes_end _ _ _ _ (by simp)]
    simp; omega
  · have := bytes_l0 n 2 (by omega) 2 0 (k + 27) rfl
    rw [show k + 30 = k + 27 + 2 + 1 from rfl]
    refine Eq.trans this ?_
    rw [show (((2 : Nat) : Int) - 1) = ((1 : Nat) : Int) from rfl, bytes_step _ _ _ 1 _ (by simp) (by simp) (by omega) (by omega), show (((1 : Nat) : Int) - 1) = ((0 : Nat) : Int) from rfl, bytes_step _ _ _ 0 _ (by simp) (by simp) (by omega) (by omega), show (((0 : Nat) : Int) - 1) = -1 from rfl, bytes_end _ _ _ _ (by simp)]
    simp [rd, List.replicate]; omega
  · have := bytes_l0 n 4 (by omega) 4 0 (k + 25) rfl
    rw [show k + 30 = k + 25 + 4 + 1 from rfl]
    refine Eq.trans this ?_
    rw [show (((4 : Nat) : Int) - 1) = ((3 : Nat) : Int) from rfl, bytes_step _ _ _ 3 _ (by simp) (by simp) (by omega) (by omega), show (((3 : Nat) : Int) - 1) = ((2 : Nat) : Int) from rfl, bytes_step _ _ _ 2 _ (by simp) (by simp) (by omega) (by omega),
      show (((2 : Nat) : Int) - 1) = ((1 : Nat) : Int) from rfl, bytes_step _ _ _ 1 _ (by simp) (by simp) (by omega) (by omega), show (((1 : Nat) : Int) - 1) = ((0 : Nat) : Int) from rfl, bytes_step _ _ _ 0 _ (by simp) (by simp) (by omega) (by omega), show (((0 : Nat) : Int) - 1) = -1 from rfl, bytes_end _ _ _ _ (by simp)]
    simp [rd, List.replicate]; omega
  · have := bytes_l0 n 8 (by omega) 8 0 (k + 21) rfl
    rw [show k + 30 = k + 21 + 8 + 1 from rfl]
    refine Eq.trans this ?_
    rw [show (((8 : Nat) : Int) - 1) = ((7 : Nat) : Int) from rfl, bytes_step _ _ _ 7 _ (by simp) (by simp) (by omega) (by omega), show (((7 : Nat) : Int) - 1) = ((6 : Nat) : Int) from rfl, bytes_step _ _ _ 6 _ (by simp) (by simp) (by omega) (by omega),
      show (((6 : Nat) : Int) - 1) = ((5 : Nat) : Int) from rfl, bytes_step _ _ _ 5 _ (by simp) (by simp) (by omega) (by omega), show (((5 : Nat) : Int) - 1) = ((4 : Nat) : Int) from rfl, bytes_step _ _ _ 4 _ (by simp) (by simp) (by omega) (by omega),
      show (((4 : Nat) : Int) - 1) = ((3 : Nat) : Int) from rfl, bytes_step _ _ _ 3 _ (by simp) (by simp) (by omega) (by omega), show (((3 : Nat) : Int) - 1) = ((2 : Nat) : Int) from rfl, bytes_step _ _ _ 2 _ (by simp) (by simp) (by omega) (by omega),
      show (((2 : Nat) : Int) - 1) = ((1 : Nat) : Int) from rfl, bytes_step _ _ _ 1 _ (by simp) (by simp) (by omega) (by omega), show (((1 : Nat) : Int) - 1) = ((0 : Nat) : Int) from rfl, bytes_step _ _ _ 0 _ (by simp) (by simp) (by omega) (by omega), show (((0 : Nat) : Int) - 1) = -1 from rfl, bytes_end _ _ _ _ (by simp)]
    simp [rd, List.replicate]; omega
theorem vread_f (l : List Int) (hB : Bytes l) : varint_Read.f l = some (vread l) := by unfold varint_Read.f; rw [if_pos hB]
theorem awake_f (k : Nat) (hk : 40 < k) : shibbolethlaw01_awake.f k = some true := by
  unfold shibbolethlaw01_awake.f
  rw [vread_f _ (by decide), append_f [] 63 (by simp) k (by omega), append_f [] 16384 (by simp) k (by omega)]
  simp only [Option.bind_some, List.nil_append]
  rw [show vbytes 63 = [63] from by decide +kernel, show vbytes 16384 = [128, 0, 64, 0] from by decide +kernel, same_f _ (by simp) k (by simp; omega), same_f _ (by simp) k (by simp; omega)]
  decide +kernel
end Go.Proofs.YtbcleckapamicaaDoor.VaP
namespace Go.Proofs.YtbcleckapamicaaDoor.HeP
open Go.RowKit Go.Proofs.YtbcleckapamicaaDoorW.PrintWords Go.Proofs.YtbcleckapamicaaDoorW.PrintLast Go.Proofs.YtbcleckapamicaaDoorW.PrintMore Go.Proofs.YtbcleckapamicaaDoor.QHe Go.Proofs.YtbcleckapamicaaDoor.Vn
open Go.Proofs.YtbcleckapamicaaDoor.Gw (slices_Concat_byte_byte.f)
open Go.Proofs.YtbcleckapamicaaDoor.QVa (varint_Append.f varint_Give.f shibbolethref01_Bytes.f shibbolethref01_Give.f)
open Go.Proofs.YtbcleckapamicaaDoor.VaP (append_f bytes_f)
set_option linter.unusedVariables false
set_option linter.unusedSimpArgs false
theorem same_l (l : List Int) (hl : l.length ≤ 9223372036854775806) : ∀ (d i k : Nat), i + d = l.length → d < k → shibbolethlaw05_same.l0 k l l (i : Int) = some true := by
  intro d
  induction d with
  | zero =>
    intro i k hi hk
    obtain ⟨k, rfl⟩ : ∃ m, k = m + 1 := ⟨k - 1, by omega⟩
    simp only [shibbolethlaw05_same.l0]
    rw [if_neg (by omega)]
  | succ d ih =>
    intro i k hi hk
    obtain ⟨k, rfl⟩ : ∃ m, k = m + 1 := ⟨k - 1, by omega⟩
    simp only [shibbolethlaw05_same.l0]
    rw [if_pos (by omega), if_pos (by omega), if_pos (by omega), if_pos trivial, show wrap64 ((i : Int) + 1) = ((i + 1 : Nat) : Int) from by unfold wrap64; omega]
    exact ih (i + 1) k (by omega) (by omega)
theorem same_f (l : List Int) (hl : l.length ≤ 9223372036854775806) (k : Nat) (hk : l.length < k) : shibbolethlaw05_same.f k l l = some true := by
  unfold shibbolethlaw05_same.f
  rw [if_pos rfl]
  exact same_l l hl l.length 0 k (by omega) hk
def hbig (n : Int) (w : Int) : List Int :=
  if w = 1 then [n % 256] else if w = 2 then [n / 256 % 256, n % 256] else if w = 3 then [n / 65536 % 256, n / 256 % 256, n % 256] else [n / 16777216 % 256, n / 65536 % 256, n / 256 % 256, n % 256]
theorem hbig_len (n w : Int) : (hbig n w).length ≤ 4 := by unfold hbig; (repeat' split) <;> simp
theorem big_f (n w : Int) (h1 : 1 ≤ w) (h4 : w ≤ 4) (k : Nat) (hk : 5 < k) : header_big.f k n w = some (hbig n w) := by
  obtain ⟨k, rfl⟩ : ∃ m, k = m + 6 := ⟨k - 6, by omega⟩
  unfold header_big.f
  rw [if_pos (by omega), if_pos (by omega)]
  obtain rfl | rfl | rfl | rfl : w = 1 ∨ w = 2 ∨ w = 3 ∨ w = 4 := by omega
  all_goals simp [header_big.l0, wrap64, shr, IntKind.bits, hbig, List.replicate]
theorem power_f (i : Int) (h0 : 0 ≤ i) (h4 : i ≤ 4) (k : Nat) (hk : 5 < k) : shibbolethref05_power.f k i = some (if i = 0 then 1 else if i = 1 then 256 else if i = 2 then 65536 else if i = 3 then 16777216 else 4294967296) := by
  obtain ⟨k, rfl⟩ : ∃ m, k = m + 6 := ⟨k - 6, by omega⟩
  unfold shibbolethref05_power.f
  obtain rfl | rfl | rfl | rfl | rfl : i = 0 ∨ i = 1 ∨ i = 2 ∨ i = 3 ∨ i = 4 := by omega
  all_goals simp [shibbolethref05_power.l0, wrap64]
theorem Big_f (n w : Int) (h0 : 0 ≤ n) (hn : n ≤ 9223372036854775807) (h1 : 1 ≤ w) (h4 : w ≤ 4) (k : Nat) (hk : 12 < k) : shibbolethref05_Big.f k n w = some (hbig n w) := by
  obtain ⟨k, rfl⟩ : ∃ m, k = m + 12 := ⟨k - 12, by omega⟩
  have hw : ∀ d : Int, 0 < d → wrap64 (n.tdiv d) = n / d := by
    intro d hd
    rw [Int.tdiv_eq_ediv_of_nonneg h0]
    have a : 0 ≤ n / d := Int.ediv_nonneg h0 (by omega)
    have b : n / d ≤ n := Int.ediv_le_self _ h0
    unfold wrap64; omega
  have hm : ∀ d : Int, 0 < d → (n / d).tmod 256 % 256 = n / d % 256 := by
    intro d hd
    rw [Int.tmod_eq_emod_of_nonneg (Int.ediv_nonneg h0 (by omega))]
    omega
  have p0 : ∀ k, 5 < k → shibbolethref05_power.f k 0 = some 1 := fun k hk => power_f 0 (by omega) (by omega) k hk
  have p1 : ∀ k, 5 < k → shibbolethref05_power.f k 1 = some 256 := fun k hk => power_f 1 (by omega) (by omega) k hk
  have p2 : ∀ k, 5 < k → shibbolethref05_power.f k 2 = some 65536 := fun k hk => power_f 2 (by omega) (by omega) k hk
  have p3 : ∀ k, 5 < k → shibbolethref05_power.f k 3 = some 16777216 := fun k hk => power_f 3 (by omega) (by omega) k hk
  have m1 := hm 1 (by omega)
  have m2 := hm 256 (by omega)
  have m3 := hm 65536 (by omega)
  have m4 := hm 16777216 (by omega)
  have w1 := hw 1 (by omega)
  rw [Int.ediv_one] at m1 w1
  unfold shibbolethref05_Big.f
  have wn : wrap64 n = n := by unfold wrap64; omega
  have zm : wrap64 (-1) = -1 := by decide +kernel
  have z0 : wrap64 0 = 0 := by decide +kernel
  have z1 : wrap64 1 = 1 := by decide +kernel
  have z2 : wrap64 2 = 2 := by decide +kernel
  have z3 : wrap64 3 = 3 := by decide +kernel
  obtain rfl | rfl | rfl | rfl : w = 1 ∨ w = 2 ∨ w = 3 ∨ w = 4 := by omega
  all_goals simp [shibbolethref05_Big.l0, p0, p1, p2, p3, w1, wn, m1, m2, m3, m4, zm, z0, z1, z2, z3, hbig, hw]
def hbound (w : Int) : Int := if w = 1 then 256 else if w = 2 then 65536 else if w = 3 then 16777216 else 4294967296
theorem wide_f (n w : Int) (h1 : 1 ≤ w) (h4 : w ≤ 4) : header_wide.f n w = some (decide (0 ≤ n ∧ n < hbound w)) := by
  unfold header_wide.f
  obtain rfl | rfl | rfl | rfl : w = 1 ∨ w = 2 ∨ w = 3 ∨ w = 4 := by omega
  all_goals
    by_cases h : 0 ≤ n
    · simp [h, wrap64, shl, IntKind.wrap, IntKind.bits, IntKind.signed, hbound]
    · simp [h]
def hright (a0 a1 : Int) (l2 l3 l4 : List Int) (a5 a6 a7 : Int) : Prop := 1 ≤ a7 ∧ a7 ≤ 4 ∧ 0 ≤ a6 ∧ a6 < hbound a7 ∧
  ((a0 = 3 ∧ a1 = 0 ∧ l2.length = 8 ∧ l3.length = 0 ∧ l4.length = 0 ∧ (a5 = 0 ∨ a5 = 1)) ∨
   (0 ≤ a0 ∧ a0 < 3 ∧ 1 ≤ a1 ∧ a1 ≤ 4294967295 ∧ l2.length ≤ 20 ∧ l3.length ≤ 20 ∧ a5 = 0 ∧ l4.length ≤ 64 ∧ (a0 = 0 ∨ l4.length = 0)))
instance (a0 a1 : Int) (l2 l3 l4 : List Int) (a5 a6 a7 : Int) : Decidable (hright a0 a1 l2 l3 l4 a5 a6 a7) := by unfold hright; infer_instance
theorem some_decide {p q : Prop} [Decidable p] [Decidable q] (h : p ↔ q) : some (decide p) = some (decide q) := by simp [h]
theorem beq_decide (a b : Int) : (a == b) = decide (a = b) := by by_cases h : a = b <;> simp [h]
theorem true_decide {q : Prop} [Decidable q] (h : q) : some true = some (decide q) := by simp [h]
theorem false_decide {q : Prop} [Decidable q] (h : ¬ q) : some false = some (decide q) := by simp [h]
theorem right_f (a0 a1 : Int) (l2 l3 l4 : List Int) (a5 a6 a7 : Int) (k : Nat) (hk : 5 < k) : header_Right.f k a0 a1 l2 l3 l4 a5 a6 a7 = some (decide (hright a0 a1 l2 l3 l4 a5 a6 a7)) := by
  obtain ⟨k, rfl⟩ : ∃ m, k = m + 1 := ⟨k - 1, by omega⟩
  unfold header_Right.f
  by_cases h1 : a7 < 1
  · rw [if_pos h1]; simp only [header_Right.j0]; rw [if_pos trivial]; exact false_decide (by unfold hright; omega)
  rw [if_neg h1]
  by_cases h4 : a7 > 4
  · rw [if_pos h4]; simp only [header_Right.j0]; rw [if_pos trivial]; exact false_decide (by unfold hright; omega)
  rw [if_neg h4, wide_f a6 a7 (by omega) (by omega)]
  simp only [Option.bind_some, header_Right.j0]
  by_cases hb : 0 ≤ a6 ∧ a6 < hbound a7
  · rw [decide_eq_true hb, if_neg (by decide), wide_f a1 4 (by omega) (by omega)]
    simp only [Option.bind_some, beq_decide, decide_eq_true_eq, show hbound 4 = 4294967296 from rfl]
    repeat' split
    all_goals first | exact true_decide (by unfold hright; omega) | exact false_decide (by unfold hright; omega) | exact some_decide (by unfold hright; omega)
  · rw [decide_eq_false hb, if_pos (by decide)]
    exact false_decide (by unfold hright; omega)
set_option maxHeartbeats 4000000 in
theorem Right_f (a0 a1 : Int) (l2 l3 l4 : List Int) (a5 a6 a7 : Int) (k : Nat) (hk : 6 < k) : shibbolethref05_Right.f k a0 a1 l2 l3 l4 a5 a6 a7 = some (decide (hright a0 a1 l2 l3 l4 a5 a6 a7)) := by
  obtain ⟨k, rfl⟩ : ∃ m, k = m + 1 := ⟨k - 1, by omega⟩
  unfold shibbolethref05_Right.f
  by_cases h1 : a7 < 1
  · rw [if_pos h1]; simp only [shibbolethref05_Right.j0]; rw [if_pos trivial]; exact false_decide (by unfold hright; omega)
  rw [if_neg h1]
  by_cases h4 : a7 > 4
  · rw [if_pos h4]; simp only [shibbolethref05_Right.j0]; rw [if_pos trivial]; exact false_decide (by unfold hright; omega)
  rw [if_neg h4]
  by_cases h6 : a6 < 0
  · rw [if_pos h6]; simp only [shibbolethref05_Right.j0]; rw [if_pos trivial]; exact false_decide (by unfold hright; omega)
  rw [if_neg h6, power_f a7 (by omega) (by omega) (k + 1) (by omega)]
  have hp : (if a7 = 0 then (1 : Int) else if a7 = 1 then 256 else if a7 = 2 then 65536 else if a7 = 3 then 16777216 else 4294967296) = hbound a7 := by unfold hbound; rw [if_neg (by omega)]
  rw [hp]
  simp only [Option.bind_some, shibbolethref05_Right.j0]
  by_cases hb : a6 ≥ hbound a7
  · rw [decide_eq_true hb, if_pos rfl]
    exact false_decide (by unfold hright; omega)
  · rw [decide_eq_false hb, if_neg (by decide)]
    repeat' split
    all_goals first | exact true_decide (by unfold hright; omega) | exact false_decide (by unfold hright; omega) | exact some_decide (by unfold hright; omega)
def hbytes (a0 a1 : Int) (l2 l3 l4 : List Int) (a5 a6 a7 n : Int) : List Int :=
  if a0 = 3 then [63 + 4 * a5 + a7] ++ l2 ++ hbig a6 a7
  else [191 + 16 * a0 + a7] ++ hbig a1 4 ++ ((l2.length : Int) :: l2) ++ ((l3.length : Int) :: l3) ++ (if a0 = 0 then vbytes l4.length ++ l4 else []) ++ vbytes (a7 + n) ++ hbig a6 a7
theorem hbytes_len (a0 a1 : Int) (l2 l3 l4 : List Int) (a5 a6 a7 n : Int) (h : hright a0 a1 l2 l3 l4 a5 a6 a7) : (hbytes a0 a1 l2 l3 l4 a5 a6 a7 n).length ≤ 200 := by
  have e1 := hbig_len a6 a7
  have e2 := hbig_len a1 4
  have e3 := vbytes_le (l4.length : Int)
  have e4 := vbytes_le (a7 + n)
  unfold hright at h
  unfold hbytes
  split
  · simp; omega
  · split <;> simp <;> omega
theorem named_f (l : List Int) (h : l.length ≤ 255) : header_named.f l = some ((l.length : Int) :: l) := by
  unfold header_named.f
  simp only [Option.bind_some]
  rw [if_pos (by simp; omega), show (l.length : Int) % 256 = l.length from by omega]
  rfl
theorem concat_f (y : List (List Int)) (h : y.flatten.length ≤ 140737488355328) : slices_Concat_byte_byte.f y = some y.flatten := by
  unfold slices_Concat_byte_byte.f
  rw [if_pos h]
theorem give_f (l p : List Int) (hl : l.length ≤ 100000) (hp : p.length ≤ 100000) (k : Nat) (hk : 9 < k) : varint_Give.f k l p = some (l ++ vbytes p.length ++ p) := by
  have h8 := vbytes_le (p.length : Int)
  unfold varint_Give.f
  rw [append_f l _ (by omega) k hk]
  simp only [Option.bind_some]
  rw [if_pos (by rw [List.length_append]; omega)]
theorem rgive_f (p : List Int) (hp : p.length ≤ 100000) (k : Nat) (hk : 30 < k) : shibbolethref01_Give.f k p = some (vbytes p.length ++ p) := by
  have h8 := vbytes_le (p.length : Int)
  unfold shibbolethref01_Give.f
  rw [bytes_f _ k hk]
  simp only [Option.bind_some]
  rw [if_pos (by omega)]
theorem write_f (a0 a1 : Int) (l2 l3 l4 : List Int) (a5 a6 a7 n : Int) (k : Nat) (hk : 40 < k) : header_Write.f k a0 a1 l2 l3 l4 a5 a6 a7 n =
    some (if hright a0 a1 l2 l3 l4 a5 a6 a7 ∧ 0 ≤ n ∧ n ≤ 16384 then hbytes a0 a1 l2 l3 l4 a5 a6 a7 n else []) := by
  obtain ⟨k, rfl⟩ : ∃ m, k = m + 1 := ⟨k - 1, by omega⟩
  unfold header_Write.f
  rw [right_f _ _ _ _ _ _ _ _ _ (by omega)]
  simp only [Option.bind_some]
  by_cases h : hright a0 a1 l2 l3 l4 a5 a6 a7
  · rw [decide_eq_true h, if_pos rfl]
    by_cases h0 : n < 0
    · rw [if_pos h0, if_neg (by omega)]; simp only [header_Write.j0]; rw [if_pos trivial]
    rw [if_neg h0]
    by_cases h1 : n > 16384
    · rw [decide_eq_true h1, if_neg (by omega)]; simp only [header_Write.j0]; rw [if_pos trivial]
    rw [decide_eq_false h1, if_pos ⟨h, by omega, by omega⟩]
    simp only [header_Write.j0]
    rw [if_neg (by decide)]
    have hh := h
    unfold hright at hh
    have e1 := hbig_len a6 a7
    have e2 := hbig_len a1 4
    have e3 := vbytes_le (l4.length : Int)
    have e4 := vbytes_le (a7 + n)
    unfold hbytes
    by_cases h3 : a0 = 3
    · rw [if_pos h3, if_pos h3, big_f _ _ (by omega) (by omega) _ (by omega)]
      simp only [Option.bind_some]
      have w1 : wrap64 ((wrap64 ((wrap64 (64 + (wrap64 (4 * a5)))) + a7)) - 1) % 256 = 63 + 4 * a5 + a7 := by unfold wrap64; omega
      rw [w1, concat_f _ (by simp; omega)]
      simp
    · rw [if_neg h3, if_neg h3, big_f _ _ (by omega) (by omega) _ (by omega), big_f _ _ (by omega) (by omega) _ (by omega), named_f _ (by omega), named_f _ (by omega)]
      simp only [Option.bind_some]
      have w1 : wrap64 ((wrap64 ((wrap64 (192 + (wrap64 (16 * a0)))) + a7)) - 1) % 256 = 191 + 16 * a0 + a7 := by unfold wrap64; omega
      have w2 : wrap64 (a7 + n) = a7 + n := by unfold wrap64; omega
      rw [w1, w2, concat_f _ (by simp; omega)]
      simp only [Option.bind_some]
      by_cases h00 : a0 = 0
      · rw [if_pos h00, if_pos h00, give_f _ _ (by simp; omega) (by omega) _ (by omega)]
        simp only [Option.bind_some]
        rw [append_f _ _ (by simp; omega) _ (by omega)]
        simp only [Option.bind_some]
        rw [if_pos (by simp; omega)]
        simp
      · rw [if_neg h00, if_neg h00, append_f _ _ (by simp; omega) _ (by omega)]
        simp only [Option.bind_some]
        rw [if_pos (by simp; omega)]
        simp
  · rw [decide_eq_false h, if_neg (by decide), if_neg (by simp [h])]; simp only [header_Write.j0]; rw [if_pos trivial]
theorem Write_f (a0 a1 : Int) (l2 l3 l4 : List Int) (a5 a6 a7 n : Int) (k : Nat) (hk : 40 < k) (h : hright a0 a1 l2 l3 l4 a5 a6 a7) (h0 : 0 ≤ n) (h1 : n ≤ 16384) : shibbolethref05_Write.f k a0 a1 l2 l3 l4 a5 a6 a7 n = some (hbytes a0 a1 l2 l3 l4 a5 a6 a7 n) := by
  have hh := h
  unfold hright at hh
  have e1 := hbig_len a6 a7
  have e2 := hbig_len a1 4
  have e3 := vbytes_le (l4.length : Int)
  have e4 := vbytes_le (a7 + n)
  have hq : hbound a7 ≤ 4294967296 := by unfold hbound; (repeat' split) <;> omega
  have hB : a6 ≤ 9223372036854775807 := by omega
  unfold shibbolethref05_Write.f hbytes
  by_cases h3 : a0 = 3
  · rw [if_pos h3, if_pos h3]
    simp only [Option.bind_some]
    have w1 : wrap64 ((wrap64 ((wrap64 (64 + (wrap64 (4 * a5)))) + a7)) - 1) % 256 = 63 + 4 * a5 + a7 := by unfold wrap64; omega
    rw [w1, if_pos (by simp; omega), Big_f _ _ (by omega) hB (by omega) (by omega) _ (by omega)]
    simp only [Option.bind_some]
    rw [if_pos (by simp; omega)]
  · rw [if_neg h3, if_neg h3]
    simp only [Option.bind_some]
    have w1 : wrap64 ((wrap64 ((wrap64 (192 + (wrap64 (16 * a0)))) + a7)) - 1) % 256 = 191 + 16 * a0 + a7 := by unfold wrap64; omega
    have w2 : wrap64 (a7 + n) = a7 + n := by unfold wrap64; omega
    have w3 : (l2.length : Int) % 256 = l2.length := by omega
    have w4 : (l3.length : Int) % 256 = l3.length := by omega
    rw [w1, w2, w3, w4, Big_f a1 4 (by omega) (by omega) (by omega) (by omega) _ (by omega), Big_f _ _ (by omega) hB (by omega) (by omega) _ (by omega), bytes_f _ _ (by omega), rgive_f _ (by omega) _ (by omega)]
    simp only [Option.bind_some]
    rw [if_pos (by simp; omega), if_pos (by simp; omega), if_pos (by simp; omega), if_pos (by simp; omega), if_pos (by simp; omega)]
    by_cases h00 : a0 = 0
    · rw [if_pos h00, if_pos h00, if_pos (by simp; omega), if_pos (by simp; omega), if_pos (by simp; omega)]
      simp
    · rw [if_neg h00, if_neg h00, if_pos (by simp; omega), if_pos (by simp; omega)]
      simp
theorem awake_f (k : Nat) (hk : 40 < k) : shibbolethlaw05_awake.f k = some true := by
  unfold shibbolethlaw05_awake.f
  rw [if_pos (by omega), write_f _ _ _ _ _ _ _ _ _ k hk, if_pos (by decide)]
  simp only [Option.bind_some]
  decide
end Go.Proofs.YtbcleckapamicaaDoor.HeP
namespace Go.Proofs.YtbcleckapamicaaDoor.Pure
open Go.RowKit Go.Proofs.YtbcleckapamicaaDoor.QHe Go.Proofs.YtbcleckapamicaaDoor.Vn Go.Proofs.YtbcleckapamicaaDoor.HeP Go.Proofs.YtbcleckapamicaaDoorW.PrintWords
set_option linter.unusedVariables false
set_option linter.unusedSimpArgs false
theorem HeaderWrites : headerWritesPrm.Pure := by
  rintro ⟨a0, a1, l2, l3, l4, a5, a6, a7⟩ n _ _
  refine ⟨3000, ?_⟩
  unfold shibbolethlaw05_HeaderWrites.f
  simp only []
  have hl : shibbolethlaw05_light.f a0 a1 l2 l3 l4 a5 a6 a7 = some (decide ((l2.length : Int) ≤ 100 ∧ (l3.length : Int) ≤ 100 ∧ (l4.length : Int) ≤ 200)) := by
    unfold shibbolethlaw05_light.f
    repeat' split
    all_goals first | exact false_decide (by omega) | exact some_decide (by omega)
  rw [hl]
  simp only [Option.bind_some]
  by_cases hg : (l2.length : Int) ≤ 100 ∧ (l3.length : Int) ≤ 100 ∧ (l4.length : Int) ≤ 200
  · rw [decide_eq_true hg, if_pos rfl]
    have ho : shibbolethlaw05_of.f a0 a1 l2 l3 l4 a5 a6 a7 = some (a0, a1, l2, l3, l4, a5, a6, a7) := by
      unfold shibbolethlaw05_of.f
      simp only [Option.bind_some, List.length_nil, List.nil_append]
      rw [if_pos (by omega), if_pos (by omega), if_pos (by omega)]
    rw [ho]
    simp only [Option.bind_some]
    rw [write_f _ _ _ _ _ _ _ _ _ 3000 (by omega), right_f _ _ _ _ _ _ _ _ 3000 (by omega), Right_f _ _ _ _ _ _ _ _ 3000 (by omega)]
    simp only [Option.bind_some, bne_self_eq_false]
    rw [if_neg (by decide)]
    by_cases h : hright a0 a1 l2 l3 l4 a5 a6 a7
    · rw [decide_eq_true h, if_pos rfl]
      by_cases h0 : n < 0
      · rw [if_pos h0, if_neg (by omega)]
        simp [shibbolethlaw05_HeaderWrites.j0, awake_f 2999 (by omega)]
      rw [if_neg h0]
      by_cases h1 : n > 16384
      · rw [decide_eq_true h1, if_neg (by omega)]
        simp [shibbolethlaw05_HeaderWrites.j0, awake_f 2999 (by omega)]
      · rw [decide_eq_false h1, if_pos ⟨h, by omega, by omega⟩]
        have hlen := hbytes_len a0 a1 l2 l3 l4 a5 a6 a7 n h
        simp only [shibbolethlaw05_HeaderWrites.j0]
        rw [if_neg (by decide), Write_f _ _ _ _ _ _ _ _ _ 2999 (by omega) h (by omega) (by omega)]
        simp only [Option.bind_some]
        rw [same_f _ (by omega) 2999 (by omega)]
        simp [awake_f 2999 (by omega)]
    · rw [decide_eq_false h, if_neg (by decide), if_neg (by simp [h])]
      simp [shibbolethlaw05_HeaderWrites.j0, awake_f 2999 (by omega)]
  · rw [decide_eq_false hg, if_neg (by decide)]
end Go.Proofs.YtbcleckapamicaaDoor.Pure
namespace Go.Proofs.YtbcleckapamicaaDoor.Tab
open Go.RowKit Go.Proofs.YtbcleckapamicaaDoor.Gv
set_option linter.unusedVariables false
def laid {H : Type} : List (String × DataW H) := [((Rows.varintWritesRow.named).getD 0 default, Rows.laid_math_bits_deBruijn32tab), ((Rows.varintWritesRow.named).getD 1 default, Rows.laid_math_bits_deBruijn64tab)]
theorem g64 : Tryd.prog.globalNamed ((Rows.varintWritesRow.named).getD 1 default) = some 1 := by kernel_rfl
theorem ty64 : (Tryd.prog.globals[1]?).map (·.type) = some 146 := by kernel_rfl
theorem of_laid {W : World} (h : laidMet Tryd.prog laid W) : TB W := by
  have h2 : laidMet Tryd.prog [((Rows.varintWritesRow.named).getD 1 default, Lib.tabData .u8 tab64)] W := h.tail
  have ht : Lib.TabIs Tryd.prog W ((Rows.varintWritesRow.named).getD 1 default) .u8 tab64 := Lib.tabIs_of_head g64 ty64 Tryd.underlying146 Tryd.underlying5 (by kernel_rfl) (by kernel_rfl) h2
  exact ⟨fun i hi => ht.cell g64 i hi⟩
def tab32 : List Int := [0, 1, 28, 2, 29, 14, 24, 3, 30, 22, 20, 15, 25, 17, 4, 8, 31, 27, 13, 23, 21, 19, 16, 7, 26, 12, 18, 6, 11, 5, 10, 9]
noncomputable def laidWorld (os : Os) : World :=
  let w0 := World.holding Tryd.prog os ⟨#[], #[], []⟩
  { w0 with heap := (w0.heap.modify 0 fun
      | .cells _ t frozen => .cells (tab32.map fun z => Value.int .u8 z).toArray t frozen
      | o => o).modify 1 fun
      | .cells _ t frozen => .cells (tab64.map fun z => Value.int .u8 z).toArray t frozen
      | o => o }
set_option maxRecDepth 100000 in
theorem laidWorld_met (os : Os) (args : Array Value) : laidMet Tryd.prog laid ((laidWorld os).forCall (fun _ _ => 0) ⟨#[], args, []⟩).memory :=
  laidMet_of_run' 8 (by kernel_rfl) (by kernel_rfl)
end Go.Proofs.YtbcleckapamicaaDoor.Tab
