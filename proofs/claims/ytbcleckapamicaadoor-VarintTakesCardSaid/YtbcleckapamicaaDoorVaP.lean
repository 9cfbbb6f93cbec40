/- What the printed functions of the varint group come to. -/
import Derived.Test.YtbcleckapamicaaDoorQVax2
import Derived.Test.YtbcleckapamicaaDoorQVax3
import Derived.Test.YtbcleckapamicaaDoorVn
namespace Go.Proofs.YtbcleckapamicaaDoor.VaP
open Go.RowKit Go.Proofs.YtbcleckapamicaaDoorW.PrintWords Go.Proofs.YtbcleckapamicaaDoorW.PrintLast Go.Proofs.YtbcleckapamicaaDoorW.PrintMore Go.Proofs.YtbcleckapamicaaDoor.QVa Go.Proofs.YtbcleckapamicaaDoor.Vn
open Go.Proofs.YtbcleckapamicaaDoor.Gv (bits_TrailingZeros.f slices_Clone_byte_byte.f varint_Size.f varint_Read.f)
set_option linter.unusedVariables false
set_option linter.unusedSimpArgs false

theorem rd_nat (l : List Int) (i : Nat) (h : i < l.length) : rd l (i : Int) = l[i] := by
  simp [rd, List.getD_eq_getElem?_getD, List.getElem?_eq_getElem h]

theorem same_l (l : List Int) (hl : l.length ≤ 9223372036854775806) : ∀ (d i k : Nat), i + d = l.length → d < k → shibbolethlaw01_same.l0 k l l (i : Int) = some true := by
  intro d
  induction d with
  | zero =>
    intro i k hi hk
    obtain ⟨k, rfl⟩ : ∃ m, k = m + 1 := ⟨k - 1, by omega⟩
    simp only [shibbolethlaw01_same.l0]
    rw [if_neg (by omega)]
  | succ d ih =>
    intro i k hi hk
    obtain ⟨k, rfl⟩ : ∃ m, k = m + 1 := ⟨k - 1, by omega⟩
    simp only [shibbolethlaw01_same.l0]
    rw [if_pos (by omega), if_pos (by omega), if_pos (by omega), if_pos trivial, show wrap64 ((i : Int) + 1) = ((i + 1 : Nat) : Int) from by unfold wrap64; omega]
    exact ih (i + 1) k (by omega) (by omega)
theorem same_f (l : List Int) (hl : l.length ≤ 9223372036854775806) (k : Nat) (hk : l.length < k) : shibbolethlaw01_same.f k l l = some true := by
  unfold shibbolethlaw01_same.f
  rw [if_pos rfl]
  exact same_l l hl l.length 0 k (by omega) hk

theorem size_f (n : Int) (k : Nat) (hk : 0 < k) : shibbolethref01_Size.f k n = some (vsize n) := by
  obtain ⟨k, rfl⟩ : ∃ m, k = m + 1 := ⟨k - 1, by omega⟩
  unfold shibbolethref01_Size.f vsize
  simp only [shibbolethref01_Size.j0]
  by_cases h1 : n < 0
  · simp [h1]
  · by_cases h2 : 4611686018427387903 < n
    · simp [h1, h2]
    · by_cases h3 : n < 64
      · simp [h1, h2, h3]
      · by_cases h4 : n < 16384
        · simp [h1, h2, h3, h4]
        · by_cases h5 : n < 1073741824
          · simp [h1, h2, h3, h4, h5]
          · simp [h1, h2, h3, h4, h5]

theorem or_mark (a : Int) (i m : Nat) (h0 : 0 ≤ a) (ha : a < 2 ^ i) (hm : m * 2 ^ i < 18446744073709551616) (hi : (2 : Int) ^ i ≤ 18446744073709551616) : Go.bits .or .u64 a ((m * 2 ^ i : Nat) : Int) = a + ((m * 2 ^ i : Nat) : Int) := by
  rw [u64_or a _ h0 (by omega) (by omega) (by omega), Int.toNat_natCast]
  have hc : ((a.toNat : Nat) : Int) < ((2 ^ i : Nat) : Int) := by rw [Int.toNat_of_nonneg h0]; simpa using ha
  have h := Nat.shiftLeft_add_eq_or_of_lt (i := i) (b := a.toNat) (Int.ofNat_lt.1 hc) m
  rw [Nat.shiftLeft_eq] at h
  rw [Nat.or_comm, ← h]
  omega

theorem shr_0 (x : Int) : shr .u64 x 0 = x := by simp [shr]
theorem shr_8 (x : Int) : shr .u64 x 8 = x / 256 := by simp [shr, IntKind.bits]
theorem shr_16 (x : Int) : shr .u64 x 16 = x / 65536 := by simp [shr, IntKind.bits]
theorem shr_24 (x : Int) : shr .u64 x 24 = x / 16777216 := by simp [shr, IntKind.bits]
theorem shr_32 (x : Int) : shr .u64 x 32 = x / 4294967296 := by simp [shr, IntKind.bits]
theorem shr_40 (x : Int) : shr .u64 x 40 = x / 1099511627776 := by simp [shr, IntKind.bits]
theorem shr_48 (x : Int) : shr .u64 x 48 = x / 281474976710656 := by simp [shr, IntKind.bits]
theorem shr_56 (x : Int) : shr .u64 x 56 = x / 72057594037927936 := by simp [shr, IntKind.bits]

/-- The rounds of varint.Append. -/
theorem append_step (l : List Int) (x : Int) (j k : Nat) (hj : j ≤ 7) (hl : l.length < 140737488355328) : varint_Append.l0 (k + 1) l x (j : Int) = varint_Append.l0 k (l ++ [shr .u64 x ((8 * j : Nat) : Int) % 256]) x ((j : Int) - 1) := by
  simp only [varint_Append.l0]
  have e1 : wrap64 (8 * (j : Int)) = ((8 * j : Nat) : Int) := by unfold wrap64; omega
  have e2 : wrap64 ((j : Int) - 1) = (j : Int) - 1 := by unfold wrap64; omega
  rw [e1, e2, if_pos (by omega), if_pos (by omega), if_pos hl]
theorem append_end (l : List Int) (x : Int) (k : Nat) : varint_Append.l0 (k + 1) l x (-1) = some l := by
  simp only [varint_Append.l0]
  rw [if_neg (by omega)]

theorem append_f (l : List Int) (n : Int) (hl : l.length ≤ 1000000) (k : Nat) (hk : 9 < k) : varint_Append.f k l n = some (l ++ vbytes n) := by
  obtain ⟨k, rfl⟩ : ∃ m, k = m + 9 := ⟨k - 9, by omega⟩
  unfold varint_Append.f slices_Clone_byte_byte.f varint_Size.f
  rw [if_pos (by omega)]
  simp only [Option.bind_some]
  rcases vsize_cases n with ⟨hn, h, e⟩ | ⟨hn, h, e⟩ | ⟨hn, h, e⟩ | ⟨hn, h, e⟩ | ⟨hn, h, e⟩ <;> rw [h, e]
  · simp
  · have w1 : IntKind.u64.wrap n = n := by simp [IntKind.wrap, IntKind.bits, IntKind.signed]; omega
    have w2 : shl .u64 (IntKind.u64.wrap 0) (wrap64 ((wrap64 (8 * 1)) - 2)) = ((0 * 2 ^ 6 : Nat) : Int) := by decide +kernel
    have w3 : bits_TrailingZeros.f (IntKind.u64.wrap 1) = some 0 := by decide +kernel
    have w4 : wrap64 (1 - 1) = ((0 : Nat) : Int) := by decide +kernel
    rw [if_neg (by decide), w3]
    simp only [Option.bind_some]
    rw [if_pos (by decide +kernel), w1, w2, w4, or_mark n 6 0 hn.1 (by omega) (by omega) (by decide), show (k + 9) = (k + 7) + 1 + 1 from rfl, append_step _ _ 0 _ (by omega) (by omega), show (((0 : Nat) : Int) - 1) = -1 from rfl, append_end]
    congr 2
    simp only [show ((8 * 0 : Nat) : Int) = 0 from rfl, shr_0]
    congr 1; omega
  · have w1 : IntKind.u64.wrap n = n := by simp [IntKind.wrap, IntKind.bits, IntKind.signed]; omega
    have w2 : shl .u64 (IntKind.u64.wrap 1) (wrap64 ((wrap64 (8 * 2)) - 2)) = ((1 * 2 ^ 14 : Nat) : Int) := by decide +kernel
    have w3 : bits_TrailingZeros.f (IntKind.u64.wrap 2) = some 1 := by decide +kernel
    have w4 : wrap64 (2 - 1) = ((1 : Nat) : Int) := by decide +kernel
    rw [if_neg (by decide), w3]
    simp only [Option.bind_some]
    rw [if_pos (by decide +kernel), w1, w2, w4, or_mark n 14 1 (by omega) (by omega) (by omega) (by decide), show (k + 9) = (k + 6) + 1 + 1 + 1 from rfl, append_step _ _ 1 _ (by omega) (by omega), show (((1 : Nat) : Int) - 1) = ((0 : Nat) : Int) from rfl,
      append_step _ _ 0 _ (by omega) (by simp; omega), show (((0 : Nat) : Int) - 1) = -1 from rfl, append_end]
    simp only [show ((8 * 0 : Nat) : Int) = 0 from rfl, show ((8 * 1 : Nat) : Int) = 8 from rfl, shr_0, shr_8, List.append_assoc, List.cons_append, List.nil_append]
    congr 2
    simp only [List.cons.injEq, and_true]
    omega
  · have w1 : IntKind.u64.wrap n = n := by simp [IntKind.wrap, IntKind.bits, IntKind.signed]; omega
    have w2 : shl .u64 (IntKind.u64.wrap 2) (wrap64 ((wrap64 (8 * 4)) - 2)) = ((2 * 2 ^ 30 : Nat) : Int) := by decide +kernel
    have w3 : bits_TrailingZeros.f (IntKind.u64.wrap 4) = some 2 := by decide +kernel
    have w4 : wrap64 (4 - 1) = ((3 : Nat) : Int) := by decide +kernel
    rw [if_neg (by decide), w3]
    simp only [Option.bind_some]
    rw [if_pos (by decide +kernel), w1, w2, w4, or_mark n 30 2 (by omega) (by omega) (by omega) (by decide), show (k + 9) = (k + 4) + 1 + 1 + 1 + 1 + 1 from rfl, append_step _ _ 3 _ (by omega) (by omega), show (((3 : Nat) : Int) - 1) = ((2 : Nat) : Int) from rfl,
      append_step _ _ 2 _ (by omega) (by simp; omega), show (((2 : Nat) : Int) - 1) = ((1 : Nat) : Int) from rfl, append_step _ _ 1 _ (by omega) (by simp; omega), show (((1 : Nat) : Int) - 1) = ((0 : Nat) : Int) from rfl,
      append_step _ _ 0 _ (by omega) (by simp; omega), show (((0 : Nat) : Int) - 1) = -1 from rfl, append_end]
    simp only [show ((8 * 0 : Nat) : Int) = 0 from rfl, show ((8 * 1 : Nat) : Int) = 8 from rfl, show ((8 * 2 : Nat) : Int) = 16 from rfl, show ((8 * 3 : Nat) : Int) = 24 from rfl, shr_0, shr_8, shr_16, shr_24, List.append_assoc, List.cons_append, List.nil_append]
    congr 2
    simp only [List.cons.injEq, and_true]
    omega
  · have w1 : IntKind.u64.wrap n = n := by simp [IntKind.wrap, IntKind.bits, IntKind.signed]; omega
    have w2 : shl .u64 (IntKind.u64.wrap 3) (wrap64 ((wrap64 (8 * 8)) - 2)) = ((3 * 2 ^ 62 : Nat) : Int) := by decide +kernel
    have w3 : bits_TrailingZeros.f (IntKind.u64.wrap 8) = some 3 := by decide +kernel
    have w4 : wrap64 (8 - 1) = ((7 : Nat) : Int) := by decide +kernel
    rw [if_neg (by decide), w3]
    simp only [Option.bind_some]
    rw [if_pos (by decide +kernel), w1, w2, w4, or_mark n 62 3 (by omega) (by omega) (by omega) (by decide), show (k + 9) = k + 1 + 1 + 1 + 1 + 1 + 1 + 1 + 1 + 1 from rfl, append_step _ _ 7 _ (by omega) (by omega), show (((7 : Nat) : Int) - 1) = ((6 : Nat) : Int) from rfl,
      append_step _ _ 6 _ (by omega) (by simp; omega), show (((6 : Nat) : Int) - 1) = ((5 : Nat) : Int) from rfl, append_step _ _ 5 _ (by omega) (by simp; omega), show (((5 : Nat) : Int) - 1) = ((4 : Nat) : Int) from rfl,
      append_step _ _ 4 _ (by omega) (by simp; omega), show (((4 : Nat) : Int) - 1) = ((3 : Nat) : Int) from rfl, append_step _ _ 3 _ (by omega) (by simp; omega), show (((3 : Nat) : Int) - 1) = ((2 : Nat) : Int) from rfl,
      append_step _ _ 2 _ (by omega) (by simp; omega), show (((2 : Nat) : Int) - 1) = ((1 : Nat) : Int) from rfl, append_step _ _ 1 _ (by omega) (by simp; omega), show (((1 : Nat) : Int) - 1) = ((0 : Nat) : Int) from rfl,
      append_step _ _ 0 _ (by omega) (by simp; omega), show (((0 : Nat) : Int) - 1) = -1 from rfl, append_end]
    simp only [show ((8 * 0 : Nat) : Int) = 0 from rfl, show ((8 * 1 : Nat) : Int) = 8 from rfl, show ((8 * 2 : Nat) : Int) = 16 from rfl, show ((8 * 3 : Nat) : Int) = 24 from rfl, show ((8 * 4 : Nat) : Int) = 32 from rfl, show ((8 * 5 : Nat) : Int) = 40 from rfl, show ((8 * 6 : Nat) : Int) = 48 from rfl, show ((8 * 7 : Nat) : Int) = 56 from rfl,
      shr_0, shr_8, shr_16, shr_24, shr_32, shr_40, shr_48, shr_56, List.append_assoc, List.cons_append, List.nil_append]
    congr 2
    simp only [List.cons.injEq, and_true]
    omega

theorem bytes_l0 (n : Int) (s : Nat) (hs : s ≤ 8) : ∀ (d j k : Nat), j + d = s → shibbolethref01_Bytes.l0 (k + d + 1) n (s : Int) (List.replicate j 0) (j : Int) = shibbolethref01_Bytes.l1 k (s : Int) (List.replicate s 0) n ((s : Int) - 1) := by
  intro d
  induction d with
  | zero =>
    intro j k hj
    obtain rfl : j = s := by omega
    simp only [shibbolethref01_Bytes.l0]
    rw [if_neg (by omega), show wrap64 ((j : Int) - 1) = (j : Int) - 1 from by unfold wrap64; omega]
  | succ d ih =>
    intro j k hj
    rw [show k + (d + 1) + 1 = (k + d + 1) + 1 from by omega]
    rw [shibbolethref01_Bytes.l0]
    rw [if_pos (by omega), if_pos (by simp; omega), show wrap64 ((j : Int) + 1) = ((j + 1 : Nat) : Int) from by unfold wrap64; omega, show List.replicate j (0 : Int) ++ [0] = List.replicate (j + 1) 0 from by rw [List.replicate_succ']]
    exact ih (j + 1) k (by omega)
theorem bytes_step (s : Int) (l : List Int) (x : Int) (i k : Nat) (hi : i < l.length) (hl : l.length ≤ 8) (h0 : 0 ≤ x) (hx : x < 4611686018427387904) : shibbolethref01_Bytes.l1 (k + 1) s l x (i : Int) = shibbolethref01_Bytes.l1 k s (l.set i (x % 256)) (x / 256) ((i : Int) - 1) := by
  rw [shibbolethref01_Bytes.l1]
  rw [if_pos (by omega), if_pos (by omega), if_pos (by omega), Int.toNat_natCast, show wrap64 ((i : Int) - 1) = (i : Int) - 1 from by unfold wrap64; omega, Int.tmod_eq_emod_of_nonneg h0, Int.tdiv_eq_ediv_of_nonneg h0,
    show x % 256 % 256 = x % 256 from by omega, show wrap64 (x / 256) = x / 256 from by unfold wrap64; omega]
theorem bytes_end (s : Int) (l : List Int) (x : Int) (k : Nat) (hl : 0 < l.length) : shibbolethref01_Bytes.l1 (k + 1) s l x (-1) = some (if s = 2 then l.set 0 ((rd l 0 + 64) % 256) else if s = 4 then l.set 0 ((rd l 0 + 128) % 256) else if s = 8 then l.set 0 ((rd l 0 + 192) % 256) else l) := by
  rw [shibbolethref01_Bytes.l1]
  have hp : 0 < (l.length : Int) := by omega
  rw [if_neg (by omega)]
  simp only [if_pos hp, Int.toNat_zero]
  split
  · rfl
  · split
    · rfl
    · split <;> rfl
theorem bytes_f (n : Int) (k : Nat) (hk : 30 < k) : shibbolethref01_Bytes.f k n = some (vbytes n) := by
  obtain ⟨k, rfl⟩ : ∃ m, k = m + 30 := ⟨k - 30, by omega⟩
  unfold shibbolethref01_Bytes.f
  rw [size_f n _ (by omega)]
  simp only [Option.bind_some]
  rcases vsize_cases n with ⟨hn, h, e⟩ | ⟨hn, h, e⟩ | ⟨hn, h, e⟩ | ⟨hn, h, e⟩ | ⟨hn, h, e⟩ <;> rw [h, e]
  · have := bytes_l0 n 0 (by omega) 0 0 (k + 29) rfl
    rw [show k + 30 = k + 29 + 0 + 1 from rfl]
    refine Eq.trans this ?_
    rw [shibbolethref01_Bytes.l1]; simp
  · have := bytes_l0 n 1 (by omega) 1 0 (k + 28) rfl
    rw [show k + 30 = k + 28 + 1 + 1 from rfl]
    refine Eq.trans this ?_
    rw [show (((1 : Nat) : Int) - 1) = ((0 : Nat) : Int) from rfl, bytes_step _ _ _ 0 _ (by simp) (by simp) (by omega) (by omega), show (((0 : Nat) : Int) - 1) = -1 from rfl, bytes_end _ _ _ _ (by simp)]
    simp; omega
  · have := bytes_l0 n 2 (by omega) 2 0 (k + 27) rfl
    rw [show k + 30 = k + 27 + 2 + 1 from rfl]
    refine Eq.trans this ?_
    rw [show (((2 : Nat) : Int) - 1) = ((1 : Nat) : Int) from rfl, bytes_step _ _ _ 1 _ (by simp) (by simp) (by omega) (by omega), show (((1 : Nat) : Int) - 1) = ((0 : Nat) : Int) from rfl, bytes_step _ _ _ 0 _ (by simp) (by simp) (by omega) (by omega), show (((0 : Nat) : Int) - 1) = -1 from rfl, bytes_end _ _ _ _ (by simp)]
    simp [rd, List.replicate]; omega
  · have := bytes_l0 n 4 (by omega) 4 0 (k + 25) rfl
    rw [show k + 30 = k + 25 + 4 + 1 from rfl]
    refine Eq.trans this ?_
    rw [show (((4 : Nat) : Int) - 1) = ((3 : Nat) : Int) from rfl, bytes_step _ _ _ 3 _ (by simp) (by simp) (by omega) (by omega), show (((3 : Nat) : Int) - 1) = ((2 : Nat) : Int) from rfl, bytes_step _ _ _ 2 _ (by simp) (by simp) (by omega) (by omega),
      show (((2 : Nat) : Int) - 1) = ((1 : Nat) : Int) from rfl, bytes_step _ _ _ 1 _ (by simp) (by simp) (by omega) (by omega), show (((1 : Nat) : Int) - 1) = ((0 : Nat) : Int) from rfl, bytes_step _ _ _ 0 _ (by simp) (by simp) (by omega) (by omega), show (((0 : Nat) : Int) - 1) = -1 from rfl, bytes_end _ _ _ _ (by simp)]
    simp [rd, List.replicate]; omega
  · have := bytes_l0 n 8 (by omega) 8 0 (k + 21) rfl
    rw [show k + 30 = k + 21 + 8 + 1 from rfl]
    refine Eq.trans this ?_
    rw [show (((8 : Nat) : Int) - 1) = ((7 : Nat) : Int) from rfl, bytes_step _ _ _ 7 _ (by simp) (by simp) (by omega) (by omega), show (((7 : Nat) : Int) - 1) = ((6 : Nat) : Int) from rfl, bytes_step _ _ _ 6 _ (by simp) (by simp) (by omega) (by omega),
      show (((6 : Nat) : Int) - 1) = ((5 : Nat) : Int) from rfl, bytes_step _ _ _ 5 _ (by simp) (by simp) (by omega) (by omega), show (((5 : Nat) : Int) - 1) = ((4 : Nat) : Int) from rfl, bytes_step _ _ _ 4 _ (by simp) (by simp) (by omega) (by omega),
      show (((4 : Nat) : Int) - 1) = ((3 : Nat) : Int) from rfl, bytes_step _ _ _ 3 _ (by simp) (by simp) (by omega) (by omega), show (((3 : Nat) : Int) - 1) = ((2 : Nat) : Int) from rfl, bytes_step _ _ _ 2 _ (by simp) (by simp) (by omega) (by omega),
      show (((2 : Nat) : Int) - 1) = ((1 : Nat) : Int) from rfl, bytes_step _ _ _ 1 _ (by simp) (by simp) (by omega) (by omega), show (((1 : Nat) : Int) - 1) = ((0 : Nat) : Int) from rfl, bytes_step _ _ _ 0 _ (by simp) (by simp) (by omega) (by omega), show (((0 : Nat) : Int) - 1) = -1 from rfl, bytes_end _ _ _ _ (by simp)]
    simp [rd, List.replicate]; omega

/-- The document's reading, its two loops. -/
theorem read_l1 (l : List Int) (hB : Bytes l) (hl : l.length ≤ 100000) (q : Nat) (hq : q < 4) (hlen : 2 ^ q ≤ l.length) (hpos : 0 < l.length) : ∀ (d i k : Nat), 1 ≤ i → i + d = 2 ^ q → d + 1 < k →
    shibbolethref01_Read.l1 k l ((2 ^ q : Nat) : Int) (num (rd l 0 % 64) ((l.take i).drop 1)) (i : Int) = some (if vsize (num (rd l 0 % 64) ((l.take (2 ^ q)).drop 1)) = ((2 ^ q : Nat) : Int) then (num (rd l 0 % 64) ((l.take (2 ^ q)).drop 1), ((2 ^ q : Nat) : Int), 0) else (0, 0, 3)) := by
  have h8 : 2 ^ q ≤ 8 := by
    have : ∀ j : Fin 4, 2 ^ (j : Nat) ≤ 8 := by decide
    exact this ⟨q, hq⟩
  have hb0 : 0 ≤ rd l 0 ∧ rd l 0 ≤ 255 := bytes_rd hB 0 hpos
  intro d
  induction d with
  | zero =>
    intro i k h1 hi hk
    obtain ⟨k, rfl⟩ : ∃ m, k = m + 1 := ⟨k - 1, by omega⟩
    have e : i = 2 ^ q := by omega
    rw [shibbolethref01_Read.l1, if_neg (by omega), size_f _ _ (by omega), e]
    simp only [Option.bind_some]
    split <;> rfl
  | succ d ih =>
    intro i k h1 hi hk
    obtain ⟨k, rfl⟩ : ∃ m, k = m + 1 := ⟨k - 1, by omega⟩
    have hil : i < l.length := by omega
    have hbi := bytes_rd hB i hil
    have hsn : (l.take (i + 1)).drop 1 = (l.take i).drop 1 ++ [rd l i] := by
      rw [List.take_succ_eq_append_getElem hil, List.drop_append_of_le_length (by rw [List.length_take]; omega), rd_nat l i hil]
    have hr := num_range (rd l 0 % 64) (by omega) (by omega) ((l.take i).drop 1) ((hB.take _).drop _) ((l.take i).drop 1).length (Nat.le_refl _)
    rw [List.take_of_length_le (Nat.le_refl _)] at hr
    have hp := pow256 ((l.take i).drop 1).length (by rw [List.length_drop, List.length_take]; omega)
    rw [shibbolethref01_Read.l1, if_pos (by omega), if_pos (by omega), if_pos (by omega)]
    rw [show wrap64 (wrap64 (256 * num (rd l 0 % 64) ((l.take i).drop 1)) + wrap64 (rd l i)) = num (rd l 0 % 64) ((l.take (i + 1)).drop 1) from by rw [hsn, num_snoc]; unfold wrap64; omega,
      show wrap64 ((i : Int) + 1) = ((i + 1 : Nat) : Int) from by unfold wrap64; omega]
    exact ih (i + 1) k (by omega) (by omega) (by omega)
theorem read_l0 (l : List Int) (hB : Bytes l) (hl : l.length ≤ 100000) (hpos : 0 < l.length) (q : Nat) (hq : q < 4) (hqq : rd l 0 / 64 = (q : Int)) : ∀ (d i k : Nat), i + d = q → d + 20 < k →
    shibbolethref01_Read.l0 k l ((2 ^ i : Nat) : Int) (i : Int) = some (vread l) := by
  have hb0 : 0 ≤ rd l 0 ∧ rd l 0 ≤ 255 := bytes_rd hB 0 hpos
  have w0 : wrap64 (rd l 0) = rd l 0 := by unfold wrap64; omega
  have w1 : wrap64 (Int.tdiv (rd l 0) 64) = (q : Int) := by rw [Int.tdiv_eq_ediv_of_nonneg hb0.1, hqq]; unfold wrap64; omega
  have hv : vread l = if l.length < 2 ^ q then (0, 0, 2) else if vsize (num (rd l 0 % 64) ((l.take (2 ^ q)).drop 1)) = ((2 ^ q : Nat) : Int) then (num (rd l 0 % 64) ((l.take (2 ^ q)).drop 1), ((2 ^ q : Nat) : Int), 0) else (0, 0, 3) := by
    unfold vread
    rw [if_neg (by omega), hqq, Int.toNat_natCast]
  intro d
  induction d with
  | zero =>
    intro i k hi hk
    obtain ⟨k, rfl⟩ : ∃ m, k = m + 1 := ⟨k - 1, by omega⟩
    obtain rfl : i = q := by omega
    rw [shibbolethref01_Read.l0, if_pos (by omega), w0, w1, if_neg (by omega), hv]
    by_cases hs : l.length < 2 ^ i
    · rw [if_pos (by omega), if_pos hs]
    · rw [if_neg (by omega), if_neg hs, Int.tmod_eq_emod_of_nonneg hb0.1]
      have h1 : 1 ≤ 2 ^ i := Nat.one_le_two_pow
      have h8 : 2 ^ i ≤ 8 := by
        have : ∀ j : Fin 4, 2 ^ (j : Nat) ≤ 8 := by decide
        exact this ⟨i, hq⟩
      have h := read_l1 l hB hl i hq (by omega) hpos (2 ^ i - 1) 1 k (Nat.le_refl _) (by omega) (by omega)
      rw [show (l.take 1).drop 1 = [] from by rw [List.drop_eq_nil_iff, List.length_take]; omega] at h
      exact h
  | succ d ih =>
    intro i k hi hk
    obtain ⟨k, rfl⟩ : ∃ m, k = m + 1 := ⟨k - 1, by omega⟩
    have h8 : 2 ^ i ≤ 8 := by
      have : ∀ j : Fin 4, 2 ^ (j : Nat) ≤ 8 := by decide
      exact this ⟨i, by omega⟩
    rw [shibbolethref01_Read.l0, if_pos (by omega), w0, w1, if_pos (by omega), show wrap64 (((2 ^ i : Nat) : Int) * 2) = ((2 ^ (i + 1) : Nat) : Int) from by rw [Nat.pow_succ]; unfold wrap64; omega,
      show wrap64 ((i : Int) + 1) = ((i + 1 : Nat) : Int) from by unfold wrap64; omega]
    exact ih (i + 1) k (by omega) (by omega)
theorem read_f (l : List Int) (hB : Bytes l) (hl : l.length ≤ 100000) (k : Nat) (hk : 30 < k) : shibbolethref01_Read.f k l = some (vread l) := by
  unfold shibbolethref01_Read.f
  by_cases h0 : (l.length : Int) = 0
  · rw [if_pos h0]; unfold vread; rw [if_pos (by omega)]
  · rw [if_neg h0]
    have hb0 : 0 ≤ rd l 0 ∧ rd l 0 ≤ 255 := bytes_rd hB 0 (by omega)
    obtain ⟨q, hq⟩ : ∃ q : Nat, rd l 0 / 64 = (q : Int) := ⟨(rd l 0 / 64).toNat, by omega⟩
    exact read_l0 l hB hl (by omega) q (by omega) hq q 0 k (by omega) (by omega)
theorem vread_f (l : List Int) (hB : Bytes l) : varint_Read.f l = some (vread l) := by unfold varint_Read.f; rw [if_pos hB]
theorem awake_f (k : Nat) (hk : 40 < k) : shibbolethlaw01_awake.f k = some true := by
  unfold shibbolethlaw01_awake.f
  rw [vread_f _ (by decide), append_f [] 63 (by simp) k (by omega), append_f [] 16384 (by simp) k (by omega)]
  simp only [Option.bind_some, List.nil_append]
  rw [show vbytes 63 = [63] from by decide +kernel, show vbytes 16384 = [128, 0, 64, 0] from by decide +kernel, same_f _ (by simp) k (by simp; omega), same_f _ (by simp) k (by simp; omega)]
  decide +kernel
theorem bytes_of_wf {l : List Int} (h : ∀ x ∈ l, (Lit.int .u8 x).wf = true) : Bytes l := fun x hx => by
  have := h x hx
  simp [Lit.wf, IntKind.min, IntKind.max, IntKind.signed, IntKind.bits] at this
  exact ⟨by omega, by omega⟩
end Go.Proofs.YtbcleckapamicaaDoor.VaP
