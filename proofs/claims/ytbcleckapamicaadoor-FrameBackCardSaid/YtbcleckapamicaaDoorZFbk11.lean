/- A part of the proof of the law FrameBack: QVax2, VaP, FrP, Fd5, Fd6. -/
import Derived.Test.YtbcleckapamicaaDoorZFbk02
import Derived.Test.YtbcleckapamicaaDoorZFbk10
import Derived.MapKept
import Derived.Deep.WholeRow
namespace Go.Proofs.YtbcleckapamicaaDoor.QVa
open Go.RowKit Go.Proofs.YtbcleckapamicaaDoorW.PrintWords Go.Proofs.YtbcleckapamicaaDoorW.PrintLast Go.Proofs.YtbcleckapamicaaDoorW.PrintMore
attribute [local go_sem] max2_int min2_int max_two min_two max_three min_three max_four min_four
set_option linter.unusedVariables false
set_option linter.unusedSimpArgs false
set_option hygiene false
local macro "py240_" : term => `((by first | rfl | (simp; done) | (simp [*]; done)))
local macro "py241_" : term => `((by first | (with_reducible assumption) | assumption))
local macro "ly240_" : tactic => `(tactic| (exact ⟨by first | rfl | (simp; done) | (simp [*]; done), by repeat (first | exact Drawn0.refl _ | apply Drawn0.step)⟩))
set_option hygiene true
mutual
def shibbolethref01_Read.l0 : Nat → List Int → Int → Int → Option (Int × Int × Int)
 | 0, _, _, _ => none
 | k + 1, x0, x5, x6 => if 0 < (x0.length : Int) then (if x6 < (wrap64 (Int.tdiv (wrap64 (rd x0 0)) 64)) then (shibbolethref01_Read.l0 k x0 (wrap64 (x5 * 2)) (wrap64 (x6 + 1))) else (if (x0.length : Int) < x5 then (some (0, 0, 2)) else (shibbolethref01_Read.l1 k x0 x5 (Int.tmod (wrap64 (rd x0 0)) 64) 1))) else (none)
def shibbolethref01_Read.l1 : Nat → List Int → Int → Int → Int → Option (Int × Int × Int)
 | 0, _, _, _, _ => none
 | k + 1, x0, x5, x7, x8 => if x8 < x5 then (if 0 ≤ x8 then (if x8 < (x0.length : Int) then (shibbolethref01_Read.l1 k x0 x5 (wrap64 ((wrap64 (256 * x7)) + (wrap64 (rd x0 x8)))) (wrap64 (x8 + 1))) else (none)) else (none)) else ((shibbolethref01_Size.f k x7).bind fun t171 => (if t171 = x5 then (some (x7, x5, 0)) else (some (0, 0, 3))))
end
def shibbolethref01_Read.f (k : Nat) (l0 : List Int) : Option (Int × Int × Int) := if (l0.length : Int) = 0 then (some (0, 0, 2)) else (shibbolethref01_Read.l0 k l0 1 0)
theorem shibbolethref01_Read.mono_l : ∀ k, (∀ y0 y1 y2, LeO (shibbolethref01_Read.l0 k y0 y1 y2) (shibbolethref01_Read.l0 (k + 1) y0 y1 y2)) ∧ (∀ y0 y1 y2 y3, LeO (shibbolethref01_Read.l1 k y0 y1 y2 y3) (shibbolethref01_Read.l1 (k + 1) y0 y1 y2 y3))
 | 0 => ⟨fun _ _ _ r h => by simp [shibbolethref01_Read.l0] at h, fun _ _ _ _ r h => by simp [shibbolethref01_Read.l1] at h⟩
 | k + 1 => by
  obtain ⟨ih0, ih1⟩ := shibbolethref01_Read.mono_l k
  refine ⟨?_, ?_⟩
  ·intro y0 y1 y2
   unfold shibbolethref01_Read.l0
   repeat' first
   | (with_reducible exact ih0 _ _ _)
   | (with_reducible exact ih1 _ _ _ _)
   | (with_reducible exact shibbolethref01_Size.mono _ _)
   | (with_reducible exact LeO.refl _)
   | (with_reducible exact LeO.none _)
   | (with_reducible refine LeO.ite ?_ ?_)
   | (with_reducible refine LeO.bind ?_ (fun _ => ?_))
   | exact ih0 _ _ _
   | exact ih1 _ _ _ _
   | exact shibbolethref01_Size.mono _ _
   | exact LeO.none _
   | refine LeO.ite ?_ ?_
   | refine LeO.bind ?_ (fun _ => ?_)
  ·intro y0 y1 y2 y3
   unfold shibbolethref01_Read.l1
   repeat' first
   | (with_reducible exact ih0 _ _ _)
   | (with_reducible exact ih1 _ _ _ _)
   | (with_reducible exact shibbolethref01_Size.mono _ _)
   | (with_reducible exact LeO.refl _)
   | (with_reducible exact LeO.none _)
   | (with_reducible refine LeO.ite ?_ ?_)
   | (with_reducible refine LeO.bind ?_ (fun _ => ?_))
   | exact ih0 _ _ _
   | exact ih1 _ _ _ _
   | exact shibbolethref01_Size.mono _ _
   | exact LeO.none _
   | refine LeO.ite ?_ ?_
   | refine LeO.bind ?_ (fun _ => ?_)
theorem shibbolethref01_Read.mono : ∀ a0 k, LeO (shibbolethref01_Read.f k a0) (shibbolethref01_Read.f (k + 1) a0) := by
 intro a0 k
 obtain ⟨ih0, ih1⟩ := shibbolethref01_Read.mono_l k
 unfold shibbolethref01_Read.f
 repeat' first
   | (with_reducible exact ih0 _ _ _)
   | (with_reducible exact ih1 _ _ _ _)
   | (with_reducible exact shibbolethref01_Size.mono _ _)
   | (with_reducible exact LeO.refl _)
   | (with_reducible exact LeO.none _)
   | (with_reducible refine LeO.ite ?_ ?_)
   | (with_reducible refine LeO.bind ?_ (fun _ => ?_))
   | exact ih0 _ _ _
   | exact ih1 _ _ _ _
   | exact shibbolethref01_Size.mono _ _
   | exact LeO.none _
   | refine LeO.ite ?_ ?_
   | refine LeO.bind ?_ (fun _ => ?_)
set_option maxHeartbeats 8000000 in
set_option maxRecDepth 100000 in
theorem shibbolethref01_Read.calls (k : Nat) (A0 : Option Addr) (c0 : Nat) (l0 : List Int) (r1 : Int) (r2 : Int) (r3 : Int) (w : World) (hr0 : Kd.C (Kd.int .u8) w A0 l0.length l0) (hc0 : l0.length ≤ c0) (h : shibbolethref01_Read.f k l0 = some (r1, r2, r3)) :
  Calls Tryd.prog 28 #[.slice A0 l0.length c0] w fun e w' => e = .returned (.tuple #[.int .i64 r1, .int .i64 r2, .int .i64 r3]) ∧ Drawn0 w w' := by
 have HR0 := Aside0.mk hr0
 have HC0 := Aside0.mk hc0
 clear hr0 hc0
 have H : (if (l0.length : Int) = 0 then (some (0, 0, 2)) else (shibbolethref01_Read.l0 k l0 1 0)) = some (r1, r2, r3) := h
 clear h
 by_cases c2 : (l0.length : Int) = 0
 ·rw [if_pos c2] at H
  have c2b0 : ((l0.length : Int) == 0) = true := beq_iff_eq.mpr c2
  have c2b1 : ((l0.length : Int) != 0) = false := bne_eq_false_iff_eq.mpr c2
  clear c2
  simp only [Option.some.injEq, Prod.mk.injEq] at H
  obtain ⟨rfl, rfl, rfl⟩ := H
  go_enter Tryd.func28, Tryd.ntmps28
  go_wp2
  go_ret3
  ly240_
 ·rw [if_neg c2] at H
  have c2b0 : ((l0.length : Int) == 0) = false := beq_eq_false_iff_ne.mpr c2
  have c2b1 : ((l0.length : Int) != 0) = true := bne_iff_ne.mpr c2
  have c2b2 : ¬ (l0 = []) := fun h_ => c2 (by rw [h_]; rfl)
  have H' := Aside0.mk H
  clear H
  go_enter Tryd.func28, Tryd.ntmps28
  go_wp2
  go_loopg [5, 6] k (fun kq v5 v6 w' => ∃ (x5_1 : Int) (x6_1 : Int), v5 = .int .i64 x5_1 ∧ v6 = .int .i64 x6_1 ∧ Aside0 (shibbolethref01_Read.l0 kq l0 x5_1 x6_1 = some (r1, r2, r3)) ∧ Aside0 (kq ≤ k) ∧ Drawn0 w w')
  case atStart => exact ⟨(1), (0), (py240_), (py240_), H', ⟨Nat.le_refl _⟩, by repeat (first | exact Drawn0.refl _ | apply Drawn0.step)⟩
  case round =>
   clear H'
   try clear c2
   try clear c2b0
   try clear c2b1
   try clear c2b2
   try clear p2
   obtain ⟨x5_1, x6_1, rfl, rfl, HA, HK1, ⟨m1, rfl⟩⟩ := hrel
   cases gk with
   | zero => exact absurd HA.out (by simp [shibbolethref01_Read.l0])
   | succ k1 =>
    have H := HA.out
    clear HA
    simp only [shibbolethref01_Read.l0] at H
    by_cases c3 : 0 < (l0.length : Int)
    ·rw [if_pos c3] at H
     have c3b0 : decide (0 < (l0.length : Int)) = true := decide_eq_true c3
     have c3b1 : decide (0 < l0.length) = true := decide_eq_true (by omega)
     clear c3
     by_cases c4 : x6_1 < (wrap64 (Int.tdiv (wrap64 (rd l0 0)) 64))
     ·rw [if_pos c4] at H
      have c4b0 : decide (x6_1 < (wrap64 (Int.tdiv (wrap64 (rd l0 0)) 64))) = true := decide_eq_true c4
      clear c4
      have H' := Aside0.mk H
      clear H
      have p168 : 0 ≤ (0 : Int) := (by omega)
      have q168 : 0 < (l0.length : Int) := of_decide_eq_true (py241_)
      obtain ⟨ad168, e168, hx168_0⟩ := Kd.at_int HR0.out 0 p168 q168
      (try simp only [Int.reduceToNat] at hx168_0)
      cases e168
      have qi168 : (0 < l0.length) = True := eq_true (by omega)
      (try rw [show ((0 : Int)).toNat = 0 from rfl] at hx168_0)
      (try rw [Addr.add_zero'] at hx168_0)
      replace p168 := eq_true p168
      replace q168 := eq_true q168
      go_wp2
      go_roundg k1
      case measure => have := HK1.out; omega
      case rel => exact ⟨(wrap64 (x5_1 * 2)), (wrap64 (x6_1 + 1)), (py240_), (py240_), H', ⟨by have := HK1.out; omega⟩, by repeat (first | exact Drawn0.refl _ | apply Drawn0.step)⟩
     ·rw [if_neg c4] at H
      have c4b0 : decide (x6_1 < (wrap64 (Int.tdiv (wrap64 (rd l0 0)) 64))) = false := decide_eq_false c4
      clear c4
      by_cases c5 : (l0.length : Int) < x5_1
      ·rw [if_pos c5] at H
       have c5b0 : decide ((l0.length : Int) < x5_1) = true := decide_eq_true c5
       clear c5
       simp only [Option.some.injEq, Prod.mk.injEq] at H
       obtain ⟨rfl, rfl, rfl⟩ := H
       have p168 : 0 ≤ (0 : Int) := (by omega)
       have q168 : 0 < (l0.length : Int) := of_decide_eq_true (py241_)
       obtain ⟨ad168, e168, hx168_0⟩ := Kd.at_int HR0.out 0 p168 q168
       (try simp only [Int.reduceToNat] at hx168_0)
       cases e168
       have qi168 : (0 < l0.length) = True := eq_true (by omega)
       (try rw [show ((0 : Int)).toNat = 0 from rfl] at hx168_0)
       (try rw [Addr.add_zero'] at hx168_0)
       replace p168 := eq_true p168
       replace q168 := eq_true q168
       go_wp2
       go_ret3
       ly240_
      ·rw [if_neg c5] at H
       have c5b0 : decide ((l0.length : Int) < x5_1) = false := decide_eq_false c5
       clear c5
       have H' := Aside0.mk H
       clear H
       have p168 : 0 ≤ (0 : Int) := (by omega)
       have q168 : 0 < (l0.length : Int) := of_decide_eq_true (py241_)
       obtain ⟨ad168, e168, hx168_0⟩ := Kd.at_int HR0.out 0 p168 q168
       (try simp only [Int.reduceToNat] at hx168_0)
       cases e168
       have qi168 : (0 < l0.length) = True := eq_true (by omega)
       (try rw [show ((0 : Int)).toNat = 0 from rfl] at hx168_0)
       (try rw [Addr.add_zero'] at hx168_0)
       replace p168 := eq_true p168
       replace q168 := eq_true q168
       have p169 : 0 ≤ (0 : Int) := (by omega)
       have q169 : 0 < (l0.length : Int) := of_decide_eq_true (py241_)
       obtain ⟨ad169, e169, hx169_0⟩ := Kd.at_int HR0.out 0 p169 q169
       (try simp only [Int.reduceToNat] at hx169_0)
       obtain rfl : ad168 = ad169 := (by injection e169)
       have qi169 : (0 < l0.length) = True := eq_true (by omega)
       (try rw [show ((0 : Int)).toNat = 0 from rfl] at hx169_0)
       (try rw [Addr.add_zero'] at hx169_0)
       replace p169 := eq_true p169
       replace q169 := eq_true q169
       go_wp2
       go_loopg [7, 8] k1 (fun kq v7 v8 w' => ∃ (x7_2 : Int) (x8_2 : Int), v7 = .int .i64 x7_2 ∧ v8 = .int .i64 x8_2 ∧ Aside0 (shibbolethref01_Read.l1 kq l0 x5_1 x7_2 x8_2 = some (r1, r2, r3)) ∧ Aside0 (kq ≤ k1) ∧ Drawn0 w w')
       case atStart => exact ⟨(Int.tmod (wrap64 (rd l0 0)) 64), (1), (py240_), (py240_), H', ⟨Nat.le_refl _⟩, by repeat (first | exact Drawn0.refl _ | apply Drawn0.step)⟩
       case round =>
        clear H'
        try clear p1
        try clear q1
        try clear hx1
        try clear qi1
        try clear c2
        try clear c2b0
        try clear c2b1
        try clear c2b2
        try clear p2
        try clear c3
        try clear c3b0
        try clear c3b1
        try clear c4
        try clear c4b0
        try clear c5
        try clear c5b0
        try clear hx168_0
        try clear hx169_0
        try clear p168
        try clear p169
        try clear p2
        try clear q168
        try clear q169
        obtain ⟨x7_2, x8_2, rfl, rfl, HA, HK2, ⟨m2, rfl⟩⟩ := hrel
        cases gk with
        | zero => exact absurd HA.out (by simp [shibbolethref01_Read.l1])
        | succ k2 =>
         have H := HA.out
         clear HA
         simp only [shibbolethref01_Read.l1] at H
         by_cases c6 : x8_2 < x5_1
         ·rw [if_pos c6] at H
          have c6b0 : decide (x8_2 < x5_1) = true := decide_eq_true c6
          clear c6
          by_cases c7 : 0 ≤ x8_2
          ·rw [if_pos c7] at H
           have c7b0 : decide (0 ≤ x8_2) = true := decide_eq_true c7
           clear c7
           by_cases c8 : x8_2 < (l0.length : Int)
           ·rw [if_pos c8] at H
            have c8b0 : decide (x8_2 < (l0.length : Int)) = true := decide_eq_true c8
            clear c8
            have H' := Aside0.mk H
            clear H
            have p170 : 0 ≤ (x8_2 : Int) := of_decide_eq_true (py241_)
            have q170 : x8_2 < (l0.length : Int) := of_decide_eq_true (py241_)
            obtain ⟨ad170, e170, hx170_0⟩ := Kd.at_int HR0.out x8_2 p170 q170
            (try simp only [Int.reduceToNat] at hx170_0)
            obtain rfl : ad168 = ad170 := (by injection e170)
            replace p170 := eq_true p170
            replace q170 := eq_true q170
            go_wp2
            go_roundg k2
            case measure => have := HK1.out; have := HK2.out; omega
            case rel => exact ⟨(wrap64 ((wrap64 (256 * x7_2)) + (wrap64 (rd l0 x8_2)))), (wrap64 (x8_2 + 1)), (py240_), (py240_), H', ⟨by have := HK1.out; have := HK2.out; omega⟩, by repeat (first | exact Drawn0.refl _ | apply Drawn0.step)⟩
           ·rw [if_neg c8] at H
            exact absurd H (by simp)
          ·rw [if_neg c7] at H
           exact absurd H (by simp)
         ·rw [if_neg c6] at H
          have c6b0 : decide (x8_2 < x5_1) = false := decide_eq_false c6
          clear c6
          replace H := Option.bind_eq_some_iff.mp H
          obtain ⟨t171, A90, H⟩ := H
          replace H : (if t171 = x5_1 then (some (x7_2, x5_1, 0)) else (some (0, 0, 3))) = some (r1, r2, r3) := H
          have A9 := Aside0.mk A90
          clear A90
          by_cases c10 : t171 = x5_1
          ·rw [if_pos c10] at H
           have c10b0 : (t171 == x5_1) = true := beq_iff_eq.mpr c10
           have c10b1 : (t171 != x5_1) = false := bne_eq_false_iff_eq.mpr c10
           clear c10
           simp only [Option.some.injEq, Prod.mk.injEq] at H
           obtain ⟨rfl, rfl, rfl⟩ := H
           go_wp2_with (first | ((with_reducible refine gate_callee (f := 25) rfl ?_); refine goesL_ (some 46) rfl rfl Tryd.func25 (by kernel_rfl) rfl #[.int .i64 x7_2] rfl (by (try simp only [List.map_toArray, List.map_cons, List.map_nil]); first | done | rfl | (simp only [List.length_drop, List.length_take]; rfl)) ?_; (with_reducible refine (shibbolethref01_Size.calls k2 x7_2 t171 _ A9.out).mono ?_); rintro e w' ⟨rfl, ⟨nd, rfl⟩⟩; refine ⟨_, rfl, ?_⟩))
           go_ret3
           ly240_
          ·rw [if_neg c10] at H
           have c10b0 : (t171 == x5_1) = false := beq_eq_false_iff_ne.mpr c10
           have c10b1 : (t171 != x5_1) = true := bne_iff_ne.mpr c10
           simp only [Option.some.injEq, Prod.mk.injEq] at H
           obtain ⟨rfl, rfl, rfl⟩ := H
           go_wp2_with (first | ((with_reducible refine gate_callee (f := 25) rfl ?_); refine goesL_ (some 46) rfl rfl Tryd.func25 (by kernel_rfl) rfl #[.int .i64 x7_2] rfl (by (try simp only [List.map_toArray, List.map_cons, List.map_nil]); first | done | rfl | (simp only [List.length_drop, List.length_take]; rfl)) ?_; (with_reducible refine (shibbolethref01_Size.calls k2 x7_2 t171 _ A9.out).mono ?_); rintro e w' ⟨rfl, ⟨nd, rfl⟩⟩; refine ⟨_, rfl, ?_⟩))
           go_ret3
           ly240_
    ·rw [if_neg c3] at H
     exact absurd H (by simp)
end Go.Proofs.YtbcleckapamicaaDoor.QVa
namespace Go.Proofs.YtbcleckapamicaaDoor.VaP
open Go.RowKit Go.Proofs.YtbcleckapamicaaDoorW.PrintWords Go.Proofs.YtbcleckapamicaaDoorW.PrintLast Go.Proofs.YtbcleckapamicaaDoorW.PrintMore Go.Proofs.YtbcleckapamicaaDoor.QVa Go.Proofs.YtbcleckapamicaaDoor.Vn
open Go.Proofs.YtbcleckapamicaaDoor.Gv (bits_TrailingZeros.f slices_Clone_byte_byte.f varint_Size.f varint_Read.f)
set_option linter.unusedVariables false
set_option linter.unusedSimpArgs false
theorem rd_nat (l : List Int) (i : Nat) (h : i < l.length) : rd l (i : Int) = l[i] := by
  simp [rd, List.getD_eq_getElem?_getD, List.getElem?_eq_getElem h]
theorem size_f (n : Int) (k : Nat) (hk : 0 < k) : shibbolethref01_Size.f k n = some (vsize n) := by
  obtain ⟨k, rfl⟩ : ∃ m, k = m + 1 := ⟨k - 1, by omega⟩
  unfold shibbolethref01_Size.f vsize
  simp only [shibbolethref01_Size.j0]
  by_cases h1 : n < 0
  · simp [h1]
  · by_cases h2 : 4611686018427387903 < n
    · simp [h1, h2]
    · by_cases h3 : n < 64
      · simp [h1, h2, h3]
      · by_cases h4 : n < 16384
        · simp [h1, h2, h3, h4]
        · by_cases h5 : n < 1073741824
          · simp [h1, h2, h3, h4, h5]
          · simp [h1, h2, h3, h4, h5]
theorem or_mark (a : Int) (i m : Nat) (h0 : 0 ≤ a) (ha : a < 2 ^ i) (hm : m * 2 ^ i < 18446744073709551616) (hi : (2 : Int) ^ i ≤ 18446744073709551616) : Go.bits .or .u64 a ((m * 2 ^ i : Nat) : Int) = a + ((m * 2 ^ i : Nat) : Int) := by
  rw [u64_or a _ h0 (by omega) (by omega) (by omega), Int.toNat_natCast]
  have hc : ((a.toNat : Nat) : Int) < ((2 ^ i : Nat) : Int) := by rw [Int.toNat_of_nonneg h0]; simpa using ha
  have h := Nat.shiftLeft_add_eq_or_of_lt (i := i) (b := a.toNat) (Int.ofNat_lt.1 hc) m
  rw [Nat.shiftLeft_eq] at h
  rw [Nat.or_comm, ← h]
  omega
theorem shr_0 (x : Int) : shr .u64 x 0 = x := by simp [shr]
theorem shr_8 (x : Int) : shr .u64 x 8 = x / 256 := by simp [shr, IntKind.bits]
theorem shr_16 (x : Int) : shr .u64 x 16 = x / 65536 := by simp [shr, IntKind.bits]
theorem shr_24 (x : Int) : shr .u64 x 24 = x / 16777216 := by simp [shr, IntKind.bits]
theorem shr_32 (x : Int) : shr .u64 x 32 = x / 4294967296 := by simp [shr, IntKind.bits]
theorem shr_40 (x : Int) : shr .u64 x 40 = x / 1099511627776 := by simp [shr, IntKind.bits]
theorem shr_48 (x : Int) : shr .u64 x 48 = x / 281474976710656 := by simp [shr, IntKind.bits]
theorem shr_56 (x : Int) : shr .u64 x 56 = x / 72057594037927936 := by simp [shr, IntKind.bits]
theorem append_step (l : List Int) (x : Int) (j k : Nat) (hj : j ≤ 7) (hl : l.length < 140737488355328) : varint_Append.l0 (k + 1) l x (j : Int) = varint_Append.l0 k (l ++ [shr .u64 x ((8 * j : Nat) : Int) % 256]) x ((j : Int) - 1) := by
  simp only [varint_Append.l0]
  have e1 : wrap64 (8 * (j : Int)) = ((8 * j : Nat) : Int) := by unfold wrap64; omega
  have e2 : wrap64 ((j : Int) - 1) = (j : Int) - 1 := by unfold wrap64; omega
  rw [e1, e2, if_pos (by omega), if_pos (by omega), if_pos hl]
theorem append_end (l : List Int) (x : Int) (k : Nat) : varint_Append.l0 (k + 1) l x (-1) = some l := by
  simp only [varint_Append.l0]
  rw [if_neg (by omega)]
theorem append_f (l : List Int) (n : Int) (hl : l.length ≤ 1000000) (k : Nat) (hk : 9 < k) : varint_Append.f k l n = some (l ++ vbytes n) := by
  obtain ⟨k, rfl⟩ : ∃ m, k = m + 9 := ⟨k - 9, by omega⟩
  unfold varint_Append.f slices_Clone_byte_byte.f varint_Size.f
  rw [if_pos (by omega)]
  simp only [Option.bind_some]
  rcases vsize_cases n with ⟨hn, h, e⟩ | ⟨hn, h, e⟩ | ⟨hn, h, e⟩ | ⟨hn, h, e⟩ | ⟨hn, h, e⟩ <;> rw [h, e]
  · simp
  · have w1 : IntKind.u64.wrap n = n := by simp [IntKind.wrap, IntKind.bits, IntKind.signed]; omega
    have w2 : shl .u64 (IntKind.u64.wrap 0) (wrap64 ((wrap64 (8 * 1)) - 2)) = ((0 * 2 ^ 6 : Nat) : Int) := by decide +kernel
    have w3 : bits_TrailingZeros.f (IntKind.u64.wrap 1) = some 0 := by decide +kernel
    have w4 : wrap64 (1 - 1) = ((0 : Nat) : Int) := by decide +kernel
    rw [if_neg (by decide), w3]
    simp only [Option.bind_some]
    rw [if_pos (by decide +kernel), w1, w2, w4, or_mark n 6 0 hn.1 (by omega) (by omega) (by decide), show (k + 9) = (k + 7) + 1 + 1 from rfl, append_step _ _ 0 _ (by omega) (by omega), show (((0 : Nat) : Int) - 1) = -1 from rfl, append_end]
    congr 2
    simp only [show ((8 * 0 : Nat) : Int) = 0 from rfl, shr_0]
    congr 1; omega
  · have w1 : IntKind.u64.wrap n = n := by simp [IntKind.wrap, IntKind.bits, IntKind.signed]; omega
    have w2 : shl .u64 (IntKind.u64.wrap 1) (wrap64 ((wrap64 (8 * 2)) - 2)) = ((1 * 2 ^ 14 : Nat) : Int) := by decide +kernel
    have w3 : bits_TrailingZeros.f (IntKind.u64.wrap 2) = some 1 := by decide +kernel
    have w4 : wrap64 (2 - 1) = ((1 : Nat) : Int) := by decide +kernel
    rw [if_neg (by decide), w3]
    simp only [Option.bind_some]
    rw [if_pos (by decide +kernel), w1, w2, w4, or_mark n 14 1 (by omega) (by omega) (by omega) (by decide), show (k + 9) = (k + 6) + 1 + 1 + 1 from rfl, append_step _ _ 1 _ (by omega) (by omega), show (((1 : Nat) : Int) - 1) = ((0 : Nat) : Int) from rfl,
      append_step _ _ 0 _ (by omega) (by simp; omega), show (((0 : Nat) : Int) - 1) = -1 from rfl, append_end]
    simp only [show ((8 * 0 : Nat) : Int) = 0 from rfl, show ((8 * 1 : Nat) : Int) = 8 from rfl, shr_0, shr_8, List.append_assoc, List.cons_append, List.nil_append]
    congr 2
    simp only [List.cons.injEq, and_true]
    omega
  · have w1 : IntKind.u64.wrap n = n := by simp [IntKind.wrap, IntKind.bits, IntKind.signed]; omega
    have w2 : shl .u64 (IntKind.u64.wrap 2) (wrap64 ((wrap64 (8 * 4)) - 2)) = ((2 * 2 ^ 30 : Nat) : Int) := by decide +kernel
    have w3 : bits_TrailingZeros.f (IntKind.u64.wrap 4) = some 2 := by decide +kernel
    have w4 : wrap64 (4 - 1) = ((3 : Nat) : Int) := by decide +kernel
    rw [if_neg (by decide), w3]
    simp only [Option.bind_some]
    rw [if_pos (by decide +kernel), w1, w2, w4, or_mark n 30 2 (by omega) (by omega) (by omega) (by decide), show (k + 9) = (k + 4) + 1 + 1 + 1 + 1 + 1 from rfl, append_step _ _ 3 _ (by omega) (by omega), show (((3 : Nat) : Int) - 1) = ((2 : Nat) : Int) from rfl,
      append_step _ _ 2 _ (by omega) (by simp; omega), show (((2 : Nat) : Int) - 1) = ((1 : Nat) : Int) from rfl, append_step _ _ 1 _ (by omega) (by simp; omega), show (((1 : Nat) : Int) - 1) = ((0 : Nat) : Int) from rfl,
      append_step _ _ 0 _ (by omega) (by simp; omega), show (((0 : Nat) : Int) - 1) = -1 from rfl, append_end]
    simp only [show ((8 * 0 : Nat) : Int) = 0 from rfl, show ((8 * 1 : Nat) : Int) = 8 from rfl, show ((8 * 2 : Nat) : Int) = 16 from rfl, show ((8 * 3 : Nat) : Int) = 24 from rfl, shr_0, shr_8, shr_16, shr_24, List.append_assoc, List.cons_append, List.nil_append]
    congr 2
    simp only [List.cons.injEq, and_true]
    omega
  · have w1 : IntKind.u64.wrap n = n := by simp [IntKind.wrap, IntKind.bits, IntKind.signed]; omega
    have w2 : shl .u64 (IntKind.u64.wrap 3) (wrap64 ((wrap64 (8 * 8)) - 2)) = ((3 * 2 ^ 62 : Nat) : Int) := by decide +kernel
    have w3 : bits_TrailingZeros.f (IntKind.u64.wrap 8) = some 3 := by decide +kernel
    have w4 : wrap64 (8 - 1) = ((7 : Nat) : Int) := by decide +kernel
    rw [if_neg (by decide), w3]
    simp only [Option.bind_some]
    rw [if_pos (by decide +kernel), w1, w2, w4, or_mark n 62 3 (by omega) (by omega) (by omega) (by decide), show (k + 9) = k + 1 + 1 + 1 + 1 + 1 + 1 + 1 + 1 + 1 from rfl, append_step _ _ 7 _ (by omega) (by omega), show (((7 : Nat) : Int) - 1) = ((6 : Nat) : Int) from rfl,
      append_step _ _ 6 _ (by omega) (by simp; omega), show (((6 : Nat) : Int) - 1) = ((5 : Nat) : Int) from rfl, append_step _ _ 5 _ (by omega) (by simp; omega), show (((5 : Nat) : Int) - 1) = ((4 : Nat) : Int) from rfl,
      append_step _ _ 4 _ (by omega) (by simp; omega), show (((4 : Nat) : Int) - 1) = ((3 : Nat) : Int) from rfl, append_step _ _ 3 _ (by omega) (by simp; omega), show (((3 : Nat) : Int) - 1) = ((2 : Nat) : Int) from rfl,
      append_step _ _ 2 _ (by omega) (by simp; omega), show (((2 : Nat) : Int) - 1) = ((1 : Nat) : Int) from rfl, append_step _ _ 1 _ (by omega) (by simp; omega), show (((1 : Nat) : Int) - 1) = ((0 : Nat) : Int) from rfl,
      append_step _ _ 0 _ (by omega) (by simp; omega), show (((0 : Nat) : Int) - 1) = -1 from rfl, append_end]
    simp only [show ((8 * 0 : Nat) : Int) = 0 from rfl, show ((8 * 1 : Nat) : Int) = 8 from rfl, show ((8 * 2 : Nat) : Int) = 16 from rfl, show ((8 * 3 : Nat) : Int) = 24 from rfl, show ((8 * 4 : Nat) : Int) = 32 from rfl, show ((8 * 5 : Nat) : Int) = 40 from rfl, show ((8 * 6 : Nat) : Int) = 48 from rfl, show ((8 * 7 : Nat) : Int) = 56 from rfl,
      shr_0, shr_8, shr_16, shr_24, shr_32, shr_40, shr_48, shr_56, List.append_assoc, List.cons_append, List.nil_append]
    congr 2
    simp only [List.cons.injEq, and_true]
    omega
theorem read_l1 (l : List Int) (hB : Bytes l) (hl : l.length ≤ 100000) (q : Nat) (hq : q < 4) (hlen : 2 ^ q ≤ l.length) (hpos : 0 < l.length) : ∀ (d i k : Nat), 1 ≤ i → i + d = 2 ^ q → d + 1 < k →
    shibbolethref01_Read.l1 k l ((2 ^ q : Nat) : Int) (num (rd l 0 % 64) ((l.take i).drop 1)) (i : Int) = some (if vsize (num (rd l 0 % 64) ((l.take (2 ^ q)).drop 1)) = ((2 ^ q : Nat) : Int) then (num (rd l 0 % 64) ((l.take (2 ^ q)).drop 1), ((2 ^ q : Nat) : Int), 0) else (0, 0, 3)) := by
  have h8 : 2 ^ q ≤ 8 := by
    have : ∀ j : Fin 4, 2 ^ (j : Nat) ≤ 8 := by decide
    exact this ⟨q, hq⟩
  have hb0 : 0 ≤ rd l 0 ∧ rd l 0 ≤ 255 := bytes_rd hB 0 hpos
  intro d
  induction d with
  | zero =>
    intro i k h1 hi hk
    obtain ⟨k, rfl⟩ : ∃ m, k = m + 1 := ⟨k - 1, by omega⟩
    have e : i = 2 ^ q := by omega
    rw [shibbolethref01_Read.l1, if_neg (by omega), size_f _ _ (by omega), e]
    simp only [Option.bind_some]
    split <;> rfl
  | succ d ih =>
    intro i k h1 hi hk
    obtain ⟨k, rfl⟩ : ∃ m, k = m + 1 := ⟨k - 1, by omega⟩
    have hil : i < l.length := by omega
    have hbi := bytes_rd hB i hil
    have hsn : (l.take (i + 1)).drop 1 = (l.take i).drop 1 ++ [rd l i] := by
      rw [List.take_succ_eq_append_getElem hil, List.drop_append_of_le_length (by rw [List.length_take]; omega), rd_nat l i hil]
    have hr := num_range (rd l 0 % 64) (by omega) (by omega) ((l.take i).drop 1) ((hB.take _).drop _) ((l.take i).drop 1).length (Nat.le_refl _)
    rw [List.take_of_length_le (Nat.le_refl _)] at hr
    have hp := pow256 ((l.take i).drop 1).length (by rw [List.length_drop, List.length_take]; omega)
    rw [shibbolethref01_Read.l1, if_pos (by omega), if_pos (by omega), if_pos (by omega)]
    rw [show wrap64 (wrap64 (256 * num (rd l 0 % 64) ((l.take i).drop 1)) + wrap64 (rd l i)) = num (rd l 0 % 64) ((l.take (i + 1)).drop 1) from by rw [hsn, num_snoc]; unfold wrap64; omega,
      show wrap64 ((i : Int) + 1) = ((i + 1 : Nat) : Int) from by unfold wrap64; omega]
    exact ih (i + 1) k (by omega) (by omega) (by omega)
theorem read_l0 (l : List Int) (hB : Bytes l) (hl : l.length ≤ 100000) (hpos : 0 < l.length) (q : Nat) (hq : q < 4) (hqq : rd l 0 / 64 = (q : Int)) : ∀ (d i k : Nat), i + d = q → d + 20 < k →
    shibbolethref01_Read.l0 k l ((2 ^ i : Nat) : Int) (i : Int) = some (vread l) := by
  have hb0 : 0 ≤ rd l 0 ∧ rd l 0 ≤ 255 := bytes_rd hB 0 hpos
  have w0 : wrap64 (rd l 0) = rd l 0 := by unfold wrap64; omega
  have w1 : wrap64 (Int.tdiv (rd l 0) 64) = (q : Int) := by rw [Int.tdiv_eq_ediv_of_nonneg hb0.1, hqq]; unfold wrap64; omega
  have hv : vread l = if l.length < 2 ^ q then (0, 0, 2) else if vsize (num (rd l 0 % 64) ((l.take (2 ^ q)).drop 1)) = ((2 ^ q : Nat) : Int) then (num (rd l 0 % 64) ((l.take (2 ^ q)).drop 1), ((2 ^ q : Nat) : Int), 0) else (0, 0, 3) := by
    unfold vread
    rw [if_neg (by omega), hqq, Int.toNat_natCast]
  intro d
  induction d with
  | zero =>
    intro i k hi hk
    obtain ⟨k, rfl⟩ : ∃ m, k = m + 1 := ⟨k - 1, by omega⟩
    obtain rfl : i = q := by omega
    rw [shibbolethref01_Read.l0, if_pos (by omega), w0, w1, if_neg (by omega), hv]
    by_cases hs : l.length < 2 ^ i
    · rw [if_pos (by omega), if_pos hs]
    · rw [if_neg (by omega), if_neg hs, Int.tmod_eq_emod_of_nonneg hb0.1]
      have h1 : 1 ≤ 2 ^ i := Nat.one_le_two_pow
      have h8 : 2 ^ i ≤ 8 := by
        have : ∀ j : Fin 4, 2 ^ (j : Nat) ≤ 8 := by decide
        exact this ⟨i, hq⟩
      have h := read_l1 l hB hl i hq (by omega) hpos (2 ^ i - 1) 1 k (Nat.le_refl _) (by omega) (by omega)
      rw [show (l.take 1).drop 1 = [] from by rw [List.drop_eq_nil_iff, List.length_take]; omega] at h
      exact h
  | succ d ih =>
    intro i k hi hk
    obtain ⟨k, rfl⟩ : ∃ m, k = m + 1 := ⟨k - 1, by omega⟩
    have h8 : 2 ^ i ≤ 8 := by
      have : ∀ j : Fin 4, 2 ^ (j : Nat) ≤ 8 := by decide
      exact this ⟨i, by omega⟩
    rw [shibbolethref01_Read.l0, if_pos (by omega), w0, w1, if_pos (by omega), show wrap64 (((2 ^ i : Nat) : Int) * 2) = ((2 ^ (i + 1) : Nat) : Int) from by rw [Nat.pow_succ]; unfold wrap64; omega,
      show wrap64 ((i : Int) + 1) = ((i + 1 : Nat) : Int) from by unfold wrap64; omega]
    exact ih (i + 1) k (by omega) (by omega)
theorem read_f (l : List Int) (hB : Bytes l) (hl : l.length ≤ 100000) (k : Nat) (hk : 30 < k) : shibbolethref01_Read.f k l = some (vread l) := by
  unfold shibbolethref01_Read.f
  by_cases h0 : (l.length : Int) = 0
  · rw [if_pos h0]; unfold vread; rw [if_pos (by omega)]
  · rw [if_neg h0]
    have hb0 : 0 ≤ rd l 0 ∧ rd l 0 ≤ 255 := bytes_rd hB 0 (by omega)
    obtain ⟨q, hq⟩ : ∃ q : Nat, rd l 0 / 64 = (q : Int) := ⟨(rd l 0 / 64).toNat, by omega⟩
    exact read_l0 l hB hl (by omega) q (by omega) hq q 0 k (by omega) (by omega)
theorem bytes_of_wf {l : List Int} (h : ∀ x ∈ l, (Lit.int .u8 x).wf = true) : Bytes l := fun x hx => by
  have := h x hx
  simp [Lit.wf, IntKind.min, IntKind.max, IntKind.signed, IntKind.bits] at this
  exact ⟨by omega, by omega⟩
end Go.Proofs.YtbcleckapamicaaDoor.VaP
namespace Go.Proofs.YtbcleckapamicaaDoor.FrP
open Go.RowKit Go.Proofs.YtbcleckapamicaaDoorW.PrintWords Go.Proofs.YtbcleckapamicaaDoorW.PrintLast Go.Proofs.YtbcleckapamicaaDoorW.PrintMore Go.Proofs.YtbcleckapamicaaDoor.QFr Go.Proofs.YtbcleckapamicaaDoor.Vn
open Go.Proofs.YtbcleckapamicaaDoor.Gv (varint_Size.f)
open Go.Proofs.YtbcleckapamicaaDoor.Gf (ideal_Number.f tbytes)
open Go.Proofs.YtbcleckapamicaaDoor.QVa (varint_Append.f varint_Give.f shibbolethref01_Size.f)
open Go.Proofs.YtbcleckapamicaaDoor.VaP (append_f size_f)
set_option linter.unusedVariables false
set_option linter.unusedSimpArgs false
theorem fsame_l (l : List Int) (hl : l.length ≤ 9223372036854775806) : ∀ (d i k : Nat), i + d = l.length → d < k → shibbolethlaw06_same.l0 k l l (i : Int) = some true := by
  intro d
  induction d with
  | zero =>
    intro i k hi hk
    obtain ⟨k, rfl⟩ : ∃ m, k = m + 1 := ⟨k - 1, by omega⟩
    simp only [shibbolethlaw06_same.l0]
    rw [if_neg (by omega)]
  | succ d ih =>
    intro i k hi hk
    obtain ⟨k, rfl⟩ : ∃ m, k = m + 1 := ⟨k - 1, by omega⟩
    simp only [shibbolethlaw06_same.l0]
    rw [if_pos (by omega), if_pos (by omega), if_pos (by omega), if_pos trivial, show wrap64 ((i : Int) + 1) = ((i + 1 : Nat) : Int) from by unfold wrap64; omega]
    exact ih (i + 1) k (by omega) (by omega)
theorem fsame_f (l : List Int) (hl : l.length ≤ 9223372036854775806) (k : Nat) (hk : l.length < k) : shibbolethlaw06_same.f k l l = some true := by
  unfold shibbolethlaw06_same.f
  rw [if_pos rfl]
  exact fsame_l l hl l.length 0 k (by omega) hk
theorem w1 (i : Nat) (h : i < 100000) : wrap64 ((i : Int) + 1) = ((i + 1 : Nat) : Int) := by unfold wrap64; omega
theorem wm1 (i : Nat) (h0 : 0 < i) (h : i < 100000) : wrap64 ((i : Int) - 1) = ((i - 1 : Nat) : Int) := by unfold wrap64; omega
def cv (l : List S102) : List S103 := l.map fun s => ⟨s.f0, s.f1⟩
theorem cv_len (l : List S102) : (cv l).length = l.length := by simp [cv]
theorem rd_cv (l : List S102) (i : Nat) (h : i < l.length) : rd_T103 (cv l) (i : Int) = ⟨(rd_T102 l (i : Int)).f0, (rd_T102 l (i : Int)).f1⟩ := by
  simp [rd_T103, rd_T102, cv, List.getD_eq_getElem?_getD, List.getElem?_map, List.getElem?_eq_getElem h]
def okAt (l : List S103) (j : Nat) : Prop := 0 ≤ (rd_T103 l (j : Int)).f0 ∧ (rd_T103 l (j : Int)).f0 ≤ (rd_T103 l (j : Int)).f1 ∧ (rd_T103 l (j : Int)).f1 ≤ 4611686018427387903 ∧ (0 < j → (rd_T103 l (j : Int)).f1 ≤ (rd_T103 l ((j - 1 : Nat) : Int)).f0 - 2)
def spansOK (l : List S103) : Prop := (∀ j, j < l.length → okAt l j) ∧ 0 < l.length ∧ l.length ≤ 32
theorem vsize_zero (n : Int) : vsize n = 0 ↔ ¬ (0 ≤ n ∧ n ≤ 4611686018427387903) := by unfold vsize; (repeat' split) <;> omega
theorem vsize_pos (n : Int) : 0 < vsize n ↔ (0 ≤ n ∧ n ≤ 4611686018427387903) := by unfold vsize; (repeat' split) <;> omega
theorem spanned_l (l : List S103) (hl : l.length ≤ 100) : ∀ (d i k : Nat), i + d = l.length → d < k → (∀ j, j < i → okAt l j) → ∃ b, frame_spanned.l0 k l l (l.length : Int) (i : Int) = some b ∧ (b = true ↔ spansOK l) := by
  intro d
  induction d with
  | zero =>
    intro i k hi hk hok
    obtain ⟨k, rfl⟩ : ∃ m, k = m + 1 := ⟨k - 1, by omega⟩
    simp only [frame_spanned.l0]
    rw [if_neg (by omega)]
    by_cases h0 : (l.length : Int) > 0
    · rw [if_pos h0]
      refine ⟨_, rfl, ?_⟩
      rw [decide_eq_true_eq]
      exact ⟨fun h => ⟨fun j hj => hok j (by omega), by omega, by omega⟩, fun h => by have := h.2.2; omega⟩
    · rw [if_neg h0]
      exact ⟨_, rfl, ⟨fun h => absurd h (by decide), fun h => by have := h.2.1; omega⟩⟩
  | succ d ih =>
    intro i k hi hk hok
    obtain ⟨k, rfl⟩ : ∃ m, k = m + 1 := ⟨k - 1, by omega⟩
    have hi' : i < l.length := by omega
    simp only [frame_spanned.l0]
    rw [if_pos (by omega), if_pos (by omega), if_pos (by omega)]
    have bad : ∀ (h : ¬ okAt l i), ∃ b, some false = some b ∧ (b = true ↔ spansOK l) := fun h => ⟨false, rfl, ⟨fun h' => absurd h' (by decide), fun h' => absurd (h'.1 i hi') h⟩⟩
    by_cases h1 : (rd_T103 l (i : Int)).f0 < 0
    · rw [if_pos h1]; exact bad (fun h => by have := h.1; omega)
    rw [if_neg h1]
    by_cases h2 : (rd_T103 l (i : Int)).f0 > (rd_T103 l (i : Int)).f1
    · rw [if_pos h2]; exact bad (fun h => by have := h.2.1; omega)
    rw [if_neg h2]
    unfold varint_Size.f
    simp only [Option.bind_some]
    by_cases h3 : vsize (rd_T103 l (i : Int)).f1 = 0
    · rw [if_pos h3]; exact bad (fun h => by have := (vsize_zero _).1 h3; have := h.1; have := h.2.1; have := h.2.2.1; omega)
    rw [if_neg h3]
    have h3' : (rd_T103 l (i : Int)).f1 ≤ 4611686018427387903 := by
      rw [vsize_zero] at h3
      omega
    have step : okAt l i → ∃ b, frame_spanned.l0 k l l (l.length : Int) ((i + 1 : Nat) : Int) = some b ∧ (b = true ↔ spansOK l) := fun h => ih (i + 1) k (by omega) (by omega) (fun j hj => by
      rcases Nat.lt_or_ge j i with hji | hji
      · exact hok j hji
      · have : j = i := by omega
        rw [this]; exact h)
    by_cases h4 : (i : Int) > 0
    · rw [if_pos h4, wm1 i (by omega) (by omega), w1 i (by omega), if_pos (by omega), if_pos (by omega)]
      have hp := hok (i - 1) (by omega)
      have hw : wrap64 ((rd_T103 l ((i - 1 : Nat) : Int)).f0 - 2) = (rd_T103 l ((i - 1 : Nat) : Int)).f0 - 2 := by have := hp.1; have := hp.2.1; have := hp.2.2.1; unfold wrap64; omega
      rw [hw]
      by_cases h5 : (rd_T103 l (i : Int)).f1 > (rd_T103 l ((i - 1 : Nat) : Int)).f0 - 2
      · rw [if_pos h5]; exact bad (fun h => by have := h.2.2.2 (by omega); omega)
      · rw [if_neg h5]; exact step ⟨by omega, by omega, h3', fun _ => by omega⟩
    · rw [if_neg h4, w1 i (by omega)]
      exact step ⟨by omega, by omega, h3', fun h => by omega⟩
theorem spanned_f (l : List S103) (hl : l.length ≤ 100) (k : Nat) (hk : l.length < k) : ∃ b, frame_spanned.f k l = some b ∧ (b = true ↔ spansOK l) := by
  unfold frame_spanned.f
  exact spanned_l l hl l.length 0 k (by omega) hk (fun j hj => by omega)
def fright (a0 a1 : Int) (l2 : List S103) (a3 : Int) (l4 : List Int) (a5 : Int) : Prop :=
  (a0 = 0 ∧ 1 ≤ a1 ∧ a1 ≤ 1200 ∧ l2.length = 0 ∧ a3 = 0 ∧ l4.length = 0 ∧ a5 = 0) ∨
  ((a0 = 1 ∨ a0 = 30) ∧ a1 = 0 ∧ l2.length = 0 ∧ a3 = 0 ∧ l4.length = 0 ∧ a5 = 0) ∨
  (a0 = 2 ∧ spansOK l2 ∧ a1 = 0 ∧ a3 = 0 ∧ l4.length = 0 ∧ a5 = 0) ∨
  (a0 = 6 ∧ 0 ≤ a3 ∧ a3 ≤ 1048576 ∧ 1 ≤ l4.length ∧ l4.length ≤ 1000 ∧ a1 = 0 ∧ l2.length = 0 ∧ a5 = 0) ∨
  (a0 = 7 ∧ 1 ≤ a5 ∧ a5 ≤ 65536 ∧ a1 = 0 ∧ l2.length = 0 ∧ a3 = 0 ∧ l4.length = 0) ∨
  (a0 = 8 ∧ 1 ≤ a5 ∧ a5 ≤ 65536 ∧ 0 ≤ a1 ∧ a1 ≤ 4611686018427387903 ∧ l2.length = 0 ∧ a3 = 0 ∧ l4.length = 0) ∨
  (a0 = 28 ∧ 0 ≤ a1 ∧ a1 ≤ 4611686018427387903 ∧ l2.length = 0 ∧ a3 = 0 ∧ l4.length = 0 ∧ a5 = 0)
theorem bare_f (a0 a1 : Int) (l2 : List S103) (a3 : Int) (l4 : List Int) (a5 : Int) (b1 b2 b3 b4 : Bool) : frame_bare.f a0 a1 l2 a3 l4 a5 b1 b2 b3 b4 =
    some (decide ((b1 = true ∨ a1 = 0) ∧ (b2 = true ∨ l2.length = 0) ∧ (b3 = true ∨ a3 = 0 ∧ l4.length = 0) ∧ (b4 = true ∨ a5 = 0))) := by
  unfold frame_bare.f
  cases b1 <;> cases b2 <;> cases b3 <;> cases b4 <;> simp <;> (repeat' split) <;> simp_all [Bool.beq_eq_decide_eq]
theorem tbytes_pos (h : Int) : 0 < (tbytes h).length ↔ (1 ≤ h ∧ h ≤ 65536) := by
  unfold tbytes; split
  · simp; omega
  · simp; omega
theorem some_decide {p q : Prop} {_ : Decidable p} {_ : Decidable q} (h : p ↔ q) : some (decide p) = some (decide q) := by simp [h]
theorem true_decide {q : Prop} {_ : Decidable q} (h : q) : some true = some (decide q) := by simp [h]
theorem false_decide {q : Prop} {_ : Decidable q} (h : ¬ q) : some false = some (decide q) := by simp [h]
theorem kinds (a0 : Int) : a0 = 0 ∨ a0 = 1 ∨ a0 = 30 ∨ a0 = 2 ∨ a0 = 6 ∨ a0 = 7 ∨ a0 = 8 ∨ a0 = 28 ∨ (a0 ≠ 0 ∧ a0 ≠ 1 ∧ a0 ≠ 30 ∧ a0 ≠ 2 ∧ a0 ≠ 6 ∧ a0 ≠ 7 ∧ a0 ≠ 8 ∧ a0 ≠ 28) := by omega
theorem fright_else (a0 a1 : Int) (l2 : List S103) (a3 : Int) (l4 : List Int) (a5 : Int) (h : a0 ≠ 0 ∧ a0 ≠ 1 ∧ a0 ≠ 30 ∧ a0 ≠ 2 ∧ a0 ≠ 6 ∧ a0 ≠ 7 ∧ a0 ≠ 8 ∧ a0 ≠ 28) : ¬ fright a0 a1 l2 a3 l4 a5 := by
  intro hf
  unfold fright at hf
  rcases hf with q | q | q | q | q | q | q <;> have := q.1 <;> omega
set_option maxHeartbeats 2000000 in
theorem right_f (a0 a1 : Int) (l2 : List S103) (a3 : Int) (l4 : List Int) (a5 : Int) (hl : l2.length ≤ 100) (k : Nat) (hk : 200 < k) : ∃ b, frame_Right.f k a0 a1 l2 a3 l4 a5 = some b ∧ (b = true ↔ fright a0 a1 l2 a3 l4 a5) := by
  obtain ⟨k, rfl⟩ : ∃ m, k = m + 1 := ⟨k - 1, by omega⟩
  have ht := tbytes_pos a5
  have hv := vsize_pos a1
  obtain ⟨bs, hbs, hbi⟩ := spanned_f l2 hl k (by omega)
  suffices h : frame_Right.f (k + 1) a0 a1 l2 a3 l4 a5 = some (@decide (fright a0 a1 l2 a3 l4 a5) (Classical.propDecidable _)) from ⟨_, h, by simp⟩
  unfold frame_Right.f ideal_Number.f varint_Size.f
  simp only [Option.bind_some, bare_f, frame_Right.j0, hbs]
  have hd1 : decide (((tbytes a5).length : Int) > 0) = decide (1 ≤ a5 ∧ a5 ≤ 65536) := by simp only [decide_eq_decide]; omega
  have hd2 : decide (vsize a1 > 0) = decide (0 ≤ a1 ∧ a1 ≤ 4611686018427387903) := by simp only [decide_eq_decide]; omega
  rw [hd1, hd2]
  clear hd1 hd2 ht hv hbs
  rcases kinds a0 with h | h | h | h | h | h | h | h | h
  iterate 3
    · subst h
      clear hbi
      simp only [fright, ne_eq, Int.reduceEq, reduceIte, not_true_eq_false, not_false_eq_true, false_and, true_and, or_false, false_or, and_true, and_false, or_true, true_or, decide_eq_true_eq, Bool.false_eq_true, beq_iff_eq, eq_self, if_true, if_false, Int.reduceBEq, or_self, gt_iff_lt]
      repeat' split
      all_goals first | exact false_decide id | exact false_decide (by omega) | exact true_decide (by omega) | exact some_decide (by omega) | (exfalso; omega)
  · subst h
    by_cases hS : spansOK l2
    · obtain rfl : bs = true := hbi.2 hS
      simp only [hS, fright, ne_eq, Int.reduceEq, reduceIte, not_true_eq_false, not_false_eq_true, false_and, true_and, or_false, false_or, and_true, and_false, or_true, true_or, decide_eq_true_eq, Bool.false_eq_true, beq_iff_eq, eq_self, if_true, if_false, Int.reduceBEq, or_self, gt_iff_lt]
      try exact some_decide (by omega)
    · obtain rfl : bs = false := by cases bs with | false => rfl | true => exact absurd (hbi.1 rfl) hS
      simp only [hS, fright, ne_eq, Int.reduceEq, reduceIte, not_true_eq_false, not_false_eq_true, false_and, true_and, or_false, false_or, and_true, and_false, or_true, true_or, decide_eq_true_eq, Bool.false_eq_true, beq_iff_eq, eq_self, if_true, if_false, Int.reduceBEq, or_self, gt_iff_lt]
      try exact false_decide id
  iterate 4
    · subst h
      clear hbi
      simp only [fright, ne_eq, Int.reduceEq, reduceIte, not_true_eq_false, not_false_eq_true, false_and, true_and, or_false, false_or, and_true, and_false, or_true, true_or, decide_eq_true_eq, Bool.false_eq_true, beq_iff_eq, eq_self, if_true, if_false, Int.reduceBEq, or_self, gt_iff_lt]
      repeat' split
      all_goals first | exact false_decide id | exact false_decide (by omega) | exact true_decide (by omega) | exact some_decide (by omega) | (exfalso; omega)
  · have hf := fright_else a0 a1 l2 a3 l4 a5 h
    obtain ⟨h0, h1, h30, h2, h6, h7, h8, h28⟩ := h
    simp only [h0, h1, h30, h2, h6, h7, h8, h28, if_false, beq_iff_eq]
    exact false_decide hf
def rest (a0 a1 a3 : Int) (l4 : List Int) (bs x3 x4 : Bool) : Bool :=
  if a0 = 0 then decide (1 ≤ a1 ∧ a1 ≤ 1200) else if a0 = 1 ∨ a0 = 30 then true else if a0 = 2 then bs else if a0 = 6 then decide (0 ≤ a3 ∧ a3 ≤ 1048576 ∧ 1 ≤ l4.length ∧ l4.length ≤ 1000) else
  if a0 = 7 then x3 else if a0 = 8 then (x3 && x4) else if a0 = 28 then x4 else false
end Go.Proofs.YtbcleckapamicaaDoor.FrP
namespace Go.Proofs.YtbcleckapamicaaDoor.Fd
open Go Go.RowKit Go.Proofs.YtbcleckapamicaaDoorW.PrintWords Go.Proofs.YtbcleckapamicaaDoorW.PrintLast Go.Proofs.YtbcleckapamicaaDoorW.PrintMore
open Go.Proofs.YtbcleckapamicaaDoor.QFr (S58 S103 k58 k103 k103_mkM)
open Go.Proofs.YtbcleckapamicaaDoor.Onl (Only)
open Go.Proofs.YtbcleckapamicaaDoor.Vn (vread vsize num)
open Go.Proofs.YtbcleckapamicaaDoor.FrP (fright okAt spansOK)
set_option linter.unusedVariables false
set_option linter.unusedSimpArgs false
instance (l : List S103) (j : Nat) : Decidable (okAt l j) := by unfold okAt; infer_instance
instance (l : List S103) : Decidable (spansOK l) := by unfold spansOK; infer_instance
instance (a0 a1 : Int) (l2 : List S103) (a3 : Int) (l4 : List Int) (a5 : Int) : Decidable (fright a0 a1 l2 a3 l4 a5) := by unfold fright; infer_instance
def fr58 (f : S58) : Prop := fright f.f0 f.f1 f.f2 f.f3 f.f4 f.f5
instance (f : S58) : Decidable (fr58 f) := by unfold fr58; infer_instance
def next : List Int → Option (S58 × List Int)
  | [] => none
  | k :: l => (body k l).bind fun q => if fr58 q.1 then some q else none
def frames : Nat → List Int → Option (List S58)
  | 0, _ => none
  | _ + 1, [] => some []
  | n + 1, k :: l => (next (k :: l)).bind fun q => (frames n q.2).map (q.1 :: ·)
theorem setIn_push (h : Array Obj) (o o' : Obj) : (h.push o).setIfInBounds h.size o' = h.push o' := by
  apply Array.ext_getElem?
  intro i
  rw [Array.getElem?_setIfInBounds]
  by_cases e : h.size = i
  · subst e; simp
  · have e' : ¬ i = h.size := fun q => e q.symm
    simp [e, e', Array.getElem?_push]
theorem ins_run (w : World) (es : Array MapEntry) (n : Nat) (k : Int) (v : Value) (hf : Instr.findNow (.int .u8) (.int .u8 k) es.toList 0 = some none) :
    (Instr.mapUpdate 143 (.map (some w.heap.size)) (.int .u8 k) v).run Tryd.prog (w.alloc (.map es n)) = .ok () (w.alloc (.map (es.push { key := .int .u8 k, val := v, born := n }) (n + 1))) := by
  have hb : (w.alloc (.map es n)).heap[w.heap.size]? = some (.map es n) := World.alloc_heap_new _ _
  have hc : (Instr.checkKey false 10000 5 (.int .u8 k)).run Tryd.prog (w.alloc (.map es n)) = .ok () (w.alloc (.map es n)) := MapKept.run_checkKey (k := .int .u8 k) Tryd.underlying5 (by simp [MapKept.IsKey]) false 9999
  simp [Instr.mapUpdate, run_underlying Tryd.underlying143, MapKept.run_getObj_map hb, hc, MapKept.run_findKey Tryd.underlying5 hf, MapKept.run_setObj_map _ hb, Result.andThen]
  simp only [World.alloc, setIn_push]
theorem look_run (w : World) (r : Nat) (es : Array MapEntry) (n : Nat) (k : Int) (i : Nat) (v : Value) (hb : w.heap[r]? = some (.map es n)) (hf : Instr.findNow (.int .u8) (.int .u8 k) es.toList 0 = some (some (i, v))) :
    (Instr.lookup 143 (.map (some r)) (.int .u8 k) false).run Tryd.prog w = .ok v w := by
  have hc : (Instr.checkKey es.isEmpty 10000 5 (.int .u8 k)).run Tryd.prog w = .ok () w := MapKept.run_checkKey (k := .int .u8 k) Tryd.underlying5 (by simp [MapKept.IsKey]) _ 9999
  simp [Instr.lookup, run_underlying Tryd.underlying143, MapKept.run_getObj_map hb, hc, MapKept.run_findKey Tryd.underlying5 hf, Result.andThen]
theorem zero129 (w : World) : (zeroValue 129).run Tryd.prog w = .ok .nilFunc w := by kernel_rfl
theorem look_none (w : World) (r : Nat) (es : Array MapEntry) (n : Nat) (k : Int) (hb : w.heap[r]? = some (.map es n)) (hf : Instr.findNow (.int .u8) (.int .u8 k) es.toList 0 = some none) :
    (Instr.lookup 143 (.map (some r)) (.int .u8 k) false).run Tryd.prog w = .ok .nilFunc w := by
  have hc : (Instr.checkKey es.isEmpty 10000 5 (.int .u8 k)).run Tryd.prog w = .ok () w := MapKept.run_checkKey (k := .int .u8 k) Tryd.underlying5 (by simp [MapKept.IsKey]) _ 9999
  simp [Instr.lookup, run_underlying Tryd.underlying143, MapKept.run_getObj_map hb, hc, MapKept.run_findKey Tryd.underlying5 hf, zero129, Result.andThen]
def fv (f rb : Nat) : Value := .func (.func f) #[.pointer (some ⟨rb, 0, none⟩)] #[]
theorem neq_func (w : World) (f rb : Nat) : (binOp .neq 129 (fv f rb) .nilFunc).run Tryd.prog w = .ok (.bool true) w := by kernel_rfl
theorem neq_nil (w : World) : (binOp .neq 129 .nilFunc .nilFunc).run Tryd.prog w = .ok (.bool false) w := by kernel_rfl
theorem ackF_len : ∀ (d : Nat) (p : Int) (l : List Int) (s : List S103) (r : List Int), ackF d p l = some (s, r) → s.length = d := by
  intro d
  induction d with
  | zero => intro p l s r h; injection h with h; injection h with h _; subst h; rfl
  | succ d ih =>
    intro p l s r h
    rw [ackF] at h
    obtain ⟨g, _, h⟩ := Option.bind_eq_some_iff.1 h
    obtain ⟨sp, _, h⟩ := Option.bind_eq_some_iff.1 h
    obtain ⟨⟨t, r'⟩, ht, h⟩ := Option.map_eq_some_iff.1 h
    injection h with h1 _
    subst h1
    simp [ih _ _ _ _ ht]
theorem ackR_len {l r : List Int} {s : List S103} (h : ackR l = some (s, r)) : s.length ≤ 33 := by
  unfold ackR at h
  obtain ⟨⟨a, l1⟩, _, h⟩ := Option.bind_eq_some_iff.1 h
  obtain ⟨⟨m, l2⟩, _, h⟩ := Option.bind_eq_some_iff.1 h
  simp only [] at h
  split at h
  · obtain ⟨sp, _, h⟩ := Option.bind_eq_some_iff.1 h
    obtain ⟨⟨t, r'⟩, ht, h⟩ := Option.map_eq_some_iff.1 h
    injection h with h1 _
    subst h1
    simp [ackF_len _ _ _ _ _ ht]
    omega
  · cases h
theorem body_len {k : Int} {l x : List Int} {f : S58} (h : body k l = some (f, x)) : f.f2.length ≤ 33 := by
  unfold body at h
  split at h
  · injection h with h; injection h with h _; subst h; simp
  split at h
  · injection h with h; injection h with h _; subst h; simp
  split at h
  · injection h with h; injection h with h _; subst h; simp
  split at h
  · obtain ⟨⟨s, r⟩, ha, h⟩ := Option.map_eq_some_iff.1 h
    injection h with h _; subst h
    exact ackR_len ha
  split at h
  · obtain ⟨a, _, h⟩ := Option.bind_eq_some_iff.1 h
    obtain ⟨n, _, h⟩ := Option.bind_eq_some_iff.1 h
    obtain ⟨d, _, h⟩ := Option.map_eq_some_iff.1 h
    injection h with h _; subst h; simp
  split at h
  · obtain ⟨d, _, h⟩ := Option.map_eq_some_iff.1 h
    injection h with h _; subst h; simp
  split at h
  · obtain ⟨a, _, h⟩ := Option.bind_eq_some_iff.1 h
    obtain ⟨d, _, h⟩ := Option.map_eq_some_iff.1 h
    injection h with h _; subst h; simp
  split at h
  · obtain ⟨d, _, h⟩ := Option.map_eq_some_iff.1 h
    injection h with h _; subst h; simp
  · cases h
end Go.Proofs.YtbcleckapamicaaDoor.Fd
namespace Go.Proofs.YtbcleckapamicaaDoor.Fd
open Go Go.RowKit Go.Proofs.YtbcleckapamicaaDoorW.PrintWords Go.Proofs.YtbcleckapamicaaDoorW.PrintLast Go.Proofs.YtbcleckapamicaaDoorW.PrintMore
open Go.Proofs.YtbcleckapamicaaDoor.QFr (S58 S103 k58 k103 frame_Right.calls)
open Go.Proofs.YtbcleckapamicaaDoor.Onl (Only)
open Go.Proofs.YtbcleckapamicaaDoor.Vn (vread vsize num)
set_option linter.unusedVariables false
set_option linter.unusedSimpArgs false
structure Tbl (w : World) (rb : Nat) : Prop where
  i0 : (Instr.mapUpdate 143 (.map (some (w.heap.size + 1))) (.int .u8 0) (.func (.func 97) #[.pointer (some ⟨rb, 0, none⟩)] #[])).run Tryd.prog ((w.alloc (.cells #[.int .i64 0, .int .i64 0, .slice none 0 0, .int .i64 0, .slice none 0 0, .int .i64 0] 58)).alloc (.map #[] 0)) = .ok () ((w.alloc (.cells #[.int .i64 0, .int .i64 0, .slice none 0 0, .int .i64 0, .slice none 0 0, .int .i64 0] 58)).alloc (.map #[{ key := .int .u8 0, val := .func (.func 97) #[.pointer (some ⟨rb, 0, none⟩)] #[], born := 0 }] 1))
  i1 : (Instr.mapUpdate 143 (.map (some (w.heap.size + 1))) (.int .u8 1) (.func (.func 98) #[.pointer (some ⟨rb, 0, none⟩)] #[])).run Tryd.prog ((w.alloc (.cells #[.int .i64 0, .int .i64 0, .slice none 0 0, .int .i64 0, .slice none 0 0, .int .i64 0] 58)).alloc (.map #[{ key := .int .u8 0, val := .func (.func 97) #[.pointer (some ⟨rb, 0, none⟩)] #[], born := 0 }] 1)) = .ok () ((w.alloc (.cells #[.int .i64 0, .int .i64 0, .slice none 0 0, .int .i64 0, .slice none 0 0, .int .i64 0] 58)).alloc (.map #[{ key := .int .u8 0, val := .func (.func 97) #[.pointer (some ⟨rb, 0, none⟩)] #[], born := 0 }, { key := .int .u8 1, val := .func (.func 98) #[.pointer (some ⟨rb, 0, none⟩)] #[], born := 1 }] 2))
  i2 : (Instr.mapUpdate 143 (.map (some (w.heap.size + 1))) (.int .u8 2) (.func (.func 99) #[.pointer (some ⟨rb, 0, none⟩)] #[])).run Tryd.prog ((w.alloc (.cells #[.int .i64 0, .int .i64 0, .slice none 0 0, .int .i64 0, .slice none 0 0, .int .i64 0] 58)).alloc (.map #[{ key := .int .u8 0, val := .func (.func 97) #[.pointer (some ⟨rb, 0, none⟩)] #[], born := 0 }, { key := .int .u8 1, val := .func (.func 98) #[.pointer (some ⟨rb, 0, none⟩)] #[], born := 1 }] 2)) = .ok () ((w.alloc (.cells #[.int .i64 0, .int .i64 0, .slice none 0 0, .int .i64 0, .slice none 0 0, .int .i64 0] 58)).alloc (.map #[{ key := .int .u8 0, val := .func (.func 97) #[.pointer (some ⟨rb, 0, none⟩)] #[], born := 0 }, { key := .int .u8 1, val := .func (.func 98) #[.pointer (some ⟨rb, 0, none⟩)] #[], born := 1 }, { key := .int .u8 2, val := .func (.func 99) #[.pointer (some ⟨rb, 0, none⟩)] #[], born := 2 }] 3))
  i3 : (Instr.mapUpdate 143 (.map (some (w.heap.size + 1))) (.int .u8 6) (.func (.func 100) #[.pointer (some ⟨rb, 0, none⟩)] #[])).run Tryd.prog ((w.alloc (.cells #[.int .i64 0, .int .i64 0, .slice none 0 0, .int .i64 0, .slice none 0 0, .int .i64 0] 58)).alloc (.map #[{ key := .int .u8 0, val := .func (.func 97) #[.pointer (some ⟨rb, 0, none⟩)] #[], born := 0 }, { key := .int .u8 1, val := .func (.func 98) #[.pointer (some ⟨rb, 0, none⟩)] #[], born := 1 }, { key := .int .u8 2, val := .func (.func 99) #[.pointer (some ⟨rb, 0, none⟩)] #[], born := 2 }] 3)) = .ok () ((w.alloc (.cells #[.int .i64 0, .int .i64 0, .slice none 0 0, .int .i64 0, .slice none 0 0, .int .i64 0] 58)).alloc (.map #[{ key := .int .u8 0, val := .func (.func 97) #[.pointer (some ⟨rb, 0, none⟩)] #[], born := 0 }, { key := .int .u8 1, val := .func (.func 98) #[.pointer (some ⟨rb, 0, none⟩)] #[], born := 1 }, { key := .int .u8 2, val := .func (.func 99) #[.pointer (some ⟨rb, 0, none⟩)] #[], born := 2 }, { key := .int .u8 6, val := .func (.func 100) #[.pointer (some ⟨rb, 0, none⟩)] #[], born := 3 }] 4))
  i4 : (Instr.mapUpdate 143 (.map (some (w.heap.size + 1))) (.int .u8 7) (.func (.func 101) #[.pointer (some ⟨rb, 0, none⟩)] #[])).run Tryd.prog ((w.alloc (.cells #[.int .i64 0, .int .i64 0, .slice none 0 0, .int .i64 0, .slice none 0 0, .int .i64 0] 58)).alloc (.map #[{ key := .int .u8 0, val := .func (.func 97) #[.pointer (some ⟨rb, 0, none⟩)] #[], born := 0 }, { key := .int .u8 1, val := .func (.func 98) #[.pointer (some ⟨rb, 0, none⟩)] #[], born := 1 }, { key := .int .u8 2, val := .func (.func 99) #[.pointer (some ⟨rb, 0, none⟩)] #[], born := 2 }, { key := .int .u8 6, val := .func (.func 100) #[.pointer (some ⟨rb, 0, none⟩)] #[], born := 3 }] 4)) = .ok () ((w.alloc (.cells #[.int .i64 0, .int .i64 0, .slice none 0 0, .int .i64 0, .slice none 0 0, .int .i64 0] 58)).alloc (.map #[{ key := .int .u8 0, val := .func (.func 97) #[.pointer (some ⟨rb, 0, none⟩)] #[], born := 0 }, { key := .int .u8 1, val := .func (.func 98) #[.pointer (some ⟨rb, 0, none⟩)] #[], born := 1 }, { key := .int .u8 2, val := .func (.func 99) #[.pointer (some ⟨rb, 0, none⟩)] #[], born := 2 }, { key := .int .u8 6, val := .func (.func 100) #[.pointer (some ⟨rb, 0, none⟩)] #[], born := 3 }, { key := .int .u8 7, val := .func (.func 101) #[.pointer (some ⟨rb, 0, none⟩)] #[], born := 4 }] 5))
  i5 : (Instr.mapUpdate 143 (.map (some (w.heap.size + 1))) (.int .u8 8) (.func (.func 102) #[.pointer (some ⟨rb, 0, none⟩)] #[])).run Tryd.prog ((w.alloc (.cells #[.int .i64 0, .int .i64 0, .slice none 0 0, .int .i64 0, .slice none 0 0, .int .i64 0] 58)).alloc (.map #[{ key := .int .u8 0, val := .func (.func 97) #[.pointer (some ⟨rb, 0, none⟩)] #[], born := 0 }, { key := .int .u8 1, val := .func (.func 98) #[.pointer (some ⟨rb, 0, none⟩)] #[], born := 1 }, { key := .int .u8 2, val := .func (.func 99) #[.pointer (some ⟨rb, 0, none⟩)] #[], born := 2 }, { key := .int .u8 6, val := .func (.func 100) #[.pointer (some ⟨rb, 0, none⟩)] #[], born := 3 }, { key := .int .u8 7, val := .func (.func 101) #[.pointer (some ⟨rb, 0, none⟩)] #[], born := 4 }] 5)) = .ok () ((w.alloc (.cells #[.int .i64 0, .int .i64 0, .slice none 0 0, .int .i64 0, .slice none 0 0, .int .i64 0] 58)).alloc (.map #[{ key := .int .u8 0, val := .func (.func 97) #[.pointer (some ⟨rb, 0, none⟩)] #[], born := 0 }, { key := .int .u8 1, val := .func (.func 98) #[.pointer (some ⟨rb, 0, none⟩)] #[], born := 1 }, { key := .int .u8 2, val := .func (.func 99) #[.pointer (some ⟨rb, 0, none⟩)] #[], born := 2 }, { key := .int .u8 6, val := .func (.func 100) #[.pointer (some ⟨rb, 0, none⟩)] #[], born := 3 }, { key := .int .u8 7, val := .func (.func 101) #[.pointer (some ⟨rb, 0, none⟩)] #[], born := 4 }, { key := .int .u8 8, val := .func (.func 102) #[.pointer (some ⟨rb, 0, none⟩)] #[], born := 5 }] 6))
  i6 : (Instr.mapUpdate 143 (.map (some (w.heap.size + 1))) (.int .u8 28) (.func (.func 103) #[.pointer (some ⟨rb, 0, none⟩)] #[])).run Tryd.prog ((w.alloc (.cells #[.int .i64 0, .int .i64 0, .slice none 0 0, .int .i64 0, .slice none 0 0, .int .i64 0] 58)).alloc (.map #[{ key := .int .u8 0, val := .func (.func 97) #[.pointer (some ⟨rb, 0, none⟩)] #[], born := 0 }, { key := .int .u8 1, val := .func (.func 98) #[.pointer (some ⟨rb, 0, none⟩)] #[], born := 1 }, { key := .int .u8 2, val := .func (.func 99) #[.pointer (some ⟨rb, 0, none⟩)] #[], born := 2 }, { key := .int .u8 6, val := .func (.func 100) #[.pointer (some ⟨rb, 0, none⟩)] #[], born := 3 }, { key := .int .u8 7, val := .func (.func 101) #[.pointer (some ⟨rb, 0, none⟩)] #[], born := 4 }, { key := .int .u8 8, val := .func (.func 102) #[.pointer (some ⟨rb, 0, none⟩)] #[], born := 5 }] 6)) = .ok () ((w.alloc (.cells #[.int .i64 0, .int .i64 0, .slice none 0 0, .int .i64 0, .slice none 0 0, .int .i64 0] 58)).alloc (.map #[{ key := .int .u8 0, val := .func (.func 97) #[.pointer (some ⟨rb, 0, none⟩)] #[], born := 0 }, { key := .int .u8 1, val := .func (.func 98) #[.pointer (some ⟨rb, 0, none⟩)] #[], born := 1 }, { key := .int .u8 2, val := .func (.func 99) #[.pointer (some ⟨rb, 0, none⟩)] #[], born := 2 }, { key := .int .u8 6, val := .func (.func 100) #[.pointer (some ⟨rb, 0, none⟩)] #[], born := 3 }, { key := .int .u8 7, val := .func (.func 101) #[.pointer (some ⟨rb, 0, none⟩)] #[], born := 4 }, { key := .int .u8 8, val := .func (.func 102) #[.pointer (some ⟨rb, 0, none⟩)] #[], born := 5 }, { key := .int .u8 28, val := .func (.func 103) #[.pointer (some ⟨rb, 0, none⟩)] #[], born := 6 }] 7))
  i7 : (Instr.mapUpdate 143 (.map (some (w.heap.size + 1))) (.int .u8 30) (.func (.func 104) #[.pointer (some ⟨rb, 0, none⟩)] #[])).run Tryd.prog ((w.alloc (.cells #[.int .i64 0, .int .i64 0, .slice none 0 0, .int .i64 0, .slice none 0 0, .int .i64 0] 58)).alloc (.map #[{ key := .int .u8 0, val := .func (.func 97) #[.pointer (some ⟨rb, 0, none⟩)] #[], born := 0 }, { key := .int .u8 1, val := .func (.func 98) #[.pointer (some ⟨rb, 0, none⟩)] #[], born := 1 }, { key := .int .u8 2, val := .func (.func 99) #[.pointer (some ⟨rb, 0, none⟩)] #[], born := 2 }, { key := .int .u8 6, val := .func (.func 100) #[.pointer (some ⟨rb, 0, none⟩)] #[], born := 3 }, { key := .int .u8 7, val := .func (.func 101) #[.pointer (some ⟨rb, 0, none⟩)] #[], born := 4 }, { key := .int .u8 8, val := .func (.func 102) #[.pointer (some ⟨rb, 0, none⟩)] #[], born := 5 }, { key := .int .u8 28, val := .func (.func 103) #[.pointer (some ⟨rb, 0, none⟩)] #[], born := 6 }] 7)) = .ok () ((w.alloc (.cells #[.int .i64 0, .int .i64 0, .slice none 0 0, .int .i64 0, .slice none 0 0, .int .i64 0] 58)).alloc (.map #[{ key := .int .u8 0, val := .func (.func 97) #[.pointer (some ⟨rb, 0, none⟩)] #[], born := 0 }, { key := .int .u8 1, val := .func (.func 98) #[.pointer (some ⟨rb, 0, none⟩)] #[], born := 1 }, { key := .int .u8 2, val := .func (.func 99) #[.pointer (some ⟨rb, 0, none⟩)] #[], born := 2 }, { key := .int .u8 6, val := .func (.func 100) #[.pointer (some ⟨rb, 0, none⟩)] #[], born := 3 }, { key := .int .u8 7, val := .func (.func 101) #[.pointer (some ⟨rb, 0, none⟩)] #[], born := 4 }, { key := .int .u8 8, val := .func (.func 102) #[.pointer (some ⟨rb, 0, none⟩)] #[], born := 5 }, { key := .int .u8 28, val := .func (.func 103) #[.pointer (some ⟨rb, 0, none⟩)] #[], born := 6 }, { key := .int .u8 30, val := .func (.func 104) #[.pointer (some ⟨rb, 0, none⟩)] #[], born := 7 }] 8))
theorem Tbl.mk' (w : World) (rb : Nat) : Tbl w rb := by
  have h := fun es n k v hf => ins_run (w.alloc (.cells #[.int .i64 0, .int .i64 0, .slice none 0 0, .int .i64 0, .slice none 0 0, .int .i64 0] 58)) es n k v hf
  rw [World.size_alloc] at h
  exact ⟨h #[] 0 0 _ rfl, h #[{ key := .int .u8 0, val := .func (.func 97) #[.pointer (some ⟨rb, 0, none⟩)] #[], born := 0 }] 1 1 _ rfl, h #[{ key := .int .u8 0, val := .func (.func 97) #[.pointer (some ⟨rb, 0, none⟩)] #[], born := 0 }, { key := .int .u8 1, val := .func (.func 98) #[.pointer (some ⟨rb, 0, none⟩)] #[], born := 1 }] 2 2 _ rfl, h #[{ key := .int .u8 0, val := .func (.func 97) #[.pointer (some ⟨rb, 0, none⟩)] #[], born := 0 }, { key := .int .u8 1, val := .func (.func 98) #[.pointer (some ⟨rb, 0, none⟩)] #[], born := 1 }, { key := .int .u8 2, val := .func (.func 99) #[.pointer (some ⟨rb, 0, none⟩)] #[], born := 2 }] 3 6 _ rfl, h #[{ key := .int .u8 0, val := .func (.func 97) #[.pointer (some ⟨rb, 0, none⟩)] #[], born := 0 }, { key := .int .u8 1, val := .func (.func 98) #[.pointer (some ⟨rb, 0, none⟩)] #[], born := 1 }, { key := .int .u8 2, val := .func (.func 99) #[.pointer (some ⟨rb, 0, none⟩)] #[], born := 2 }, { key := .int .u8 6, val := .func (.func 100) #[.pointer (some ⟨rb, 0, none⟩)] #[], born := 3 }] 4 7 _ rfl, h #[{ key := .int .u8 0, val := .func (.func 97) #[.pointer (some ⟨rb, 0, none⟩)] #[], born := 0 }, { key := .int .u8 1, val := .func (.func 98) #[.pointer (some ⟨rb, 0, none⟩)] #[], born := 1 }, { key := .int .u8 2, val := .func (.func 99) #[.pointer (some ⟨rb, 0, none⟩)] #[], born := 2 }, { key := .int .u8 6, val := .func (.func 100) #[.pointer (some ⟨rb, 0, none⟩)] #[], born := 3 }, { key := .int .u8 7, val := .func (.func 101) #[.pointer (some ⟨rb, 0, none⟩)] #[], born := 4 }] 5 8 _ rfl, h #[{ key := .int .u8 0, val := .func (.func 97) #[.pointer (some ⟨rb, 0, none⟩)] #[], born := 0 }, { key := .int .u8 1, val := .func (.func 98) #[.pointer (some ⟨rb, 0, none⟩)] #[], born := 1 }, { key := .int .u8 2, val := .func (.func 99) #[.pointer (some ⟨rb, 0, none⟩)] #[], born := 2 }, { key := .int .u8 6, val := .func (.func 100) #[.pointer (some ⟨rb, 0, none⟩)] #[], born := 3 }, { key := .int .u8 7, val := .func (.func 101) #[.pointer (some ⟨rb, 0, none⟩)] #[], born := 4 }, { key := .int .u8 8, val := .func (.func 102) #[.pointer (some ⟨rb, 0, none⟩)] #[], born := 5 }] 6 28 _ rfl, h #[{ key := .int .u8 0, val := .func (.func 97) #[.pointer (some ⟨rb, 0, none⟩)] #[], born := 0 }, { key := .int .u8 1, val := .func (.func 98) #[.pointer (some ⟨rb, 0, none⟩)] #[], born := 1 }, { key := .int .u8 2, val := .func (.func 99) #[.pointer (some ⟨rb, 0, none⟩)] #[], born := 2 }, { key := .int .u8 6, val := .func (.func 100) #[.pointer (some ⟨rb, 0, none⟩)] #[], born := 3 }, { key := .int .u8 7, val := .func (.func 101) #[.pointer (some ⟨rb, 0, none⟩)] #[], born := 4 }, { key := .int .u8 8, val := .func (.func 102) #[.pointer (some ⟨rb, 0, none⟩)] #[], born := 5 }, { key := .int .u8 28, val := .func (.func 103) #[.pointer (some ⟨rb, 0, none⟩)] #[], born := 6 }] 7 30 _ rfl⟩
theorem front {w0 w w3 : World} {rb : Nat} {k : Int} {t : List Int} (h : Rdx w0 w rb (k :: t)) (o : Obj) (ho : Only (fun k => k = rb) ((w.alloc (.cells #[.int .i64 0, .int .i64 0, .slice none 0 0, .int .i64 0, .slice none 0 0, .int .i64 0] 58)).alloc o) w3) :
    Blk w3 w.heap.size [.int .i64 0, .int .i64 0, .slice none 0 0, .int .i64 0, .slice none 0 0, .int .i64 0] ∧ Only (fun k => k = rb) w w3 ∧ w3.heap[w.heap.size + 1]? = some o ∧ w.heap.size + 1 + 1 ≤ w3.heap.size := by
  have hl := h.lt
  have B := ((Blk.new w [.int .i64 0, .int .i64 0, .slice none 0 0, .int .i64 0, .slice none 0 0, .int .i64 0]).only (p := fun _ => False) ((Only.refl _ _).alloc o) (fun q => q)).only ho (by omega)
  have hn : ((w.alloc (.cells #[.int .i64 0, .int .i64 0, .slice none 0 0, .int .i64 0, .slice none 0 0, .int .i64 0] 58)).alloc o).heap[w.heap.size + 1]? = some o := by
    have := World.alloc_heap_new (w.alloc (.cells #[.int .i64 0, .int .i64 0, .slice none 0 0, .int .i64 0, .slice none 0 0, .int .i64 0] 58)) o
    rw [World.size_alloc] at this
    exact this
  have hs := ho.size
  rw [World.size_alloc, World.size_alloc] at hs
  exact ⟨B, (((Only.refl _ w).alloc _).alloc o).trans ho, (ho.block _ (by rw [World.size_alloc, World.size_alloc]; omega) (by omega)).trans hn, hs⟩
theorem rbyt_one {k : Int} {t : List Int} : rbyt (k :: t) 1 = some ([k], t) := by
  unfold rbyt
  rw [if_pos (by simp; omega)]
  rfl
set_option maxHeartbeats 2000000 in
set_option maxRecDepth 100000 in
theorem next_padding {w0 w : World} {rb : Nat} {t : List Int} (h : Rdx w0 w rb (0 :: t)) :
    Calls Tryd.prog 80 #[.pointer (some ⟨rb, 0, none⟩)] w (FrmP w0 w rb (next (0 :: t))) := by
  have hmf : ∀ (fn : Fn) (first cap : Array Value) (w : World), (Instr.makeFunc fn first cap).run Tryd.prog w = .ok (.func fn first cap) w := fun _ _ _ _ => rfl
  have hmm := @run_makeMap Tryd.prog
  have TB := Tbl.mk' w rb
  have i0 := TB.i0
  have i1 := TB.i1
  have i2 := TB.i2
  have i3 := TB.i3
  have i4 := TB.i4
  have i5 := TB.i5
  have i6 := TB.i6
  have i7 := TB.i7
  clear TB
  have hb2 : Below w.heap.size w ((w.alloc (.cells #[.int .i64 0, .int .i64 0, .slice none 0 0, .int .i64 0, .slice none 0 0, .int .i64 0] 58)).alloc (.map #[{ key := .int .u8 0, val := .func (.func 97) #[.pointer (some ⟨rb, 0, none⟩)] #[], born := 0 }, { key := .int .u8 1, val := .func (.func 98) #[.pointer (some ⟨rb, 0, none⟩)] #[], born := 1 }, { key := .int .u8 2, val := .func (.func 99) #[.pointer (some ⟨rb, 0, none⟩)] #[], born := 2 }, { key := .int .u8 6, val := .func (.func 100) #[.pointer (some ⟨rb, 0, none⟩)] #[], born := 3 }, { key := .int .u8 7, val := .func (.func 101) #[.pointer (some ⟨rb, 0, none⟩)] #[], born := 4 }, { key := .int .u8 8, val := .func (.func 102) #[.pointer (some ⟨rb, 0, none⟩)] #[], born := 5 }, { key := .int .u8 28, val := .func (.func 103) #[.pointer (some ⟨rb, 0, none⟩)] #[], born := 6 }, { key := .int .u8 30, val := .func (.func 104) #[.pointer (some ⟨rb, 0, none⟩)] #[], born := 7 }] 8)) := below_alloc (below_alloc (Below.refl _ _) _) _
  have HC := bytes_post (h.below hb2) 1 (by omega)
  rw [rbyt_one] at HC
  have HCA := Aside0.mk HC
  have HF := Aside0.mk (fun (w3 : World) ho => front (w3 := w3) h (.map #[{ key := .int .u8 0, val := .func (.func 97) #[.pointer (some ⟨rb, 0, none⟩)] #[], born := 0 }, { key := .int .u8 1, val := .func (.func 98) #[.pointer (some ⟨rb, 0, none⟩)] #[], born := 1 }, { key := .int .u8 2, val := .func (.func 99) #[.pointer (some ⟨rb, 0, none⟩)] #[], born := 2 }, { key := .int .u8 6, val := .func (.func 100) #[.pointer (some ⟨rb, 0, none⟩)] #[], born := 3 }, { key := .int .u8 7, val := .func (.func 101) #[.pointer (some ⟨rb, 0, none⟩)] #[], born := 4 }, { key := .int .u8 8, val := .func (.func 102) #[.pointer (some ⟨rb, 0, none⟩)] #[], born := 5 }, { key := .int .u8 28, val := .func (.func 103) #[.pointer (some ⟨rb, 0, none⟩)] #[], born := 6 }, { key := .int .u8 30, val := .func (.func 104) #[.pointer (some ⟨rb, 0, none⟩)] #[], born := 7 }] 8) ho)
  have HL := Aside0.mk (show rb < w.heap.size ∧ w0.heap.size ≤ rb from ⟨h.lt, h.lo⟩)
  generalize hres : next (0 :: t) = res
  clear HC hb2 h
  go_enter Tryd.func80, Tryd.ntmps80
  go_upto_region 2 with (go_at_call 105; refine HCA.out.mono ?_; rintro e1 w3 ⟨ho, v1, rfl, hR, hx⟩; obtain ⟨A1, c1, rfl, hl1, hC⟩ := Kd.R_reads hR; obtain ⟨ad, rfl, hc⟩ := Kd.at_int hC 0 (by omega) (by simp); simp only [rd, Int.toNat_zero, List.getD_cons_zero] at hc; rw [show ad.add 0 = ad from rfl] at hc; obtain ⟨hblk, hon, hmap, hsz⟩ := HF.out w3 ho; have hlook := look_run w3 (w.heap.size + 1) #[{ key := .int .u8 0, val := .func (.func 97) #[.pointer (some ⟨rb, 0, none⟩)] #[], born := 0 }, { key := .int .u8 1, val := .func (.func 98) #[.pointer (some ⟨rb, 0, none⟩)] #[], born := 1 }, { key := .int .u8 2, val := .func (.func 99) #[.pointer (some ⟨rb, 0, none⟩)] #[], born := 2 }, { key := .int .u8 6, val := .func (.func 100) #[.pointer (some ⟨rb, 0, none⟩)] #[], born := 3 }, { key := .int .u8 7, val := .func (.func 101) #[.pointer (some ⟨rb, 0, none⟩)] #[], born := 4 }, { key := .int .u8 8, val := .func (.func 102) #[.pointer (some ⟨rb, 0, none⟩)] #[], born := 5 }, { key := .int .u8 28, val := .func (.func 103) #[.pointer (some ⟨rb, 0, none⟩)] #[], born := 6 }, { key := .int .u8 30, val := .func (.func 104) #[.pointer (some ⟨rb, 0, none⟩)] #[], born := 7 }] 8 0 0 (.func (.func 97) #[.pointer (some ⟨rb, 0, none⟩)] #[]) hmap rfl; have X3 := Aside0.mk hx; have Z3 := Aside0.mk hblk; have O3 := Aside0.mk hon; have S3 := Aside0.mk hsz; clear ho hR hx hC hl1 hblk hon hmap hsz)
  have hneq : (binOp .neq 129 (.func (.func 97) #[.pointer (some ⟨rb, 0, none⟩)] #[]) .nilFunc).run Tryd.prog w3 = .ok (.bool true) w3 := neq_func w3 97 rb
  clear i0 i1 i2 i3 i4 i5 i6 i7 hmf hmm HCA HF
  obtain ⟨b0, hb0⟩ : ∃ b0, w.heap.size = b0 := ⟨_, rfl⟩
  have hs3 := S3.out
  have hb0' := hb0
  rw [hb0] at Z3 ⊢
  have HI := Aside0.mk (And.intro hb0 (show b0 < w3.heap.size ∧ w.heap.size ≤ w3.heap.size by omega))
  clear hb0 hb0' hs3 S3
  have HB : Calls Tryd.prog 97 #[.pointer (some ⟨rb, 0, none⟩)] w3 (FrmP w0 w3 rb (body 0 t)) := by
    have := padding_post X3.out
    exact this
  rcases hb : body 0 t with _ | ⟨⟨a0, a1, l2, a3, l4, a5⟩, x⟩
  · obtain rfl : none = res := by rw [← hres, next, hb]; rfl
    rw [hb] at HB
    clear hb hres
    go_wp2_with (first | (go_at_call 79; refine (need_ok _).mono ?_; rintro e1 w4 ⟨rfl, rfl⟩) | (go_at_call 97; refine HB.mono ?_; rintro e1 w5 ⟨ho, rfl⟩; have HO := Aside0.mk ho; clear ho))
    exact ⟨rfl, O3.out.trans HO.out, rfl⟩
  have hlen := body_len hb
  have HRES := Aside0.mk (show (if fr58 ⟨a0, a1, l2, a3, l4, a5⟩ then some ((⟨a0, a1, l2, a3, l4, a5⟩ : S58), x) else none) = res by rw [← hres, next, hb]; rfl)
  obtain ⟨b, hb2, hbi⟩ := FrP.right_f a0 a1 l2 a3 l4 a5 (by simp only [] at hlen; omega) 300 (by omega)
  have HRB := Aside0.mk (And.intro hb2 hbi)
  rw [hb] at HB
  clear hb hres hlen hb2 hbi
  go_upto_region 4 with (first | (go_at_call 79; refine (need_ok _).mono ?_; rintro e1 w4 ⟨rfl, rfl⟩) | (go_at_call 97; refine HB.mono ?_; rintro e1 w5 ⟨ho, ⟨v2, v4, rfl, hR2, hR4⟩, hx⟩; obtain ⟨A2, c2, e2⟩ := Kd.R_slice hR2; obtain ⟨A4, c4, e4⟩ := Kd.R_slice hR4; subst e2 e4; have U2 := Aside0.mk (Kd.R_reads' hR2).2; have U4 := Aside0.mk (Kd.R_reads' hR4).2; have R2 := Aside0.mk hR2; have R4 := Aside0.mk hR4; have HO := Aside0.mk ho; have X5 := Aside0.mk hx; clear ho hx hR2 hR4))
  obtain ⟨w6, hw6⟩ : ∃ w6, w5.alloc (.cells #[.int .i64 a0, .int .i64 a1, .slice A2 l2.length c2, .int .i64 a3, .slice A4 l4.length c4, .int .i64 a5] 58) = w6 := ⟨_, rfl⟩
  have hbel : Below w5.heap.size w5 w6 := by rw [← hw6]; exact below_alloc (Below.refl _ _) _
  have hB6 : Blk w6 w5.heap.size [.int .i64 a0, .int .i64 a1, .slice A2 l2.length c2, .int .i64 a3, .slice A4 l4.length c4, .int .i64 a5] := by rw [← hw6]; exact Blk.new w5 _
  have RC := frame_Right.calls 300 a0 a1 A2 c2 l2 a3 A4 c4 l4 a5 b w6 (Kd.C_below U2.out.2 hbel) U2.out.1 (Kd.C_below U4.out.2 hbel) U4.out.1 HRB.out.1
  rw [hw6]
  have hL := HL.out
  have hI := HI.out
  have h5 := HO.out.size
  have Z6 := Aside0.mk (((Z3.out.only HO.out (by omega)).only (Only.of_below hbel : Only (fun _ => False) w5 w6) (fun q => q)))
  have X6 := Aside0.mk (X5.out.below hbel)
  have R26 := Aside0.mk (R_only R2.out (Only.of_below hbel : Only (fun _ => False) w5 w6) (fun _ q => q.elim))
  have R46 := Aside0.mk (R_only R4.out (Only.of_below hbel : Only (fun _ => False) w5 w6) (fun _ q => q.elim))
  have O6 := Aside0.mk ((O3.out.trans HO.out).trans (Only.of_below hbel))
  obtain ⟨hbk, hhb⟩ : ∃ hbk, w5.heap.size = hbk := ⟨_, rfl⟩
  rw [hhb] at hB6 ⊢
  have HB6 := Aside0.mk hB6
  have HJ := Aside0.mk (show b0 < hbk by omega)
  obtain ⟨n2, hn2⟩ : ∃ n2, l2.length = n2 := ⟨_, rfl⟩
  obtain ⟨n4, hn4⟩ : ∃ n4, l4.length = n4 := ⟨_, rfl⟩
  rw [hn2, hn4] at RC HB6
  rw [hn2] at R26
  rw [hn4] at R46
  clear hbel hB6 hw6 hL hI h5 hhb hn2 hn4 U2 U4 R2 R4 HO X5 X3 Z3 O3 HB
  have q0 := HB6.out.cell 0 _ rfl
  have q1 := HB6.out.cell 1 _ rfl
  have q2 := HB6.out.cell 2 _ rfl
  have q3 := HB6.out.cell 3 _ rfl
  have q4 := HB6.out.cell 4 _ rfl
  have q5 := HB6.out.cell 5 _ rfl
  by_cases hfr : fr58 ⟨a0, a1, l2, a3, l4, a5⟩
  rotate_left
  · obtain rfl : none = res := by have := HRES.out; rw [if_neg hfr] at this; exact this
    obtain rfl : b = false := by
      cases b with
      | false => rfl
      | true => exact absurd (HRB.out.2.1 rfl) hfr
    clear hfr
    go_wp2_with (first | (go_at_call 42; refine RC.mono ?_; rintro e1 w7 ⟨rfl, hb7⟩; have HB7 := Aside0.mk hb7; clear hb7) | (go_at_call 79; refine (need_bad _).mono ?_; rintro e1 w4 ⟨rfl, rfl⟩))
    exact ⟨rfl, O6.out.trans (Only.of_below HB7.out), rfl⟩
  obtain rfl : some ((⟨a0, a1, l2, a3, l4, a5⟩ : S58), x) = res := by have := HRES.out; rw [if_pos hfr] at this; exact this
  obtain rfl : b = true := HRB.out.2.2 hfr
  clear hfr
  go_upto_region 5 with (first | (go_at_call 42; refine RC.mono ?_; rintro e1 w7 ⟨rfl, hb7⟩; have HB7 := Aside0.mk hb7; clear hb7) | (go_at_call 79; refine (need_ok _).mono ?_; rintro e1 w4 ⟨rfl, rfl⟩))
  clear RC q0 q1 q2 q3 q4 q5
  have o7 : Only (fun _ => False) w6 w7 := Only.of_below HB7.out
  have B7 := Aside0.mk (HB6.out.only o7 (fun q => q))
  have Z7 := Aside0.mk (Z6.out.only o7 (fun q => q))
  clear o7
  have q0 := B7.out.cell 0 _ rfl
  have q1 := B7.out.cell 1 _ rfl
  have q2 := B7.out.cell 2 _ rfl
  have q3 := B7.out.cell 3 _ rfl
  have q4 := B7.out.cell 4 _ rfl
  have q5 := B7.out.cell 5 _ rfl
  have z0 := Z7.out.cell 0 _ rfl
  have z1 := Z7.out.cell 1 _ rfl
  have z2 := Z7.out.cell 2 _ rfl
  have z3 := Z7.out.cell 3 _ rfl
  have z4 := Z7.out.cell 4 _ rfl
  have z5 := Z7.out.cell 5 _ rfl
  have y0 := Z7.out.frozen 0
  have y1 := Z7.out.frozen 1
  have y2 := Z7.out.frozen 2
  have y3 := Z7.out.frozen 3
  have y4 := Z7.out.frozen 4
  have y5 := Z7.out.frozen 5
  go_wp2
  change bodyPost _ _ _ _ _ (put6 w7 b0 (.int .i64 a0) (.int .i64 a1) (.slice A2 n2 c2) (.int .i64 a3) (.slice A4 n4 c4) (.int .i64 a5))
  have B8 := put6_blk Z7.out (.int .i64 a0) (.int .i64 a1) (.slice A2 n2 c2) (.int .i64 a3) (.slice A4 n4 c4) (.int .i64 a5)
  have O8 := put6_only w7 b0 (.int .i64 a0) (.int .i64 a1) (.slice A2 n2 c2) (.int .i64 a3) (.slice A4 n4 c4) (.int .i64 a5)
  clear q0 q1 q2 q3 q4 q5 z0 z1 z2 z3 z4 z5 y0 y1 y2 y3 y4 y5
  generalize put6 w7 b0 (.int .i64 a0) (.int .i64 a1) (.slice A2 n2 c2) (.int .i64 a3) (.slice A4 n4 c4) (.int .i64 a5) = w8 at *
  have x0 := B8.cell 0 _ rfl
  have x1 := B8.cell 1 _ rfl
  have x2 := B8.cell 2 _ rfl
  have x3 := B8.cell 3 _ rfl
  have x4 := B8.cell 4 _ rfl
  have x5 := B8.cell 5 _ rfl
  refine bodyPost_ret (v := .agg #[.int .i64 a0, .int .i64 a1, .slice A2 n2 c2, .int .i64 a3, .slice A4 n4 c4, .int .i64 a5]) ?_ rfl ?_
  · simp [results, Tryd.results80, go_sem, x0, x1, x2, x3, x4, x5]
  · clear x0 x1 x2 x3 x4 x5 B8
    have hL := HL.out
    have hI := HI.out
    have o7 : Only (fun _ => False) w6 w7 := Only.of_below HB7.out
    have h6 := R_only (R_only R26.out o7 (fun _ q => q.elim)) O8 (fun k q => by omega)
    have h7 := R_only (R_only R46.out o7 (fun _ q => q.elim)) O8 (fun k q => by omega)
    exact ⟨own_only (O6.out.trans (Only.of_below HB7.out)) O8 (by omega), ⟨_, _, rfl, Kd.R_lower h6 hI.2.2, Kd.R_lower h7 hI.2.2⟩, (X6.out.below HB7.out).only O8 (by omega) (by have := X6.out.lo; omega)⟩
set_option maxHeartbeats 2000000 in
set_option maxRecDepth 100000 in
theorem next_ping {w0 w : World} {rb : Nat} {t : List Int} (h : Rdx w0 w rb (1 :: t)) :
    Calls Tryd.prog 80 #[.pointer (some ⟨rb, 0, none⟩)] w (FrmP w0 w rb (next (1 :: t))) := by
  have hmf : ∀ (fn : Fn) (first cap : Array Value) (w : World), (Instr.makeFunc fn first cap).run Tryd.prog w = .ok (.func fn first cap) w := fun _ _ _ _ => rfl
  have hmm := @run_makeMap Tryd.prog
  have TB := Tbl.mk' w rb
  have i0 := TB.i0
  have i1 := TB.i1
  have i2 := TB.i2
  have i3 := TB.i3
  have i4 := TB.i4
  have i5 := TB.i5
  have i6 := TB.i6
  have i7 := TB.i7
  clear TB
  have hb2 : Below w.heap.size w ((w.alloc (.cells #[.int .i64 0, .int .i64 0, .slice none 0 0, .int .i64 0, .slice none 0 0, .int .i64 0] 58)).alloc (.map #[{ key := .int .u8 0, val := .func (.func 97) #[.pointer (some ⟨rb, 0, none⟩)] #[], born := 0 }, { key := .int .u8 1, val := .func (.func 98) #[.pointer (some ⟨rb, 0, none⟩)] #[], born := 1 }, { key := .int .u8 2, val := .func (.func 99) #[.pointer (some ⟨rb, 0, none⟩)] #[], born := 2 }, { key := .int .u8 6, val := .func (.func 100) #[.pointer (some ⟨rb, 0, none⟩)] #[], born := 3 }, { key := .int .u8 7, val := .func (.func 101) #[.pointer (some ⟨rb, 0, none⟩)] #[], born := 4 }, { key := .int .u8 8, val := .func (.func 102) #[.pointer (some ⟨rb, 0, none⟩)] #[], born := 5 }, { key := .int .u8 28, val := .func (.func 103) #[.pointer (some ⟨rb, 0, none⟩)] #[], born := 6 }, { key := .int .u8 30, val := .func (.func 104) #[.pointer (some ⟨rb, 0, none⟩)] #[], born := 7 }] 8)) := below_alloc (below_alloc (Below.refl _ _) _) _
  have HC := bytes_post (h.below hb2) 1 (by omega)
  rw [rbyt_one] at HC
  have HCA := Aside0.mk HC
  have HF := Aside0.mk (fun (w3 : World) ho => front (w3 := w3) h (.map #[{ key := .int .u8 0, val := .func (.func 97) #[.pointer (some ⟨rb, 0, none⟩)] #[], born := 0 }, { key := .int .u8 1, val := .func (.func 98) #[.pointer (some ⟨rb, 0, none⟩)] #[], born := 1 }, { key := .int .u8 2, val := .func (.func 99) #[.pointer (some ⟨rb, 0, none⟩)] #[], born := 2 }, { key := .int .u8 6, val := .func (.func 100) #[.pointer (some ⟨rb, 0, none⟩)] #[], born := 3 }, { key := .int .u8 7, val := .func (.func 101) #[.pointer (some ⟨rb, 0, none⟩)] #[], born := 4 }, { key := .int .u8 8, val := .func (.func 102) #[.pointer (some ⟨rb, 0, none⟩)] #[], born := 5 }, { key := .int .u8 28, val := .func (.func 103) #[.pointer (some ⟨rb, 0, none⟩)] #[], born := 6 }, { key := .int .u8 30, val := .func (.func 104) #[.pointer (some ⟨rb, 0, none⟩)] #[], born := 7 }] 8) ho)
  have HL := Aside0.mk (show rb < w.heap.size ∧ w0.heap.size ≤ rb from ⟨h.lt, h.lo⟩)
  generalize hres : next (1 :: t) = res
  clear HC hb2 h
  go_enter Tryd.func80, Tryd.ntmps80
  go_upto_region 2 with (go_at_call 105; refine HCA.out.mono ?_; rintro e1 w3 ⟨ho, v1, rfl, hR, hx⟩; obtain ⟨A1, c1, rfl, hl1, hC⟩ := Kd.R_reads hR; obtain ⟨ad, rfl, hc⟩ := Kd.at_int hC 0 (by omega) (by simp); simp only [rd, Int.toNat_zero, List.getD_cons_zero] at hc; rw [show ad.add 0 = ad from rfl] at hc; obtain ⟨hblk, hon, hmap, hsz⟩ := HF.out w3 ho; have hlook := look_run w3 (w.heap.size + 1) #[{ key := .int .u8 0, val := .func (.func 97) #[.pointer (some ⟨rb, 0, none⟩)] #[], born := 0 }, { key := .int .u8 1, val := .func (.func 98) #[.pointer (some ⟨rb, 0, none⟩)] #[], born := 1 }, { key := .int .u8 2, val := .func (.func 99) #[.pointer (some ⟨rb, 0, none⟩)] #[], born := 2 }, { key := .int .u8 6, val := .func (.func 100) #[.pointer (some ⟨rb, 0, none⟩)] #[], born := 3 }, { key := .int .u8 7, val := .func (.func 101) #[.pointer (some ⟨rb, 0, none⟩)] #[], born := 4 }, { key := .int .u8 8, val := .func (.func 102) #[.pointer (some ⟨rb, 0, none⟩)] #[], born := 5 }, { key := .int .u8 28, val := .func (.func 103) #[.pointer (some ⟨rb, 0, none⟩)] #[], born := 6 }, { key := .int .u8 30, val := .func (.func 104) #[.pointer (some ⟨rb, 0, none⟩)] #[], born := 7 }] 8 1 1 (.func (.func 98) #[.pointer (some ⟨rb, 0, none⟩)] #[]) hmap rfl; have X3 := Aside0.mk hx; have Z3 := Aside0.mk hblk; have O3 := Aside0.mk hon; have S3 := Aside0.mk hsz; clear ho hR hx hC hl1 hblk hon hmap hsz)
  have hneq : (binOp .neq 129 (.func (.func 98) #[.pointer (some ⟨rb, 0, none⟩)] #[]) .nilFunc).run Tryd.prog w3 = .ok (.bool true) w3 := neq_func w3 98 rb
  clear i0 i1 i2 i3 i4 i5 i6 i7 hmf hmm HCA HF
  obtain ⟨b0, hb0⟩ : ∃ b0, w.heap.size = b0 := ⟨_, rfl⟩
  have hs3 := S3.out
  have hb0' := hb0
  rw [hb0] at Z3 ⊢
  have HI := Aside0.mk (And.intro hb0 (show b0 < w3.heap.size ∧ w.heap.size ≤ w3.heap.size by omega))
  clear hb0 hb0' hs3 S3
  have HB : Calls Tryd.prog 98 #[.pointer (some ⟨rb, 0, none⟩)] w3 (FrmP w0 w3 rb (body 1 t)) := by
    have := ping_post X3.out
    exact this
  rcases hb : body 1 t with _ | ⟨⟨a0, a1, l2, a3, l4, a5⟩, x⟩
  · obtain rfl : none = res := by rw [← hres, next, hb]; rfl
    rw [hb] at HB
    clear hb hres
    go_wp2_with (first | (go_at_call 79; refine (need_ok _).mono ?_; rintro e1 w4 ⟨rfl, rfl⟩) | (go_at_call 98; refine HB.mono ?_; rintro e1 w5 ⟨ho, rfl⟩; have HO := Aside0.mk ho; clear ho))
    exact ⟨rfl, O3.out.trans HO.out, rfl⟩
  have hlen := body_len hb
  have HRES := Aside0.mk (show (if fr58 ⟨a0, a1, l2, a3, l4, a5⟩ then some ((⟨a0, a1, l2, a3, l4, a5⟩ : S58), x) else none) = res by rw [← hres, next, hb]; rfl)
  obtain ⟨b, hb2, hbi⟩ := FrP.right_f a0 a1 l2 a3 l4 a5 (by simp only [] at hlen; omega) 300 (by omega)
  have HRB := Aside0.mk (And.intro hb2 hbi)
  rw [hb] at HB
  clear hb hres hlen hb2 hbi
  go_upto_region 4 with (first | (go_at_call 79; refine (need_ok _).mono ?_; rintro e1 w4 ⟨rfl, rfl⟩) | (go_at_call 98; refine HB.mono ?_; rintro e1 w5 ⟨ho, ⟨v2, v4, rfl, hR2, hR4⟩, hx⟩; obtain ⟨A2, c2, e2⟩ := Kd.R_slice hR2; obtain ⟨A4, c4, e4⟩ := Kd.R_slice hR4; subst e2 e4; have U2 := Aside0.mk (Kd.R_reads' hR2).2; have U4 := Aside0.mk (Kd.R_reads' hR4).2; have R2 := Aside0.mk hR2; have R4 := Aside0.mk hR4; have HO := Aside0.mk ho; have X5 := Aside0.mk hx; clear ho hx hR2 hR4))
  obtain ⟨w6, hw6⟩ : ∃ w6, w5.alloc (.cells #[.int .i64 a0, .int .i64 a1, .slice A2 l2.length c2, .int .i64 a3, .slice A4 l4.length c4, .int .i64 a5] 58) = w6 := ⟨_, rfl⟩
  have hbel : Below w5.heap.size w5 w6 := by rw [← hw6]; exact below_alloc (Below.refl _ _) _
  have hB6 : Blk w6 w5.heap.size [.int .i64 a0, .int .i64 a1, .slice A2 l2.length c2, .int .i64 a3, .slice A4 l4.length c4, .int .i64 a5] := by rw [← hw6]; exact Blk.new w5 _
  have RC := frame_Right.calls 300 a0 a1 A2 c2 l2 a3 A4 c4 l4 a5 b w6 (Kd.C_below U2.out.2 hbel) U2.out.1 (Kd.C_below U4.out.2 hbel) U4.out.1 HRB.out.1
  rw [hw6]
  have hL := HL.out
  have hI := HI.out
  have h5 := HO.out.size
  have Z6 := Aside0.mk (((Z3.out.only HO.out (by omega)).only (Only.of_below hbel : Only (fun _ => False) w5 w6) (fun q => q)))
  have X6 := Aside0.mk (X5.out.below hbel)
  have R26 := Aside0.mk (R_only R2.out (Only.of_below hbel : Only (fun _ => False) w5 w6) (fun _ q => q.elim))
  have R46 := Aside0.mk (R_only R4.out (Only.of_below hbel : Only (fun _ => False) w5 w6) (fun _ q => q.elim))
  have O6 := Aside0.mk ((O3.out.trans HO.out).trans (Only.of_below hbel))
  obtain ⟨hbk, hhb⟩ : ∃ hbk, w5.heap.size = hbk := ⟨_, rfl⟩
  rw [hhb] at hB6 ⊢
  have HB6 := Aside0.mk hB6
  have HJ := Aside0.mk (show b0 < hbk by omega)
  obtain ⟨n2, hn2⟩ : ∃ n2, l2.length = n2 := ⟨_, rfl⟩
  obtain ⟨n4, hn4⟩ : ∃ n4, l4.length = n4 := ⟨_, rfl⟩
  rw [hn2, hn4] at RC HB6
  rw [hn2] at R26
  rw [hn4] at R46
  clear hbel hB6 hw6 hL hI h5 hhb hn2 hn4 U2 U4 R2 R4 HO X5 X3 Z3 O3 HB
  have q0 := HB6.out.cell 0 _ rfl
  have q1 := HB6.out.cell 1 _ rfl
  have q2 := HB6.out.cell 2 _ rfl
  have q3 := HB6.out.cell 3 _ rfl
  have q4 := HB6.out.cell 4 _ rfl
  have q5 := HB6.out.cell 5 _ rfl
  by_cases hfr : fr58 ⟨a0, a1, l2, a3, l4, a5⟩
  rotate_left
  · obtain rfl : none = res := by have := HRES.out; rw [if_neg hfr] at this; exact this
    obtain rfl : b = false := by
      cases b with
      | false => rfl
      | true => exact absurd (HRB.out.2.1 rfl) hfr
    clear hfr
    go_wp2_with (first | (go_at_call 42; refine RC.mono ?_; rintro e1 w7 ⟨rfl, hb7⟩; have HB7 := Aside0.mk hb7; clear hb7) | (go_at_call 79; refine (need_bad _).mono ?_; rintro e1 w4 ⟨rfl, rfl⟩))
    exact ⟨rfl, O6.out.trans (Only.of_below HB7.out), rfl⟩
  obtain rfl : some ((⟨a0, a1, l2, a3, l4, a5⟩ : S58), x) = res := by have := HRES.out; rw [if_pos hfr] at this; exact this
  obtain rfl : b = true := HRB.out.2.2 hfr
  clear hfr
  go_upto_region 5 with (first | (go_at_call 42; refine RC.mono ?_; rintro e1 w7 ⟨rfl, hb7⟩; have HB7 := Aside0.mk hb7; clear hb7) | (go_at_call 79; refine (need_ok _).mono ?_; rintro e1 w4 ⟨rfl, rfl⟩))
  clear RC q0 q1 q2 q3 q4 q5
  have o7 : Only (fun _ => False) w6 w7 := Only.of_below HB7.out
  have B7 := Aside0.mk (HB6.out.only o7 (fun q => q))
  have Z7 := Aside0.mk (Z6.out.only o7 (fun q => q))
  clear o7
  have q0 := B7.out.cell 0 _ rfl
  have q1 := B7.out.cell 1 _ rfl
  have q2 := B7.out.cell 2 _ rfl
  have q3 := B7.out.cell 3 _ rfl
  have q4 := B7.out.cell 4 _ rfl
  have q5 := B7.out.cell 5 _ rfl
  have z0 := Z7.out.cell 0 _ rfl
  have z1 := Z7.out.cell 1 _ rfl
  have z2 := Z7.out.cell 2 _ rfl
  have z3 := Z7.out.cell 3 _ rfl
  have z4 := Z7.out.cell 4 _ rfl
  have z5 := Z7.out.cell 5 _ rfl
  have y0 := Z7.out.frozen 0
  have y1 := Z7.out.frozen 1
  have y2 := Z7.out.frozen 2
  have y3 := Z7.out.frozen 3
  have y4 := Z7.out.frozen 4
  have y5 := Z7.out.frozen 5
  go_wp2
  change bodyPost _ _ _ _ _ (put6 w7 b0 (.int .i64 a0) (.int .i64 a1) (.slice A2 n2 c2) (.int .i64 a3) (.slice A4 n4 c4) (.int .i64 a5))
  have B8 := put6_blk Z7.out (.int .i64 a0) (.int .i64 a1) (.slice A2 n2 c2) (.int .i64 a3) (.slice A4 n4 c4) (.int .i64 a5)
  have O8 := put6_only w7 b0 (.int .i64 a0) (.int .i64 a1) (.slice A2 n2 c2) (.int .i64 a3) (.slice A4 n4 c4) (.int .i64 a5)
  clear q0 q1 q2 q3 q4 q5 z0 z1 z2 z3 z4 z5 y0 y1 y2 y3 y4 y5
  generalize put6 w7 b0 (.int .i64 a0) (.int .i64 a1) (.slice A2 n2 c2) (.int .i64 a3) (.slice A4 n4 c4) (.int .i64 a5) = w8 at *
  have x0 := B8.cell 0 _ rfl
  have x1 := B8.cell 1 _ rfl
  have x2 := B8.cell 2 _ rfl
  have x3 := B8.cell 3 _ rfl
  have x4 := B8.cell 4 _ rfl
  have x5 := B8.cell 5 _ rfl
  refine bodyPost_ret (v := .agg #[.int .i64 a0, .int .i64 a1, .slice A2 n2 c2, .int .i64 a3, .slice A4 n4 c4, .int .i64 a5]) ?_ rfl ?_
  · simp [results, Tryd.results80, go_sem, x0, x1, x2, x3, x4, x5]
  · clear x0 x1 x2 x3 x4 x5 B8
    have hL := HL.out
    have hI := HI.out
    have o7 : Only (fun _ => False) w6 w7 := Only.of_below HB7.out
    have h6 := R_only (R_only R26.out o7 (fun _ q => q.elim)) O8 (fun k q => by omega)
    have h7 := R_only (R_only R46.out o7 (fun _ q => q.elim)) O8 (fun k q => by omega)
    exact ⟨own_only (O6.out.trans (Only.of_below HB7.out)) O8 (by omega), ⟨_, _, rfl, Kd.R_lower h6 hI.2.2, Kd.R_lower h7 hI.2.2⟩, (X6.out.below HB7.out).only O8 (by omega) (by have := X6.out.lo; omega)⟩
set_option maxHeartbeats 2000000 in
set_option maxRecDepth 100000 in
theorem next_ack {w0 w : World} {rb : Nat} {t : List Int} (h : Rdx w0 w rb (2 :: t)) :
    Calls Tryd.prog 80 #[.pointer (some ⟨rb, 0, none⟩)] w (FrmP w0 w rb (next (2 :: t))) := by
  have hmf : ∀ (fn : Fn) (first cap : Array Value) (w : World), (Instr.makeFunc fn first cap).run Tryd.prog w = .ok (.func fn first cap) w := fun _ _ _ _ => rfl
  have hmm := @run_makeMap Tryd.prog
  have TB := Tbl.mk' w rb
  have i0 := TB.i0
  have i1 := TB.i1
  have i2 := TB.i2
  have i3 := TB.i3
  have i4 := TB.i4
  have i5 := TB.i5
  have i6 := TB.i6
  have i7 := TB.i7
  clear TB
  have hb2 : Below w.heap.size w ((w.alloc (.cells #[.int .i64 0, .int .i64 0, .slice none 0 0, .int .i64 0, .slice none 0 0, .int .i64 0] 58)).alloc (.map #[{ key := .int .u8 0, val := .func (.func 97) #[.pointer (some ⟨rb, 0, none⟩)] #[], born := 0 }, { key := .int .u8 1, val := .func (.func 98) #[.pointer (some ⟨rb, 0, none⟩)] #[], born := 1 }, { key := .int .u8 2, val := .func (.func 99) #[.pointer (some ⟨rb, 0, none⟩)] #[], born := 2 }, { key := .int .u8 6, val := .func (.func 100) #[.pointer (some ⟨rb, 0, none⟩)] #[], born := 3 }, { key := .int .u8 7, val := .func (.func 101) #[.pointer (some ⟨rb, 0, none⟩)] #[], born := 4 }, { key := .int .u8 8, val := .func (.func 102) #[.pointer (some ⟨rb, 0, none⟩)] #[], born := 5 }, { key := .int .u8 28, val := .func (.func 103) #[.pointer (some ⟨rb, 0, none⟩)] #[], born := 6 }, { key := .int .u8 30, val := .func (.func 104) #[.pointer (some ⟨rb, 0, none⟩)] #[], born := 7 }] 8)) := below_alloc (below_alloc (Below.refl _ _) _) _
  have HC := bytes_post (h.below hb2) 1 (by omega)
  rw [rbyt_one] at HC
  have HCA := Aside0.mk HC
  have HF := Aside0.mk (fun (w3 : World) ho => front (w3 := w3) h (.map #[{ key := .int .u8 0, val := .func (.func 97) #[.pointer (some ⟨rb, 0, none⟩)] #[], born := 0 }, { key := .int .u8 1, val := .func (.func 98) #[.pointer (some ⟨rb, 0, none⟩)] #[], born := 1 }, { key := .int .u8 2, val := .func (.func 99) #[.pointer (some ⟨rb, 0, none⟩)] #[], born := 2 }, { key := .int .u8 6, val := .func (.func 100) #[.pointer (some ⟨rb, 0, none⟩)] #[], born := 3 }, { key := .int .u8 7, val := .func (.func 101) #[.pointer (some ⟨rb, 0, none⟩)] #[], born := 4 }, { key := .int .u8 8, val := .func (.func 102) #[.pointer (some ⟨rb, 0, none⟩)] #[], born := 5 }, { key := .int .u8 28, val := .func (.func 103) #[.pointer (some ⟨rb, 0, none⟩)] #[], born := 6 }, { key := .int .u8 30, val := .func (.func 104) #[.pointer (some ⟨rb, 0, none⟩)] #[], born := 7 }] 8) ho)
  have HL := Aside0.mk (show rb < w.heap.size ∧ w0.heap.size ≤ rb from ⟨h.lt, h.lo⟩)
  generalize hres : next (2 :: t) = res
  clear HC hb2 h
  go_enter Tryd.func80, Tryd.ntmps80
  go_upto_region 2 with (go_at_call 105; refine HCA.out.mono ?_; rintro e1 w3 ⟨ho, v1, rfl, hR, hx⟩; obtain ⟨A1, c1, rfl, hl1, hC⟩ := Kd.R_reads hR; obtain ⟨ad, rfl, hc⟩ := Kd.at_int hC 0 (by omega) (by simp); simp only [rd, Int.toNat_zero, List.getD_cons_zero] at hc; rw [show ad.add 0 = ad from rfl] at hc; obtain ⟨hblk, hon, hmap, hsz⟩ := HF.out w3 ho; have hlook := look_run w3 (w.heap.size + 1) #[{ key := .int .u8 0, val := .func (.func 97) #[.pointer (some ⟨rb, 0, none⟩)] #[], born := 0 }, { key := .int .u8 1, val := .func (.func 98) #[.pointer (some ⟨rb, 0, none⟩)] #[], born := 1 }, { key := .int .u8 2, val := .func (.func 99) #[.pointer (some ⟨rb, 0, none⟩)] #[], born := 2 }, { key := .int .u8 6, val := .func (.func 100) #[.pointer (some ⟨rb, 0, none⟩)] #[], born := 3 }, { key := .int .u8 7, val := .func (.func 101) #[.pointer (some ⟨rb, 0, none⟩)] #[], born := 4 }, { key := .int .u8 8, val := .func (.func 102) #[.pointer (some ⟨rb, 0, none⟩)] #[], born := 5 }, { key := .int .u8 28, val := .func (.func 103) #[.pointer (some ⟨rb, 0, none⟩)] #[], born := 6 }, { key := .int .u8 30, val := .func (.func 104) #[.pointer (some ⟨rb, 0, none⟩)] #[], born := 7 }] 8 2 2 (.func (.func 99) #[.pointer (some ⟨rb, 0, none⟩)] #[]) hmap rfl; have X3 := Aside0.mk hx; have Z3 := Aside0.mk hblk; have O3 := Aside0.mk hon; have S3 := Aside0.mk hsz; clear ho hR hx hC hl1 hblk hon hmap hsz)
  have hneq : (binOp .neq 129 (.func (.func 99) #[.pointer (some ⟨rb, 0, none⟩)] #[]) .nilFunc).run Tryd.prog w3 = .ok (.bool true) w3 := neq_func w3 99 rb
  clear i0 i1 i2 i3 i4 i5 i6 i7 hmf hmm HCA HF
  obtain ⟨b0, hb0⟩ : ∃ b0, w.heap.size = b0 := ⟨_, rfl⟩
  have hs3 := S3.out
  have hb0' := hb0
  rw [hb0] at Z3 ⊢
  have HI := Aside0.mk (And.intro hb0 (show b0 < w3.heap.size ∧ w.heap.size ≤ w3.heap.size by omega))
  clear hb0 hb0' hs3 S3
  have HB : Calls Tryd.prog 99 #[.pointer (some ⟨rb, 0, none⟩)] w3 (FrmP w0 w3 rb (body 2 t)) := by
    have := ack_post X3.out
    exact this
  rcases hb : body 2 t with _ | ⟨⟨a0, a1, l2, a3, l4, a5⟩, x⟩
  · obtain rfl : none = res := by rw [← hres, next, hb]; rfl
    rw [hb] at HB
    clear hb hres
    go_wp2_with (first | (go_at_call 79; refine (need_ok _).mono ?_; rintro e1 w4 ⟨rfl, rfl⟩) | (go_at_call 99; refine HB.mono ?_; rintro e1 w5 ⟨ho, rfl⟩; have HO := Aside0.mk ho; clear ho))
    exact ⟨rfl, O3.out.trans HO.out, rfl⟩
  have hlen := body_len hb
  have HRES := Aside0.mk (show (if fr58 ⟨a0, a1, l2, a3, l4, a5⟩ then some ((⟨a0, a1, l2, a3, l4, a5⟩ : S58), x) else none) = res by rw [← hres, next, hb]; rfl)
  obtain ⟨b, hb2, hbi⟩ := FrP.right_f a0 a1 l2 a3 l4 a5 (by simp only [] at hlen; omega) 300 (by omega)
  have HRB := Aside0.mk (And.intro hb2 hbi)
  rw [hb] at HB
  clear hb hres hlen hb2 hbi
  go_upto_region 4 with (first | (go_at_call 79; refine (need_ok _).mono ?_; rintro e1 w4 ⟨rfl, rfl⟩) | (go_at_call 99; refine HB.mono ?_; rintro e1 w5 ⟨ho, ⟨v2, v4, rfl, hR2, hR4⟩, hx⟩; obtain ⟨A2, c2, e2⟩ := Kd.R_slice hR2; obtain ⟨A4, c4, e4⟩ := Kd.R_slice hR4; subst e2 e4; have U2 := Aside0.mk (Kd.R_reads' hR2).2; have U4 := Aside0.mk (Kd.R_reads' hR4).2; have R2 := Aside0.mk hR2; have R4 := Aside0.mk hR4; have HO := Aside0.mk ho; have X5 := Aside0.mk hx; clear ho hx hR2 hR4))
  obtain ⟨w6, hw6⟩ : ∃ w6, w5.alloc (.cells #[.int .i64 a0, .int .i64 a1, .slice A2 l2.length c2, .int .i64 a3, .slice A4 l4.length c4, .int .i64 a5] 58) = w6 := ⟨_, rfl⟩
  have hbel : Below w5.heap.size w5 w6 := by rw [← hw6]; exact below_alloc (Below.refl _ _) _
  have hB6 : Blk w6 w5.heap.size [.int .i64 a0, .int .i64 a1, .slice A2 l2.length c2, .int .i64 a3, .slice A4 l4.length c4, .int .i64 a5] := by rw [← hw6]; exact Blk.new w5 _
  have RC := frame_Right.calls 300 a0 a1 A2 c2 l2 a3 A4 c4 l4 a5 b w6 (Kd.C_below U2.out.2 hbel) U2.out.1 (Kd.C_below U4.out.2 hbel) U4.out.1 HRB.out.1
  rw [hw6]
  have hL := HL.out
  have hI := HI.out
  have h5 := HO.out.size
  have Z6 := Aside0.mk (((Z3.out.only HO.out (by omega)).only (Only.of_below hbel : Only (fun _ => False) w5 w6) (fun q => q)))
  have X6 := Aside0.mk (X5.out.below hbel)
  have R26 := Aside0.mk (R_only R2.out (Only.of_below hbel : Only (fun _ => False) w5 w6) (fun _ q => q.elim))
  have R46 := Aside0.mk (R_only R4.out (Only.of_below hbel : Only (fun _ => False) w5 w6) (fun _ q => q.elim))
  have O6 := Aside0.mk ((O3.out.trans HO.out).trans (Only.of_below hbel))
  obtain ⟨hbk, hhb⟩ : ∃ hbk, w5.heap.size = hbk := ⟨_, rfl⟩
  rw [hhb] at hB6 ⊢
  have HB6 := Aside0.mk hB6
  have HJ := Aside0.mk (show b0 < hbk by omega)
  obtain ⟨n2, hn2⟩ : ∃ n2, l2.length = n2 := ⟨_, rfl⟩
  obtain ⟨n4, hn4⟩ : ∃ n4, l4.length = n4 := ⟨_, rfl⟩
  rw [hn2, hn4] at RC HB6
  rw [hn2] at R26
  rw [hn4] at R46
  clear hbel hB6 hw6 hL hI h5 hhb hn2 hn4 U2 U4 R2 R4 HO X5 X3 Z3 O3 HB
  have q0 := HB6.out.cell 0 _ rfl
  have q1 := HB6.out.cell 1 _ rfl
  have q2 := HB6.out.cell 2 _ rfl
  have q3 := HB6.out.cell 3 _ rfl
  have q4 := HB6.out.cell 4 _ rfl
  have q5 := HB6.out.cell 5 _ rfl
  by_cases hfr : fr58 ⟨a0, a1, l2, a3, l4, a5⟩
  rotate_left
  · obtain rfl : none = res := by have := HRES.out; rw [if_neg hfr] at this; exact this
    obtain rfl : b = false := by
      cases b with
      | false => rfl
      | true => exact absurd (HRB.out.2.1 rfl) hfr
    clear hfr
    go_wp2_with (first | (go_at_call 42; refine RC.mono ?_; rintro e1 w7 ⟨rfl, hb7⟩; have HB7 := Aside0.mk hb7; clear hb7) | (go_at_call 79; refine (need_bad _).mono ?_; rintro e1 w4 ⟨rfl, rfl⟩))
    exact ⟨rfl, O6.out.trans (Only.of_below HB7.out), rfl⟩
  obtain rfl : some ((⟨a0, a1, l2, a3, l4, a5⟩ : S58), x) = res := by have := HRES.out; rw [if_pos hfr] at this; exact this
  obtain rfl : b = true := HRB.out.2.2 hfr
  clear hfr
  go_upto_region 5 with (first | (go_at_call 42; refine RC.mono ?_; rintro e1 w7 ⟨rfl, hb7⟩; have HB7 := Aside0.mk hb7; clear hb7) | (go_at_call 79; refine (need_ok _).mono ?_; rintro e1 w4 ⟨rfl, rfl⟩))
  clear RC q0 q1 q2 q3 q4 q5
  have o7 : Only (fun _ => False) w6 w7 := Only.of_below HB7.out
  have B7 := Aside0.mk (HB6.out.only o7 (fun q => q))
  have Z7 := Aside0.mk (Z6.out.only o7 (fun q => q))
  clear o7
  have q0 := B7.out.cell 0 _ rfl
  have q1 := B7.out.cell 1 _ rfl
  have q2 := B7.out.cell 2 _ rfl
  have q3 := B7.out.cell 3 _ rfl
  have q4 := B7.out.cell 4 _ rfl
  have q5 := B7.out.cell 5 _ rfl
  have z0 := Z7.out.cell 0 _ rfl
  have z1 := Z7.out.cell 1 _ rfl
  have z2 := Z7.out.cell 2 _ rfl
  have z3 := Z7.out.cell 3 _ rfl
  have z4 := Z7.out.cell 4 _ rfl
  have z5 := Z7.out.cell 5 _ rfl
  have y0 := Z7.out.frozen 0
  have y1 := Z7.out.frozen 1
  have y2 := Z7.out.frozen 2
  have y3 := Z7.out.frozen 3
  have y4 := Z7.out.frozen 4
  have y5 := Z7.out.frozen 5
  go_wp2
  change bodyPost _ _ _ _ _ (put6 w7 b0 (.int .i64 a0) (.int .i64 a1) (.slice A2 n2 c2) (.int .i64 a3) (.slice A4 n4 c4) (.int .i64 a5))
  have B8 := put6_blk Z7.out (.int .i64 a0) (.int .i64 a1) (.slice A2 n2 c2) (.int .i64 a3) (.slice A4 n4 c4) (.int .i64 a5)
  have O8 := put6_only w7 b0 (.int .i64 a0) (.int .i64 a1) (.slice A2 n2 c2) (.int .i64 a3) (.slice A4 n4 c4) (.int .i64 a5)
  clear q0 q1 q2 q3 q4 q5 z0 z1 z2 z3 z4 z5 y0 y1 y2 y3 y4 y5
  generalize put6 w7 b0 (.int .i64 a0) (.int .i64 a1) (.slice A2 n2 c2) (.int .i64 a3) (.slice A4 n4 c4) (.int .i64 a5) = w8 at *
  have x0 := B8.cell 0 _ rfl
  have x1 := B8.cell 1 _ rfl
  have x2 := B8.cell 2 _ rfl
  have x3 := B8.cell 3 _ rfl
  have x4 := B8.cell 4 _ rfl
  have x5 := B8.cell 5 _ rfl
  refine bodyPost_ret (v := .agg #[.int .i64 a0, .int .i64 a1, .slice A2 n2 c2, .int .i64 a3, .slice A4 n4 c4, .int .i64 a5]) ?_ rfl ?_
  · simp [results, Tryd.results80, go_sem, x0, x1, x2, x3, x4, x5]
  · clear x0 x1 x2 x3 x4 x5 B8
    have hL := HL.out
    have hI := HI.out
    have o7 : Only (fun _ => False) w6 w7 := Only.of_below HB7.out
    have h6 := R_only (R_only R26.out o7 (fun _ q => q.elim)) O8 (fun k q => by omega)
    have h7 := R_only (R_only R46.out o7 (fun _ q => q.elim)) O8 (fun k q => by omega)
    exact ⟨own_only (O6.out.trans (Only.of_below HB7.out)) O8 (by omega), ⟨_, _, rfl, Kd.R_lower h6 hI.2.2, Kd.R_lower h7 hI.2.2⟩, (X6.out.below HB7.out).only O8 (by omega) (by have := X6.out.lo; omega)⟩
set_option maxHeartbeats 2000000 in
set_option maxRecDepth 100000 in
theorem next_crypto {w0 w : World} {rb : Nat} {t : List Int} (h : Rdx w0 w rb (6 :: t)) :
    Calls Tryd.prog 80 #[.pointer (some ⟨rb, 0, none⟩)] w (FrmP w0 w rb (next (6 :: t))) := by
  have hmf : ∀ (fn : Fn) (first cap : Array Value) (w : World), (Instr.makeFunc fn first cap).run Tryd.prog w = .ok (.func fn first cap) w := fun _ _ _ _ => rfl
  have hmm := @run_makeMap Tryd.prog
  have TB := Tbl.mk' w rb
  have i0 := TB.i0
  have i1 := TB.i1
  have i2 := TB.i2
  have i3 := TB.i3
  have i4 := TB.i4
  have i5 := TB.i5
  have i6 := TB.i6
  have i7 := TB.i7
  clear TB
  have hb2 : Below w.heap.size w ((w.alloc (.cells #[.int .i64 0, .int .i64 0, .slice none 0 0, .int .i64 0, .slice none 0 0, .int .i64 0] 58)).alloc (.map #[{ key := .int .u8 0, val := .func (.func 97) #[.pointer (some ⟨rb, 0, none⟩)] #[], born := 0 }, { key := .int .u8 1, val := .func (.func 98) #[.pointer (some ⟨rb, 0, none⟩)] #[], born := 1 }, { key := .int .u8 2, val := .func (.func 99) #[.pointer (some ⟨rb, 0, none⟩)] #[], born := 2 }, { key := .int .u8 6, val := .func (.func 100) #[.pointer (some ⟨rb, 0, none⟩)] #[], born := 3 }, { key := .int .u8 7, val := .func (.func 101) #[.pointer (some ⟨rb, 0, none⟩)] #[], born := 4 }, { key := .int .u8 8, val := .func (.func 102) #[.pointer (some ⟨rb, 0, none⟩)] #[], born := 5 }, { key := .int .u8 28, val := .func (.func 103) #[.pointer (some ⟨rb, 0, none⟩)] #[], born := 6 }, { key := .int .u8 30, val := .func (.func 104) #[.pointer (some ⟨rb, 0, none⟩)] #[], born := 7 }] 8)) := below_alloc (below_alloc (Below.refl _ _) _) _
  have HC := bytes_post (h.below hb2) 1 (by omega)
  rw [rbyt_one] at HC
  have HCA := Aside0.mk HC
  have HF := Aside0.mk (fun (w3 : World) ho => front (w3 := w3) h (.map #[{ key := .int .u8 0, val := .func (.func 97) #[.pointer (some ⟨rb, 0, none⟩)] #[], born := 0 }, { key := .int .u8 1, val := .func (.func 98) #[.pointer (some ⟨rb, 0, none⟩)] #[], born := 1 }, { key := .int .u8 2, val := .func (.func 99) #[.pointer (some ⟨rb, 0, none⟩)] #[], born := 2 }, { key := .int .u8 6, val := .func (.func 100) #[.pointer (some ⟨rb, 0, none⟩)] #[], born := 3 }, { key := .int .u8 7, val := .func (.func 101) #[.pointer (some ⟨rb, 0, none⟩)] #[], born := 4 }, { key := .int .u8 8, val := .func (.func 102) #[.pointer (some ⟨rb, 0, none⟩)] #[], born := 5 }, { key := .int .u8 28, val := .func (.func 103) #[.pointer (some ⟨rb, 0, none⟩)] #[], born := 6 }, { key := .int .u8 30, val := .func (.func 104) #[.pointer (some ⟨rb, 0, none⟩)] #[], born := 7 }] 8) ho)
  have HL := Aside0.mk (show rb < w.heap.size ∧ w0.heap.size ≤ rb from ⟨h.lt, h.lo⟩)
  generalize hres : next (6 :: t) = res
  clear HC hb2 h
  go_enter Tryd.func80, Tryd.ntmps80
  go_upto_region 2 with (go_at_call 105; refine HCA.out.mono ?_; rintro e1 w3 ⟨ho, v1, rfl, hR, hx⟩; obtain ⟨A1, c1, rfl, hl1, hC⟩ := Kd.R_reads hR; obtain ⟨ad, rfl, hc⟩ := Kd.at_int hC 0 (by omega) (by simp); simp only [rd, Int.toNat_zero, List.getD_cons_zero] at hc; rw [show ad.add 0 = ad from rfl] at hc; obtain ⟨hblk, hon, hmap, hsz⟩ := HF.out w3 ho; have hlook := look_run w3 (w.heap.size + 1) #[{ key := .int .u8 0, val := .func (.func 97) #[.pointer (some ⟨rb, 0, none⟩)] #[], born := 0 }, { key := .int .u8 1, val := .func (.func 98) #[.pointer (some ⟨rb, 0, none⟩)] #[], born := 1 }, { key := .int .u8 2, val := .func (.func 99) #[.pointer (some ⟨rb, 0, none⟩)] #[], born := 2 }, { key := .int .u8 6, val := .func (.func 100) #[.pointer (some ⟨rb, 0, none⟩)] #[], born := 3 }, { key := .int .u8 7, val := .func (.func 101) #[.pointer (some ⟨rb, 0, none⟩)] #[], born := 4 }, { key := .int .u8 8, val := .func (.func 102) #[.pointer (some ⟨rb, 0, none⟩)] #[], born := 5 }, { key := .int .u8 28, val := .func (.func 103) #[.pointer (some ⟨rb, 0, none⟩)] #[], born := 6 }, { key := .int .u8 30, val := .func (.func 104) #[.pointer (some ⟨rb, 0, none⟩)] #[], born := 7 }] 8 6 3 (.func (.func 100) #[.pointer (some ⟨rb, 0, none⟩)] #[]) hmap rfl; have X3 := Aside0.mk hx; have Z3 := Aside0.mk hblk; have O3 := Aside0.mk hon; have S3 := Aside0.mk hsz; clear ho hR hx hC hl1 hblk hon hmap hsz)
  have hneq : (binOp .neq 129 (.func (.func 100) #[.pointer (some ⟨rb, 0, none⟩)] #[]) .nilFunc).run Tryd.prog w3 = .ok (.bool true) w3 := neq_func w3 100 rb
  clear i0 i1 i2 i3 i4 i5 i6 i7 hmf hmm HCA HF
  obtain ⟨b0, hb0⟩ : ∃ b0, w.heap.size = b0 := ⟨_, rfl⟩
  have hs3 := S3.out
  have hb0' := hb0
  rw [hb0] at Z3 ⊢
  have HI := Aside0.mk (And.intro hb0 (show b0 < w3.heap.size ∧ w.heap.size ≤ w3.heap.size by omega))
  clear hb0 hb0' hs3 S3
  have HB : Calls Tryd.prog 100 #[.pointer (some ⟨rb, 0, none⟩)] w3 (FrmP w0 w3 rb (body 6 t)) := by
    have := crypto_post X3.out
    exact this
  rcases hb : body 6 t with _ | ⟨⟨a0, a1, l2, a3, l4, a5⟩, x⟩
  · obtain rfl : none = res := by rw [← hres, next, hb]; rfl
    rw [hb] at HB
    clear hb hres
    go_wp2_with (first | (go_at_call 79; refine (need_ok _).mono ?_; rintro e1 w4 ⟨rfl, rfl⟩) | (go_at_call 100; refine HB.mono ?_; rintro e1 w5 ⟨ho, rfl⟩; have HO := Aside0.mk ho; clear ho))
    exact ⟨rfl, O3.out.trans HO.out, rfl⟩
  have hlen := body_len hb
  have HRES := Aside0.mk (show (if fr58 ⟨a0, a1, l2, a3, l4, a5⟩ then some ((⟨a0, a1, l2, a3, l4, a5⟩ : S58), x) else none) = res by rw [← hres, next, hb]; rfl)
  obtain ⟨b, hb2, hbi⟩ := FrP.right_f a0 a1 l2 a3 l4 a5 (by simp only [] at hlen; omega) 300 (by omega)
  have HRB := Aside0.mk (And.intro hb2 hbi)
  rw [hb] at HB
  clear hb hres hlen hb2 hbi
  go_upto_region 4 with (first | (go_at_call 79; refine (need_ok _).mono ?_; rintro e1 w4 ⟨rfl, rfl⟩) | (go_at_call 100; refine HB.mono ?_; rintro e1 w5 ⟨ho, ⟨v2, v4, rfl, hR2, hR4⟩, hx⟩; obtain ⟨A2, c2, e2⟩ := Kd.R_slice hR2; obtain ⟨A4, c4, e4⟩ := Kd.R_slice hR4; subst e2 e4; have U2 := Aside0.mk (Kd.R_reads' hR2).2; have U4 := Aside0.mk (Kd.R_reads' hR4).2; have R2 := Aside0.mk hR2; have R4 := Aside0.mk hR4; have HO := Aside0.mk ho; have X5 := Aside0.mk hx; clear ho hx hR2 hR4))
  obtain ⟨w6, hw6⟩ : ∃ w6, w5.alloc (.cells #[.int .i64 a0, .int .i64 a1, .slice A2 l2.length c2, .int .i64 a3, .slice A4 l4.length c4, .int .i64 a5] 58) = w6 := ⟨_, rfl⟩
  have hbel : Below w5.heap.size w5 w6 := by rw [← hw6]; exact below_alloc (Below.refl _ _) _
  have hB6 : Blk w6 w5.heap.size [.int .i64 a0, .int .i64 a1, .slice A2 l2.length c2, .int .i64 a3, .slice A4 l4.length c4, .int .i64 a5] := by rw [← hw6]; exact Blk.new w5 _
  have RC := frame_Right.calls 300 a0 a1 A2 c2 l2 a3 A4 c4 l4 a5 b w6 (Kd.C_below U2.out.2 hbel) U2.out.1 (Kd.C_below U4.out.2 hbel) U4.out.1 HRB.out.1
  rw [hw6]
  have hL := HL.out
  have hI := HI.out
  have h5 := HO.out.size
  have Z6 := Aside0.mk (((Z3.out.only HO.out (by omega)).only (Only.of_below hbel : Only (fun _ => False) w5 w6) (fun q => q)))
  have X6 := Aside0.mk (X5.out.below hbel)
  have R26 := Aside0.mk (R_only R2.out (Only.of_below hbel : Only (fun _ => False) w5 w6) (fun _ q => q.elim))
  have R46 := Aside0.mk (R_only R4.out (Only.of_below hbel : Only (fun _ => False) w5 w6) (fun _ q => q.elim))
  have O6 := Aside0.mk ((O3.out.trans HO.out).trans (Only.of_below hbel))
  obtain ⟨hbk, hhb⟩ : ∃ hbk, w5.heap.size = hbk := ⟨_, rfl⟩
  rw [hhb] at hB6 ⊢
  have HB6 := Aside0.mk hB6
  have HJ := Aside0.mk (show b0 < hbk by omega)
  obtain ⟨n2, hn2⟩ : ∃ n2, l2.length = n2 := ⟨_, rfl⟩
  obtain ⟨n4, hn4⟩ : ∃ n4, l4.length = n4 := ⟨_, rfl⟩
  rw [hn2, hn4] at RC HB6
  rw [hn2] at R26
  rw [hn4] at R46
  clear hbel hB6 hw6 hL hI h5 hhb hn2 hn4 U2 U4 R2 R4 HO X5 X3 Z3 O3 HB
  have q0 := HB6.out.cell 0 _ rfl
  have q1 := HB6.out.cell 1 _ rfl
  have q2 := HB6.out.cell 2 _ rfl
  have q3 := HB6.out.cell 3 _ rfl
  have q4 := HB6.out.cell 4 _ rfl
  have q5 := HB6.out.cell 5 _ rfl
  by_cases hfr : fr58 ⟨a0, a1, l2, a3, l4, a5⟩
  rotate_left
  · obtain rfl : none = res := by have := HRES.out; rw [if_neg hfr] at this; exact this
    obtain rfl : b = false := by
      cases b with
      | false => rfl
      | true => exact absurd (HRB.out.2.1 rfl) hfr
    clear hfr
    go_wp2_with (first | (go_at_call 42; refine RC.mono ?_; rintro e1 w7 ⟨rfl, hb7⟩; have HB7 := Aside0.mk hb7; clear hb7) | (go_at_call 79; refine (need_bad _).mono ?_; rintro e1 w4 ⟨rfl, rfl⟩))
    exact ⟨rfl, O6.out.trans (Only.of_below HB7.out), rfl⟩
  obtain rfl : some ((⟨a0, a1, l2, a3, l4, a5⟩ : S58), x) = res := by have := HRES.out; rw [if_pos hfr] at this; exact this
  obtain rfl : b = true := HRB.out.2.2 hfr
  clear hfr
  go_upto_region 5 with (first | (go_at_call 42; refine RC.mono ?_; rintro e1 w7 ⟨rfl, hb7⟩; have HB7 := Aside0.mk hb7; clear hb7) | (go_at_call 79; refine (need_ok _).mono ?_; rintro e1 w4 ⟨rfl, rfl⟩))
  clear RC q0 q1 q2 q3 q4 q5
  have o7 : Only (fun _ => False) w6 w7 := Only.of_below HB7.out
  have B7 := Aside0.mk (HB6.out.only o7 (fun q => q))
  have Z7 := Aside0.mk (Z6.out.only o7 (fun q => q))
  clear o7
  have q0 := B7.out.cell 0 _ rfl
  have q1 := B7.out.cell 1 _ rfl
  have q2 := B7.out.cell 2 _ rfl
  have q3 := B7.out.cell 3 _ rfl
  have q4 := B7.out.cell 4 _ rfl
  have q5 := B7.out.cell 5 _ rfl
  have z0 := Z7.out.cell 0 _ rfl
  have z1 := Z7.out.cell 1 _ rfl
  have z2 := Z7.out.cell 2 _ rfl
  have z3 := Z7.out.cell 3 _ rfl
  have z4 := Z7.out.cell 4 _ rfl
  have z5 := Z7.out.cell 5 _ rfl
  have y0 := Z7.out.frozen 0
  have y1 := Z7.out.frozen 1
  have y2 := Z7.out.frozen 2
  have y3 := Z7.out.frozen 3
  have y4 := Z7.out.frozen 4
  have y5 := Z7.out.frozen 5
  go_wp2
  change bodyPost _ _ _ _ _ (put6 w7 b0 (.int .i64 a0) (.int .i64 a1) (.slice A2 n2 c2) (.int .i64 a3) (.slice A4 n4 c4) (.int .i64 a5))
  have B8 := put6_blk Z7.out (.int .i64 a0) (.int .i64 a1) (.slice A2 n2 c2) (.int .i64 a3) (.slice A4 n4 c4) (.int .i64 a5)
  have O8 := put6_only w7 b0 (.int .i64 a0) (.int .i64 a1) (.slice A2 n2 c2) (.int .i64 a3) (.slice A4 n4 c4) (.int .i64 a5)
  clear q0 q1 q2 q3 q4 q5 z0 z1 z2 z3 z4 z5 y0 y1 y2 y3 y4 y5
  generalize put6 w7 b0 (.int .i64 a0) (.int .i64 a1) (.slice A2 n2 c2) (.int .i64 a3) (.slice A4 n4 c4) (.int .i64 a5) = w8 at *
  have x0 := B8.cell 0 _ rfl
  have x1 := B8.cell 1 _ rfl
  have x2 := B8.cell 2 _ rfl
  have x3 := B8.cell 3 _ rfl
  have x4 := B8.cell 4 _ rfl
  have x5 := B8.cell 5 _ rfl
  refine bodyPost_ret (v := .agg #[.int .i64 a0, .int .i64 a1, .slice A2 n2 c2, .int .i64 a3, .slice A4 n4 c4, .int .i64 a5]) ?_ rfl ?_
  · simp [results, Tryd.results80, go_sem, x0, x1, x2, x3, x4, x5]
  · clear x0 x1 x2 x3 x4 x5 B8
    have hL := HL.out
    have hI := HI.out
    have o7 : Only (fun _ => False) w6 w7 := Only.of_below HB7.out
    have h6 := R_only (R_only R26.out o7 (fun _ q => q.elim)) O8 (fun k q => by omega)
    have h7 := R_only (R_only R46.out o7 (fun _ q => q.elim)) O8 (fun k q => by omega)
    exact ⟨own_only (O6.out.trans (Only.of_below HB7.out)) O8 (by omega), ⟨_, _, rfl, Kd.R_lower h6 hI.2.2, Kd.R_lower h7 hI.2.2⟩, (X6.out.below HB7.out).only O8 (by omega) (by have := X6.out.lo; omega)⟩
end Go.Proofs.YtbcleckapamicaaDoor.Fd
