/- varint.Size and varint.Read, walked: they come to what the plain text tells. -/
import Derived.Test.YtbcleckapamicaaDoorVn
import Derived.Test.YtbcleckapamicaaDoorGv0
namespace Go.Proofs.YtbcleckapamicaaDoor.Gv
open Go.RowKit Go.Proofs.YtbcleckapamicaaDoorW.PrintWords Go.Proofs.YtbcleckapamicaaDoorW.PrintLast Go.Proofs.YtbcleckapamicaaDoorW.PrintMore Go.Proofs.YtbcleckapamicaaDoor.Vn
set_option linter.unusedVariables false
set_option linter.unusedSimpArgs false

theorem size_calls (n : Int) (w : World) : Calls Tryd.prog 24 #[.int .i64 n] w fun e w' => e = .returned (.int .i64 (vsize n)) ∧ Drawn0 w w' := by
  by_cases h1 : n < 0
  · have e : vsize n = 0 := by simp [vsize, h1]
    rw [e]; clear e
    go_enter Tryd.func24, Tryd.ntmps24
    go_wp2
    go_ret
    exact ⟨rfl, Drawn0.refl _⟩
  by_cases h2 : 4611686018427387903 < n
  · have e : vsize n = 0 := by simp [vsize, h2]
    rw [e]; clear e
    go_enter Tryd.func24, Tryd.ntmps24
    go_wp2
    go_ret
    exact ⟨rfl, Drawn0.refl _⟩
  have e0 : vsize n = if n < 64 then 1 else if n < 16384 then 2 else if n < 1073741824 then 4 else 8 := by unfold vsize; rw [if_neg (by omega)]
  by_cases h3 : n < 64
  · rw [if_pos h3] at e0; rw [e0]; clear e0
    go_enter Tryd.func24, Tryd.ntmps24
    go_wp2
    go_ret
    exact ⟨rfl, Drawn0.refl _⟩
  rw [if_neg h3] at e0
  by_cases h4 : n < 16384
  · rw [if_pos h4] at e0; rw [e0]; clear e0
    go_enter Tryd.func24, Tryd.ntmps24
    go_wp2
    go_ret
    exact ⟨rfl, Drawn0.refl _⟩
  rw [if_neg h4] at e0
  by_cases h5 : n < 1073741824
  · rw [if_pos h5] at e0; rw [e0]; clear e0
    go_enter Tryd.func24, Tryd.ntmps24
    go_wp2
    go_ret
    exact ⟨rfl, Drawn0.refl _⟩
  · rw [if_neg h5] at e0; rw [e0]; clear e0
    go_enter Tryd.func24, Tryd.ntmps24
    go_wp2
    go_ret
    exact ⟨rfl, Drawn0.refl _⟩

def varint_Size.f (a0 : Int) : Option Int := some (vsize a0)
theorem varint_Size.calls (a0 r : Int) (w : World) (h : varint_Size.f a0 = some r) : Calls Tryd.prog 24 #[.int .i64 a0] w fun e w' => e = .returned (.int .i64 r) ∧ Drawn0 w w' := by
  obtain rfl : vsize a0 = r := Option.some.inj h
  exact size_calls a0 w

def varint_Read.f (l0 : List Int) : Option (Int × Int × Int) := if Bytes l0 then some (vread l0) else none

/-- One size: q of the first byte's two upper bits. -/
theorem read_at (q : Nat) (hq : q < 4) (A0 : Option Addr) (c0 : Nat) (l0 : List Int) (w : World) (hr0 : Kd.C (Kd.int .u8) w A0 l0.length l0) (hc0 : l0.length ≤ c0) (hB : Bytes l0) (hpos : 0 < l0.length) (hqq : rd l0 0 / 64 = (q : Int))
    (hlen : 2 ^ q ≤ l0.length) : Calls Tryd.prog 27 #[.slice A0 l0.length c0] w fun e w' => e = .returned (.tuple #[.int .i64 (vread l0).1, .int .i64 (vread l0).2.1, .int .i64 (vread l0).2.2]) ∧ Drawn0 w w' := by
  obtain ⟨sz, hsz⟩ : ∃ sz : Nat, sz = 2 ^ q := ⟨_, rfl⟩
  have hsz8 : 1 ≤ sz ∧ sz ≤ 8 := by
    have : ∀ j : Fin 4, 1 ≤ 2 ^ (j : Nat) ∧ 2 ^ (j : Nat) ≤ 8 := by decide
    rw [hsz]; exact this ⟨q, hq⟩
  obtain ⟨t, ht⟩ : ∃ t, t = (l0.take sz).drop 1 := ⟨_, rfl⟩
  have htl : t.length = sz - 1 := by rw [ht, List.length_drop, List.length_take]; omega
  have hBt : Bytes t := by rw [ht]; exact (hB.take _).drop _
  have hb0 : 0 ≤ rd l0 0 ∧ rd l0 0 ≤ 255 := bytes_rd hB 0 hpos
  have hv : vread l0 = if vsize (num (rd l0 0 % 64) t) = (sz : Int) then (num (rd l0 0 % 64) t, (sz : Int), 0) else (0, 0, 3) := by
    unfold vread
    rw [if_neg (by omega), hqq, Int.toNat_natCast, ← hsz, if_neg (by omega), ← ht]
  have hszl : sz ≤ l0.length := by rw [hsz]; exact hlen
  have hsh : wrap64 (2 ^ q) = (sz : Int) := by
    rw [hsz]
    have : ∀ j : Fin 4, wrap64 (2 ^ (j : Nat)) = ((2 ^ (j : Nat) : Nat) : Int) := by decide +kernel
    exact this ⟨q, hq⟩
  obtain ⟨b0, hb⟩ : ∃ b0, b0 = rd l0 0 := ⟨_, rfl⟩
  obtain ⟨ad, rfl, hcell⟩ := Kd.at_int hr0 0 (by omega) (by omega)
  have hm := hr0.2.1
  obtain ⟨i0, hi, hz0, hz1, hz2⟩ := info_parts info5
  obtain ⟨A', hcut, hct, _⟩ := print_mid_of (P := Tryd.prog) (Value.int .u8) (0 : Int) 22 5 .i64 .i64 Tryd.underlying22 hi hz1 (some ad) c0 l0 1 (sz : Int) (by omega) (by omega) (by omega) hc0
  have HT := Aside0.mk (Kd.C_of_reads (h1 := fun _ => rfl) (hct w (Kd.reads_of_C hr0)))
  rw [show (1 : Int).toNat = 1 from rfl, Int.toNat_natCast, ← ht] at HT hcut
  rw [← hb] at hqq hcell hb0 hv
  clear hct hr0 hi hz0 hz1 hz2 hb
  have hand := and63 b0 hb0.1 hb0.2
  have hm6 : 0 ≤ b0 % 64 ∧ b0 % 64 < 64 := by omega
  obtain ⟨n0, hn0⟩ : ∃ n0, n0 = b0 % 64 := ⟨_, rfl⟩
  rw [← hn0] at hand hm6 hv
  clear hn0
  have hls : decide (l0.length < sz) = false := decide_eq_false (by omega)
  have hlz : (l0.length == 0) = false := beq_eq_false_iff_ne.2 (by omega)
  have hN := num_range n0 hm6.1 hm6.2 t hBt
  have hcells : ∀ k : Nat, k < t.length → ∃ a', A' = some a' ∧ w.cell? (a'.add k) = some (.int .u8 (rd t k)) := by
    intro k hk
    obtain ⟨a', e, h⟩ := Kd.at_int HT.out (k : Int) (by omega) (by omega)
    exact ⟨a', e, by rwa [Int.toNat_natCast] at h⟩
  have hl7 : t.length ≤ 7 := by omega
  have HV := Aside0.mk hv
  have HL := Aside0.mk htl
  have HB := Aside0.mk hBt
  have HN := Aside0.mk hN
  have HC := Aside0.mk hcells
  have HQ := Aside0.mk ht
  have HS := Aside0.mk hsh
  clear hv htl hBt hsz ht hB hN hcells HT hsz8
  rw [show (ad.add (0 : Int).toNat) = ad from rfl] at hcell
  have hun : IntKind.u64.wrap n0 = n0 := by simp [IntKind.wrap, IntKind.bits, IntKind.signed]; omega
  go_enter Tryd.func27, Tryd.ntmps27
  go_wp2
  clear hls hlz hun hand hqq hcell hcut
  go_loopg [5, 29] t.length (fun gg v5 v29 wr => ∃ kk : Nat, kk ≤ t.length ∧ t.length - kk ≤ gg ∧ v5 = .int .u64 (num n0 (t.take kk)) ∧ v29 = .int .i64 kk ∧ wr = w)
  case atStart => exact ⟨0, Nat.zero_le _, by omega, rfl, rfl, rfl⟩
  case round =>
    obtain ⟨kk, hkk, hg, rfl, rfl, rfl⟩ := hrel
    have hr := HN.out kk hkk
    by_cases hlt : kk < t.length
    · have hltz : (kk : Int) < (t.length : Int) := by omega
      obtain ⟨a', rfl, hc⟩ := HC.out kk hlt
      have hcb := bytes_rd HB.out kk hlt
      have hor := or_byte (num n0 (t.take kk)) (rd t kk) hr.1 (by have := pow256 kk (by omega); omega) hcb.1 hcb.2
      have hnt := num_take n0 t kk hlt
      rw [← hnt, show IntKind.u64.wrap (rd t kk) = rd t kk from by simp [IntKind.wrap, IntKind.bits, IntKind.signed]; omega] at hor
      generalize rd t kk = c at *
      have HNT := Aside0.mk hnt
      clear hnt
      go_wp2
      go_roundg (t.length - (kk + 1))
      case measure => omega
      case rel => exact ⟨kk + 1, by omega, by omega, rfl, by go_num, rfl⟩
    · have hltz : ¬ (kk : Int) < (t.length : Int) := by omega
      have hkl : kk = t.length := by omega
      rw [hkl, List.take_of_length_le (Nat.le_refl _)] at hr
      have hrange : num n0 t < 4611686018427387904 := by have := pow256' t.length (by omega); omega
      have hun : num n0 (t.take kk) = num n0 t := by rw [hkl, List.take_of_length_le (Nat.le_refl _)]
      rw [hun]
      have hw : wrap64 (num n0 t) = num n0 t := by unfold wrap64; omega
      have hcall := size_calls (num n0 t) wr
      clear hun hkl HN hl7
      generalize num n0 t = v at *
      by_cases he : vsize v = (sz : Int)
      · have hv := HV.out
        rw [if_pos he] at hv
        have b1 : (vsize v != wrap64 (2 ^ q)) = false := by rw [HS.out, he]; simp
        have HE := Aside0.mk he
        have HV2 := Aside0.mk hv
        clear he hv HV
        go_wp2_with (go_at_call 24; refine hcall.mono ?_; rintro e w' ⟨rfl, ⟨n, rfl⟩⟩)
        go_ret3
        exact ⟨by rw [HV2.out, ← HS.out]; rfl, ⟨⟨_, rfl⟩⟩⟩
      · have hv := HV.out
        rw [if_neg he] at hv
        have b1 : (vsize v != wrap64 (2 ^ q)) = true := by rw [HS.out]; simpa using he
        have HV2 := Aside0.mk hv
        clear he hv HV
        go_wp2_with (go_at_call 24; refine hcall.mono ?_; rintro e w' ⟨rfl, ⟨n, rfl⟩⟩)
        go_ret3
        exact ⟨by rw [HV2.out]; rfl, ⟨⟨_, rfl⟩⟩⟩

theorem varint_Read.calls (A0 : Option Addr) (c0 : Nat) (l0 : List Int) (r1 r2 r3 : Int) (w : World) (hr0 : Kd.C (Kd.int .u8) w A0 l0.length l0) (hc0 : l0.length ≤ c0) (h : varint_Read.f l0 = some (r1, r2, r3)) :
    Calls Tryd.prog 27 #[.slice A0 l0.length c0] w fun e w' => e = .returned (.tuple #[.int .i64 r1, .int .i64 r2, .int .i64 r3]) ∧ Drawn0 w w' := by
  unfold varint_Read.f at h
  by_cases hB : Bytes l0
  · rw [if_pos hB] at h
    have h' := Option.some.inj h
    obtain ⟨e1, e2, e3⟩ : r1 = (vread l0).1 ∧ r2 = (vread l0).2.1 ∧ r3 = (vread l0).2.2 := by rw [h']; exact ⟨rfl, rfl, rfl⟩
    subst e1 e2 e3
    clear h h'
    by_cases h0 : l0.length = 0
    · have hv : vread l0 = (0, 0, 2) := by unfold vread; rw [if_pos h0]
      rw [hv]
      have h1 : (l0.length == 0) = true := by simpa using h0
      clear hv h0 hr0 hB hc0
      go_enter Tryd.func27, Tryd.ntmps27
      go_wp2
      go_ret3
      exact ⟨rfl, Drawn0.refl _⟩
    · have hb0 : 0 ≤ rd l0 0 ∧ rd l0 0 ≤ 255 := bytes_rd hB 0 (by omega)
      obtain ⟨q, hq⟩ : ∃ q : Nat, rd l0 0 / 64 = (q : Int) := ⟨(rd l0 0 / 64).toNat, by omega⟩
      have hq4 : q < 4 := by omega
      by_cases hl : 2 ^ q ≤ l0.length
      · exact read_at q hq4 A0 c0 l0 w hr0 hc0 hB (by omega) hq hl
      · have hv : vread l0 = (0, 0, 2) := by unfold vread; rw [if_neg h0, hq, Int.toNat_natCast, if_pos (by omega)]
        rw [hv]
        obtain ⟨ad, rfl, hcell⟩ := Kd.at_int hr0 0 (by omega) (by omega)
        rw [show (ad.add (0 : Int).toNat) = ad from rfl] at hcell
        generalize rd l0 0 = b0 at *
        have hsh : wrap64 (2 ^ q) = ((2 ^ q : Nat) : Int) := by
          have : ∀ j : Fin 4, wrap64 (2 ^ (j : Nat)) = ((2 ^ (j : Nat) : Nat) : Int) := by decide +kernel
          exact this ⟨q, hq4⟩
        have hls : decide ((l0.length : Int) < wrap64 (2 ^ q)) = true := decide_eq_true (by rw [hsh]; omega)
        have hm := hr0.2.1
        have hpos : 0 < l0.length := by omega
        have hlz : (l0.length == 0) = false := beq_eq_false_iff_ne.2 h0
        clear hsh hv hl h0 hr0 hB hb0
        go_enter Tryd.func27, Tryd.ntmps27
        go_wp2
        go_ret3
        exact ⟨rfl, Drawn0.refl _⟩
  · rw [if_neg hB] at h; cases h
end Go.Proofs.YtbcleckapamicaaDoor.Gv
