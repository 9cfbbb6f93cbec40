/- Stream.Put, walked: what it holds. -/
import Derived.Test.YtbcleckapamicaaStm2
namespace Go.Proofs.Ytbcleckapamicaa.Stm
open Go Go.RowKit Go.Proofs.YtbcleckapamicaaW.PrintWords Go.Proofs.YtbcleckapamicaaW.PrintLast Go.Proofs.YtbcleckapamicaaW.PrintMore
set_option linter.unusedVariables false
set_option linter.unusedSimpArgs false

theorem fits_succ {F : Fn} {p : Int} {l : List Int} {j : Nat} (h : fits F p l j) (hj : ∀ c, F (p + j) = some c → c = rd l j) : fits F p l (j + 1) := by
  intro i hi c hc
  by_cases e : i = j
  · subst e; exact hj c hc
  · exact h i (by omega) c hc

set_option maxHeartbeats 4000000 in
set_option maxRecDepth 100000 in
theorem put_conflict {w : World} {sb : Nat} {m : Option Nat} {t : Int} {F : Fn} {n : Nat} (hS : St w sb m t F n) (A : Option Addr) (c : Nat) (l : List Int) (p : Int) (hC : Kd.C (Kd.int .u8) w A l.length l) (h0 : 0 ≤ p) (h1 : p ≤ 1073741824) (ht : 0 ≤ t) (ht' : t ≤ 1099511627776) (hl : l.length ≤ 1099511627776)
    (h2 : ¬ (0 < l.length ∧ p + l.length - t > 4096)) (h3 : ¬ fits F p l l.length) :
    Calls Try.prog 25 #[.pointer (some ⟨sb, 0, none⟩), .int .i64 p, .slice A l.length c] w fun e w' => e = .returned (.int .i64 12) ∧ w' = w := by
  have d0 : decide (p < 0) = false := decide_eq_false (by omega)
  have d1 : decide (1073741824 < p) = false := decide_eq_false (by omega)
  have hpos : 0 < l.length := by
    rcases Nat.eq_zero_or_pos l.length with e | e
    · exact absurd (fun i hi => by omega) h3
    · exact e
  have d2 : decide (0 < (l.length : Int)) = true := decide_eq_true (by omega)
  have d2' : decide (0 < l.length) = true := decide_eq_true (by omega)
  have e1 : wrap64 (p + (l.length : Int)) = p + (l.length : Int) := by unfold wrap64; omega
  have e2 : wrap64 (p + (l.length : Int) - t) = p + (l.length : Int) - t := by unfold wrap64; omega
  have d3 : decide (4096 < p + (l.length : Int) - t) = false := decide_eq_false (by omega)
  have c0 := hS.c0
  have c1 := hS.c1
  have MP := Aside0.mk hS.mp
  have HC := Aside0.mk hC
  have BL := Aside0.mk (show p + l.length ≤ 2199023255552 by omega)
  have B0 := Aside0.mk h0
  have H3 := Aside0.mk h3
  clear hS hC h3 h2 ht ht' hl h0 h1 hpos
  go_enter Try.func25, Try.ntmps25
  go_wp2
  clear e1 e2 d3
  go_loopg [40] l.length (fun gg v40 wr => ∃ kk : Nat, kk ≤ l.length ∧ l.length - kk ≤ gg ∧ v40 = .int .i64 kk ∧ Aside0 (fits F p l kk) ∧ wr = w)
  case atStart => exact ⟨0, Nat.zero_le _, by omega, rfl, ⟨fun i hi => by omega⟩, rfl⟩
  case round =>
    obtain ⟨kk, hkk, hg, rfl, HF, hw⟩ := hrel
    subst wr
    by_cases hlt : kk < l.length
    · have hltz : (kk : Int) < (l.length : Int) := by omega
      obtain ⟨ad, rfl, hcell⟩ := Kd.at_int HC.out (kk : Int) (by omega) hltz
      rw [Int.toNat_natCast] at hcell
      have hbl := BL.out
      have hb0 := B0.out
      have ek : wrap64 (p + (kk : Int)) = p + (kk : Int) := by unfold wrap64; omega
      have hwk : (Lit.int .i64 (p + (kk : Int))).wf = true := wf64 (by omega) (by omega)
      have HW := Aside0.mk hwk
      have EK := Aside0.mk ek
      clear hwk hbl hb0 ek
      generalize hrd : rd l (kk : Int) = x at hcell
      have HR := Aside0.mk hrd
      clear hrd
      rcases hF : F (p + (kk : Int)) with _ | cc
      · have HN := Aside0.mk hF
        clear hF
        go_wp2_with (first | (at_lookup; refine wpList_look _ rfl _ _ rfl m n F rfl MP.out _ rfl ?hwk ?_; (case hwk => first | exact HW.out | (rw [EK.out]; exact HW.out)); first | rw [EK.out, HN.out] | rw [HN.out]; simp only [Option.isSome_none, Option.getD_none]))
        go_roundg (l.length - (kk + 1))
        case measure => omega
        case rel => exact ⟨kk + 1, by omega, by omega, (by have b1_ := BL.out; have b2_ := B0.out; have e_ : wrap64 ((kk : Int) + 1) = ((kk + 1 : Nat) : Int) := (by unfold wrap64; omega); rw [e_]), ⟨fits_succ HF.out (fun c hc => by rw [HN.out] at hc; cases hc)⟩, rfl⟩
      · have HN := Aside0.mk hF
        clear hF
        by_cases hx : cc = x
        · have q1 : (cc != x) = false := by simp [hx]
          have q2 : (cc == x) = true := by simp [hx]
          have HX := Aside0.mk hx
          clear hx
          go_wp2_with (first | (at_lookup; refine wpList_look _ rfl _ _ rfl m n F rfl MP.out _ rfl ?hwk ?_; (case hwk => first | exact HW.out | (rw [EK.out]; exact HW.out)); first | rw [EK.out, HN.out] | rw [HN.out]; simp only [Option.isSome_some, Option.getD_some]))
          go_roundg (l.length - (kk + 1))
          case measure => omega
          case rel => exact ⟨kk + 1, by omega, by omega, (by have b1_ := BL.out; have b2_ := B0.out; have e_ : wrap64 ((kk : Int) + 1) = ((kk + 1 : Nat) : Int) := (by unfold wrap64; omega); rw [e_]), ⟨fits_succ HF.out (fun c hc => by rw [HN.out] at hc; rw [HR.out, ← HX.out]; exact (Option.some.inj hc).symm)⟩, rfl⟩
        · have q1 : (cc != x) = true := bne_iff_ne.mpr hx
          have q2 : (cc == x) = false := beq_eq_false_iff_ne.mpr hx
          clear hx
          go_wp2_with (first | (at_lookup; refine wpList_look _ rfl _ _ rfl m n F rfl MP.out _ rfl ?hwk ?_; (case hwk => first | exact HW.out | (rw [EK.out]; exact HW.out)); first | rw [EK.out, HN.out] | rw [HN.out]; simp only [Option.isSome_some, Option.getD_some]))
          go_ret
          exact ⟨rfl, rfl⟩
    · exact absurd (by have : kk = l.length := by omega
                       rw [this] at HF; exact HF.out) H3.out
set_option maxHeartbeats 4000000 in
set_option maxRecDepth 100000 in
theorem put_some {w : World} {sb : Nat} {b : Nat} {t : Int} {F : Fn} {n : Nat} (hS : St w sb (some b) t F n) (A : Option Addr) (c : Nat) (l : List Int) (p : Int) (hC : Kd.C (Kd.int .u8) w A l.length l) (h0 : 0 ≤ p) (h1 : p ≤ 1073741824) (ht : 0 ≤ t) (ht' : t ≤ 1099511627776) (hl : l.length ≤ 1099511627776)
    (h2 : ¬ (0 < l.length ∧ p + l.length - t > 4096)) (h3 : fits F p l l.length) (hB : Bytes l) (hsep : ∀ ad, A = some ad → ¬ (ad.block = sb ∨ some ad.block = (some b))) (hn : n + l.length ≤ 1099511627776) :
    Calls Try.prog 25 #[.pointer (some ⟨sb, 0, none⟩), .int .i64 p, .slice A l.length c] w fun e w' => e = .returned (.int .i64 0) ∧ After w w' sb (some b) t (stored F t p l l.length) (n + l.length) := by
  have d0 : decide (p < 0) = false := decide_eq_false (by omega)
  have d1 : decide (1073741824 < p) = false := decide_eq_false (by omega)
  by_cases hpos : 0 < l.length
  · skip
    have d2 : decide (0 < (l.length : Int)) = true := decide_eq_true (by omega)
    have d2' : decide (0 < l.length) = true := decide_eq_true (by omega)
    have e1 : wrap64 (p + (l.length : Int)) = p + (l.length : Int) := by unfold wrap64; omega
    have e2 : wrap64 (p + (l.length : Int) - t) = p + (l.length : Int) - t := by unfold wrap64; omega
    have d3 : decide (4096 < p + (l.length : Int) - t) = false := decide_eq_false (by omega)
    have c0 := hS.c0
    have c1 := hS.c1
    have MP := Aside0.mk hS.mp
    have HC := Aside0.mk hC
    have BL := Aside0.mk (show p + l.length ≤ 2199023255552 by omega)
    have B0 := Aside0.mk h0
    have H3 := Aside0.mk h3
    have HS0 := Aside0.mk hS
    have HB := Aside0.mk hB
    have HSEP := Aside0.mk hsep
    have BN := Aside0.mk hn
    clear hS hC h3 h2 ht ht' hl h0 h1 hB hsep hn hpos
    go_enter Try.func25, Try.ntmps25
    go_wp2
    clear e1 e2 d3
    go_loopg [40] l.length (fun gg v40 wr => ∃ kk : Nat, kk ≤ l.length ∧ l.length - kk ≤ gg ∧ v40 = .int .i64 kk ∧ Aside0 (fits F p l kk) ∧ wr = w)
    case atStart => exact ⟨0, Nat.zero_le _, by omega, rfl, ⟨fun i hi => by omega⟩, rfl⟩
    case round =>
      obtain ⟨kk, hkk, hg, rfl, HF, hw⟩ := hrel
      subst wr
      by_cases hlt : kk < l.length
      · have hltz : (kk : Int) < (l.length : Int) := by omega
        obtain ⟨ad, rfl, hcell⟩ := Kd.at_int HC.out (kk : Int) (by omega) hltz
        rw [Int.toNat_natCast] at hcell
        have hbl := BL.out
        have hb0 := B0.out
        have ek : wrap64 (p + (kk : Int)) = p + (kk : Int) := by unfold wrap64; omega
        have hwk : (Lit.int .i64 (p + (kk : Int))).wf = true := wf64 (by omega) (by omega)
        have HW := Aside0.mk hwk
        have EK := Aside0.mk ek
        clear hwk hbl hb0 ek
        generalize hrd : rd l (kk : Int) = x at hcell
        have HR := Aside0.mk hrd
        clear hrd
        rcases hF : F (p + (kk : Int)) with _ | cc
        · have HN := Aside0.mk hF
          clear hF
          go_wp2_with (first | (at_lookup; refine wpList_look _ rfl _ _ rfl (some b) n F rfl MP.out _ rfl ?hwk ?_; (case hwk => first | exact HW.out | (rw [EK.out]; exact HW.out)); first | rw [EK.out, HN.out] | rw [HN.out]; simp only [Option.isSome_none, Option.getD_none]))
          go_roundg (l.length - (kk + 1))
          case measure => omega
          case rel => exact ⟨kk + 1, by omega, by omega, (by have b1_ := BL.out; have b2_ := B0.out; have e_ : wrap64 ((kk : Int) + 1) = ((kk + 1 : Nat) : Int) := (by unfold wrap64; omega); rw [e_]), ⟨fits_succ HF.out (fun c hc => by rw [HN.out] at hc; cases hc)⟩, rfl⟩
        · have HN := Aside0.mk hF
          clear hF
          by_cases hx : cc = x
          · have q1 : (cc != x) = false := by simp [hx]
            have q2 : (cc == x) = true := by simp [hx]
            have HX := Aside0.mk hx
            clear hx
            go_wp2_with (first | (at_lookup; refine wpList_look _ rfl _ _ rfl (some b) n F rfl MP.out _ rfl ?hwk ?_; (case hwk => first | exact HW.out | (rw [EK.out]; exact HW.out)); first | rw [EK.out, HN.out] | rw [HN.out]; simp only [Option.isSome_some, Option.getD_some]))
            go_roundg (l.length - (kk + 1))
            case measure => omega
            case rel => exact ⟨kk + 1, by omega, by omega, (by have b1_ := BL.out; have b2_ := B0.out; have e_ : wrap64 ((kk : Int) + 1) = ((kk + 1 : Nat) : Int) := (by unfold wrap64; omega); rw [e_]), ⟨fits_succ HF.out (fun c hc => by rw [HN.out] at hc; rw [HR.out, ← HX.out]; exact (Option.some.inj hc).symm)⟩, rfl⟩
          · exact absurd (by rw [← HR.out]; exact (H3.out kk hlt cc HN.out)) hx
      · have hltz : ¬ (kk : Int) < (l.length : Int) := by omega
        have hnil := nilEq
        have hmm := @run_makeMap Try.prog
        clear HF
        go_wp2
        clear hkk hg hlt hltz hnil hmm
        go_loopg [74] l.length (fun gg v74 wr => ∃ kk : Nat, kk ≤ l.length ∧ l.length - kk ≤ gg ∧ v74 = .int .i64 kk ∧ St wr sb (some b) t (stored F t p l kk) (n + kk) ∧ Only (fun k => k = sb ∨ some k = some b) w wr)
        case atStart => exact ⟨0, Nat.zero_le _, by omega, rfl, by rw [stored_zero]; exact HS0.out, Only.refl _ _⟩
        case round =>
          obtain ⟨kk, hkk, hg, rfl, hS, hO⟩ := hrel
          have c0 := hS.c0
          have c1 := hS.c1
          have HS := Aside0.mk hS
          have HM := Aside0.mk hS.mp
          have HO := Aside0.mk hO
          clear hS hO
          by_cases hlt : kk < l.length
          · have hltz : (kk : Int) < (l.length : Int) := by omega
            obtain ⟨ad, rfl, hcell⟩ := Kd.at_int (HO.out.reads HC.out HSEP.out) (kk : Int) (by omega) hltz
            rw [Int.toNat_natCast] at hcell
            have hbl := BL.out
            have hb0 := B0.out
            have hbn := BN.out
            have ek : wrap64 (p + (kk : Int)) = p + (kk : Int) := by unfold wrap64; omega
            have HW := Aside0.mk (show (Lit.int .i64 (p + (kk : Int))).wf = true from wf64 (by omega) (by omega))
            have HWC := Aside0.mk (show (Lit.int .u8 (rd l (kk : Int))).wf = true from wf8 (bytes_rd HB.out kk hlt))
            have HROOM := Aside0.mk (show n + kk < maxLen by unfold maxLen; omega)
            have EK := Aside0.mk ek
            clear hbl hb0 hbn
            by_cases hge : t ≤ p + (kk : Int)
            · have d5 : decide (t ≤ wrap64 (p + (kk : Int))) = true := decide_eq_true (by rw [ek]; exact hge)
              have HGE := Aside0.mk hge
              clear hge ek
              go_wp2_with (first | (at_mapUpdate; refine wpList_store _ rfl _ _ _ rfl b (n + kk) _ rfl HM.out ?hroom _ _ rfl rfl ?hwk ?hwc ?_; (case hroom => exact HROOM.out); (case hwk => first | exact HW.out | (rw [EK.out]; exact HW.out)); (case hwc => exact HWC.out); intro w2 hM2 hT2; (first | rw [EK.out] at hM2 | skip)))
              have HS2 := Aside0.mk (HS.out.turned hM2 hT2)
              have HO2 := Aside0.mk (HO.out.turned hT2 (Or.inl (Or.inr rfl)))
              clear hM2 hT2
              go_wp2
              go_roundg (l.length - (kk + 1))
              case measure => omega
              case rel => exact ⟨kk + 1, by omega, by omega, (by have b1_ := BL.out; have b2_ := B0.out; have e_ : wrap64 ((kk : Int) + 1) = ((kk + 1 : Nat) : Int) := (by unfold wrap64; omega); rw [e_]), by rw [stored_put F t p l kk HGE.out]; exact HS2.out, HO2.out⟩
            · have d5 : decide (t ≤ wrap64 (p + (kk : Int))) = false := decide_eq_false (by rw [ek]; exact hge)
              have HGE := Aside0.mk hge
              clear hge ek
              go_wp2
              go_roundg (l.length - (kk + 1))
              case measure => omega
              case rel => exact ⟨kk + 1, by omega, by omega, (by have b1_ := BL.out; have b2_ := B0.out; have e_ : wrap64 ((kk : Int) + 1) = ((kk + 1 : Nat) : Int) := (by unfold wrap64; omega); rw [e_]), by rw [stored_skip F t p l kk (by have := HGE.out; omega)]; exact HS.out.mono (by omega), HO.out⟩
          · have hltz : ¬ (kk : Int) < (l.length : Int) := by omega
            obtain rfl : kk = l.length := by omega
            go_wp2
            go_ret
            exact ⟨rfl, _, HS.out, Or.inl rfl, HO.out⟩
  · skip
    have d2 : decide (0 < (l.length : Int)) = false := decide_eq_false (by omega)
    have d2' : decide (0 < l.length) = false := decide_eq_false (by omega)
    have c0 := hS.c0
    have c1 := hS.c1
    have MP := Aside0.mk hS.mp
    have HC := Aside0.mk hC
    have BL := Aside0.mk (show p + l.length ≤ 2199023255552 by omega)
    have B0 := Aside0.mk h0
    have H3 := Aside0.mk h3
    have HS0 := Aside0.mk hS
    have HB := Aside0.mk hB
    have HSEP := Aside0.mk hsep
    have BN := Aside0.mk hn
    clear hS hC h3 h2 ht ht' hl h0 h1 hB hsep hn
    clear hpos
    go_enter Try.func25, Try.ntmps25
    go_wp2
    go_loopg [40] l.length (fun gg v40 wr => ∃ kk : Nat, kk ≤ l.length ∧ l.length - kk ≤ gg ∧ v40 = .int .i64 kk ∧ Aside0 (fits F p l kk) ∧ wr = w)
    case atStart => exact ⟨0, Nat.zero_le _, by omega, rfl, ⟨fun i hi => by omega⟩, rfl⟩
    case round =>
      obtain ⟨kk, hkk, hg, rfl, HF, hw⟩ := hrel
      subst wr
      by_cases hlt : kk < l.length
      · have hltz : (kk : Int) < (l.length : Int) := by omega
        obtain ⟨ad, rfl, hcell⟩ := Kd.at_int HC.out (kk : Int) (by omega) hltz
        rw [Int.toNat_natCast] at hcell
        have hbl := BL.out
        have hb0 := B0.out
        have ek : wrap64 (p + (kk : Int)) = p + (kk : Int) := by unfold wrap64; omega
        have hwk : (Lit.int .i64 (p + (kk : Int))).wf = true := wf64 (by omega) (by omega)
        have HW := Aside0.mk hwk
        have EK := Aside0.mk ek
        clear hwk hbl hb0 ek
        generalize hrd : rd l (kk : Int) = x at hcell
        have HR := Aside0.mk hrd
        clear hrd
        rcases hF : F (p + (kk : Int)) with _ | cc
        · have HN := Aside0.mk hF
          clear hF
          go_wp2_with (first | (at_lookup; refine wpList_look _ rfl _ _ rfl (some b) n F rfl MP.out _ rfl ?hwk ?_; (case hwk => first | exact HW.out | (rw [EK.out]; exact HW.out)); first | rw [EK.out, HN.out] | rw [HN.out]; simp only [Option.isSome_none, Option.getD_none]))
          go_roundg (l.length - (kk + 1))
          case measure => omega
          case rel => exact ⟨kk + 1, by omega, by omega, (by have b1_ := BL.out; have b2_ := B0.out; have e_ : wrap64 ((kk : Int) + 1) = ((kk + 1 : Nat) : Int) := (by unfold wrap64; omega); rw [e_]), ⟨fits_succ HF.out (fun c hc => by rw [HN.out] at hc; cases hc)⟩, rfl⟩
        · have HN := Aside0.mk hF
          clear hF
          by_cases hx : cc = x
          · have q1 : (cc != x) = false := by simp [hx]
            have q2 : (cc == x) = true := by simp [hx]
            have HX := Aside0.mk hx
            clear hx
            go_wp2_with (first | (at_lookup; refine wpList_look _ rfl _ _ rfl (some b) n F rfl MP.out _ rfl ?hwk ?_; (case hwk => first | exact HW.out | (rw [EK.out]; exact HW.out)); first | rw [EK.out, HN.out] | rw [HN.out]; simp only [Option.isSome_some, Option.getD_some]))
            go_roundg (l.length - (kk + 1))
            case measure => omega
            case rel => exact ⟨kk + 1, by omega, by omega, (by have b1_ := BL.out; have b2_ := B0.out; have e_ : wrap64 ((kk : Int) + 1) = ((kk + 1 : Nat) : Int) := (by unfold wrap64; omega); rw [e_]), ⟨fits_succ HF.out (fun c hc => by rw [HN.out] at hc; rw [HR.out, ← HX.out]; exact (Option.some.inj hc).symm)⟩, rfl⟩
          · exact absurd (by rw [← HR.out]; exact (H3.out kk hlt cc HN.out)) hx
      · have hltz : ¬ (kk : Int) < (l.length : Int) := by omega
        have hnil := nilEq
        have hmm := @run_makeMap Try.prog
        clear HF
        go_wp2
        clear hkk hg hlt hltz hnil hmm
        go_loopg [74] l.length (fun gg v74 wr => ∃ kk : Nat, kk ≤ l.length ∧ l.length - kk ≤ gg ∧ v74 = .int .i64 kk ∧ St wr sb (some b) t (stored F t p l kk) (n + kk) ∧ Only (fun k => k = sb ∨ some k = some b) w wr)
        case atStart => exact ⟨0, Nat.zero_le _, by omega, rfl, by rw [stored_zero]; exact HS0.out, Only.refl _ _⟩
        case round =>
          obtain ⟨kk, hkk, hg, rfl, hS, hO⟩ := hrel
          have c0 := hS.c0
          have c1 := hS.c1
          have HS := Aside0.mk hS
          have HM := Aside0.mk hS.mp
          have HO := Aside0.mk hO
          clear hS hO
          by_cases hlt : kk < l.length
          · have hltz : (kk : Int) < (l.length : Int) := by omega
            obtain ⟨ad, rfl, hcell⟩ := Kd.at_int (HO.out.reads HC.out HSEP.out) (kk : Int) (by omega) hltz
            rw [Int.toNat_natCast] at hcell
            have hbl := BL.out
            have hb0 := B0.out
            have hbn := BN.out
            have ek : wrap64 (p + (kk : Int)) = p + (kk : Int) := by unfold wrap64; omega
            have HW := Aside0.mk (show (Lit.int .i64 (p + (kk : Int))).wf = true from wf64 (by omega) (by omega))
            have HWC := Aside0.mk (show (Lit.int .u8 (rd l (kk : Int))).wf = true from wf8 (bytes_rd HB.out kk hlt))
            have HROOM := Aside0.mk (show n + kk < maxLen by unfold maxLen; omega)
            have EK := Aside0.mk ek
            clear hbl hb0 hbn
            by_cases hge : t ≤ p + (kk : Int)
            · have d5 : decide (t ≤ wrap64 (p + (kk : Int))) = true := decide_eq_true (by rw [ek]; exact hge)
              have HGE := Aside0.mk hge
              clear hge ek
              go_wp2_with (first | (at_mapUpdate; refine wpList_store _ rfl _ _ _ rfl b (n + kk) _ rfl HM.out ?hroom _ _ rfl rfl ?hwk ?hwc ?_; (case hroom => exact HROOM.out); (case hwk => first | exact HW.out | (rw [EK.out]; exact HW.out)); (case hwc => exact HWC.out); intro w2 hM2 hT2; (first | rw [EK.out] at hM2 | skip)))
              have HS2 := Aside0.mk (HS.out.turned hM2 hT2)
              have HO2 := Aside0.mk (HO.out.turned hT2 (Or.inl (Or.inr rfl)))
              clear hM2 hT2
              go_wp2
              go_roundg (l.length - (kk + 1))
              case measure => omega
              case rel => exact ⟨kk + 1, by omega, by omega, (by have b1_ := BL.out; have b2_ := B0.out; have e_ : wrap64 ((kk : Int) + 1) = ((kk + 1 : Nat) : Int) := (by unfold wrap64; omega); rw [e_]), by rw [stored_put F t p l kk HGE.out]; exact HS2.out, HO2.out⟩
            · have d5 : decide (t ≤ wrap64 (p + (kk : Int))) = false := decide_eq_false (by rw [ek]; exact hge)
              have HGE := Aside0.mk hge
              clear hge ek
              go_wp2
              go_roundg (l.length - (kk + 1))
              case measure => omega
              case rel => exact ⟨kk + 1, by omega, by omega, (by have b1_ := BL.out; have b2_ := B0.out; have e_ : wrap64 ((kk : Int) + 1) = ((kk + 1 : Nat) : Int) := (by unfold wrap64; omega); rw [e_]), by rw [stored_skip F t p l kk (by have := HGE.out; omega)]; exact HS.out.mono (by omega), HO.out⟩
          · have hltz : ¬ (kk : Int) < (l.length : Int) := by omega
            obtain rfl : kk = l.length := by omega
            go_wp2
            go_ret
            exact ⟨rfl, _, HS.out, Or.inl rfl, HO.out⟩
set_option maxHeartbeats 4000000 in
set_option maxRecDepth 100000 in
theorem put_none {w : World} {sb : Nat} {t : Int} {F : Fn} {n : Nat} (hS : St w sb none t F n) (A : Option Addr) (c : Nat) (l : List Int) (p : Int) (hC : Kd.C (Kd.int .u8) w A l.length l) (h0 : 0 ≤ p) (h1 : p ≤ 1073741824) (ht : 0 ≤ t) (ht' : t ≤ 1099511627776) (hl : l.length ≤ 1099511627776)
    (h2 : ¬ (0 < l.length ∧ p + l.length - t > 4096)) (h3 : fits F p l l.length) (hB : Bytes l) (hsep : ∀ ad, A = some ad → ¬ (ad.block = sb ∨ some ad.block = none)) (hn : n + l.length ≤ 1099511627776) :
    Calls Try.prog 25 #[.pointer (some ⟨sb, 0, none⟩), .int .i64 p, .slice A l.length c] w fun e w' => e = .returned (.int .i64 0) ∧ After w w' sb none t (stored F t p l l.length) (n + l.length) := by
  have d0 : decide (p < 0) = false := decide_eq_false (by omega)
  have d1 : decide (1073741824 < p) = false := decide_eq_false (by omega)
  by_cases hpos : 0 < l.length
  · skip
    have d2 : decide (0 < (l.length : Int)) = true := decide_eq_true (by omega)
    have d2' : decide (0 < l.length) = true := decide_eq_true (by omega)
    have e1 : wrap64 (p + (l.length : Int)) = p + (l.length : Int) := by unfold wrap64; omega
    have e2 : wrap64 (p + (l.length : Int) - t) = p + (l.length : Int) - t := by unfold wrap64; omega
    have d3 : decide (4096 < p + (l.length : Int) - t) = false := decide_eq_false (by omega)
    have c0 := hS.c0
    have c1 := hS.c1
    have MP := Aside0.mk hS.mp
    have HC := Aside0.mk hC
    have BL := Aside0.mk (show p + l.length ≤ 2199023255552 by omega)
    have B0 := Aside0.mk h0
    have H3 := Aside0.mk h3
    have HS0 := Aside0.mk hS
    have HB := Aside0.mk hB
    have HSEP := Aside0.mk hsep
    have BN := Aside0.mk hn
    clear hS hC h3 h2 ht ht' hl h0 h1 hB hsep hn hpos
    go_enter Try.func25, Try.ntmps25
    go_wp2
    clear e1 e2 d3
    go_loopg [40] l.length (fun gg v40 wr => ∃ kk : Nat, kk ≤ l.length ∧ l.length - kk ≤ gg ∧ v40 = .int .i64 kk ∧ Aside0 (fits F p l kk) ∧ wr = w)
    case atStart => exact ⟨0, Nat.zero_le _, by omega, rfl, ⟨fun i hi => by omega⟩, rfl⟩
    case round =>
      obtain ⟨kk, hkk, hg, rfl, HF, hw⟩ := hrel
      subst wr
      by_cases hlt : kk < l.length
      · have hltz : (kk : Int) < (l.length : Int) := by omega
        obtain ⟨ad, rfl, hcell⟩ := Kd.at_int HC.out (kk : Int) (by omega) hltz
        rw [Int.toNat_natCast] at hcell
        have hbl := BL.out
        have hb0 := B0.out
        have ek : wrap64 (p + (kk : Int)) = p + (kk : Int) := by unfold wrap64; omega
        have hwk : (Lit.int .i64 (p + (kk : Int))).wf = true := wf64 (by omega) (by omega)
        have HW := Aside0.mk hwk
        have EK := Aside0.mk ek
        clear hwk hbl hb0 ek
        generalize hrd : rd l (kk : Int) = x at hcell
        have HR := Aside0.mk hrd
        clear hrd
        rcases hF : F (p + (kk : Int)) with _ | cc
        · have HN := Aside0.mk hF
          clear hF
          go_wp2_with (first | (at_lookup; refine wpList_look _ rfl _ _ rfl none n F rfl MP.out _ rfl ?hwk ?_; (case hwk => first | exact HW.out | (rw [EK.out]; exact HW.out)); first | rw [EK.out, HN.out] | rw [HN.out]; simp only [Option.isSome_none, Option.getD_none]))
          go_roundg (l.length - (kk + 1))
          case measure => omega
          case rel => exact ⟨kk + 1, by omega, by omega, (by have b1_ := BL.out; have b2_ := B0.out; have e_ : wrap64 ((kk : Int) + 1) = ((kk + 1 : Nat) : Int) := (by unfold wrap64; omega); rw [e_]), ⟨fits_succ HF.out (fun c hc => by rw [HN.out] at hc; cases hc)⟩, rfl⟩
        · have HN := Aside0.mk hF
          clear hF
          by_cases hx : cc = x
          · have q1 : (cc != x) = false := by simp [hx]
            have q2 : (cc == x) = true := by simp [hx]
            have HX := Aside0.mk hx
            clear hx
            go_wp2_with (first | (at_lookup; refine wpList_look _ rfl _ _ rfl none n F rfl MP.out _ rfl ?hwk ?_; (case hwk => first | exact HW.out | (rw [EK.out]; exact HW.out)); first | rw [EK.out, HN.out] | rw [HN.out]; simp only [Option.isSome_some, Option.getD_some]))
            go_roundg (l.length - (kk + 1))
            case measure => omega
            case rel => exact ⟨kk + 1, by omega, by omega, (by have b1_ := BL.out; have b2_ := B0.out; have e_ : wrap64 ((kk : Int) + 1) = ((kk + 1 : Nat) : Int) := (by unfold wrap64; omega); rw [e_]), ⟨fits_succ HF.out (fun c hc => by rw [HN.out] at hc; rw [HR.out, ← HX.out]; exact (Option.some.inj hc).symm)⟩, rfl⟩
          · exact absurd (by rw [← HR.out]; exact (H3.out kk hlt cc HN.out)) hx
      · have hltz : ¬ (kk : Int) < (l.length : Int) := by omega
        have hnil := nilEq
        have hmm := @run_makeMap Try.prog
        have a1 : (w.alloc (.map #[] 0)).cell? ⟨sb, 1, none⟩ = some (.map none) := (World.cell?_alloc_lt _ _ _ HS0.out.lt).trans HS0.out.c1
        have a2 : (w.alloc (.map #[] 0)).frozen? ⟨sb, 1, none⟩ = false := (World.frozen?_alloc_old _ _ _ (by have := HS0.out.lt; simp; omega)).trans HS0.out.f1
        clear HF
        go_wp2
        clear hkk hg hlt hltz hnil hmm a1 a2
        go_loopg [74] l.length (fun gg v74 wr => ∃ kk : Nat, kk ≤ l.length ∧ l.length - kk ≤ gg ∧ v74 = .int .i64 kk ∧ St wr sb (some w.heap.size) t (stored F t p l kk) (n + kk) ∧ Only (fun k => k = sb ∨ some k = none) w wr)
        case atStart => exact ⟨0, Nat.zero_le _, by omega, rfl, by rw [stored_zero]; exact HS0.out.made, Only.made _⟩
        case round =>
          obtain ⟨kk, hkk, hg, rfl, hS, hO⟩ := hrel
          have c0 := hS.c0
          have c1 := hS.c1
          have HS := Aside0.mk hS
          have HM := Aside0.mk hS.mp
          have HO := Aside0.mk hO
          clear hS hO
          by_cases hlt : kk < l.length
          · have hltz : (kk : Int) < (l.length : Int) := by omega
            obtain ⟨ad, rfl, hcell⟩ := Kd.at_int (HO.out.reads HC.out HSEP.out) (kk : Int) (by omega) hltz
            rw [Int.toNat_natCast] at hcell
            have hbl := BL.out
            have hb0 := B0.out
            have hbn := BN.out
            have ek : wrap64 (p + (kk : Int)) = p + (kk : Int) := by unfold wrap64; omega
            have HW := Aside0.mk (show (Lit.int .i64 (p + (kk : Int))).wf = true from wf64 (by omega) (by omega))
            have HWC := Aside0.mk (show (Lit.int .u8 (rd l (kk : Int))).wf = true from wf8 (bytes_rd HB.out kk hlt))
            have HROOM := Aside0.mk (show n + kk < maxLen by unfold maxLen; omega)
            have EK := Aside0.mk ek
            clear hbl hb0 hbn
            by_cases hge : t ≤ p + (kk : Int)
            · have d5 : decide (t ≤ wrap64 (p + (kk : Int))) = true := decide_eq_true (by rw [ek]; exact hge)
              have HGE := Aside0.mk hge
              clear hge ek
              go_wp2_with (first | (at_mapUpdate; refine wpList_store _ rfl _ _ _ rfl w.heap.size (n + kk) _ rfl HM.out ?hroom _ _ rfl rfl ?hwk ?hwc ?_; (case hroom => exact HROOM.out); (case hwk => first | exact HW.out | (rw [EK.out]; exact HW.out)); (case hwc => exact HWC.out); intro w2 hM2 hT2; (first | rw [EK.out] at hM2 | skip)))
              have HS2 := Aside0.mk (HS.out.turned hM2 hT2)
              have HO2 := Aside0.mk (HO.out.turned hT2 (Or.inr (Nat.le_refl _)))
              clear hM2 hT2
              go_wp2
              go_roundg (l.length - (kk + 1))
              case measure => omega
              case rel => exact ⟨kk + 1, by omega, by omega, (by have b1_ := BL.out; have b2_ := B0.out; have e_ : wrap64 ((kk : Int) + 1) = ((kk + 1 : Nat) : Int) := (by unfold wrap64; omega); rw [e_]), by rw [stored_put F t p l kk HGE.out]; exact HS2.out, HO2.out⟩
            · have d5 : decide (t ≤ wrap64 (p + (kk : Int))) = false := decide_eq_false (by rw [ek]; exact hge)
              have HGE := Aside0.mk hge
              clear hge ek
              go_wp2
              go_roundg (l.length - (kk + 1))
              case measure => omega
              case rel => exact ⟨kk + 1, by omega, by omega, (by have b1_ := BL.out; have b2_ := B0.out; have e_ : wrap64 ((kk : Int) + 1) = ((kk + 1 : Nat) : Int) := (by unfold wrap64; omega); rw [e_]), by rw [stored_skip F t p l kk (by have := HGE.out; omega)]; exact HS.out.mono (by omega), HO.out⟩
          · have hltz : ¬ (kk : Int) < (l.length : Int) := by omega
            obtain rfl : kk = l.length := by omega
            go_wp2
            go_ret
            exact ⟨rfl, _, HS.out, Or.inr ⟨_, rfl, Nat.le_refl _⟩, HO.out⟩
  · skip
    have d2 : decide (0 < (l.length : Int)) = false := decide_eq_false (by omega)
    have d2' : decide (0 < l.length) = false := decide_eq_false (by omega)
    have c0 := hS.c0
    have c1 := hS.c1
    have MP := Aside0.mk hS.mp
    have HC := Aside0.mk hC
    have BL := Aside0.mk (show p + l.length ≤ 2199023255552 by omega)
    have B0 := Aside0.mk h0
    have H3 := Aside0.mk h3
    have HS0 := Aside0.mk hS
    have HB := Aside0.mk hB
    have HSEP := Aside0.mk hsep
    have BN := Aside0.mk hn
    clear hS hC h3 h2 ht ht' hl h0 h1 hB hsep hn
    clear hpos
    go_enter Try.func25, Try.ntmps25
    go_wp2
    go_loopg [40] l.length (fun gg v40 wr => ∃ kk : Nat, kk ≤ l.length ∧ l.length - kk ≤ gg ∧ v40 = .int .i64 kk ∧ Aside0 (fits F p l kk) ∧ wr = w)
    case atStart => exact ⟨0, Nat.zero_le _, by omega, rfl, ⟨fun i hi => by omega⟩, rfl⟩
    case round =>
      obtain ⟨kk, hkk, hg, rfl, HF, hw⟩ := hrel
      subst wr
      by_cases hlt : kk < l.length
      · have hltz : (kk : Int) < (l.length : Int) := by omega
        obtain ⟨ad, rfl, hcell⟩ := Kd.at_int HC.out (kk : Int) (by omega) hltz
        rw [Int.toNat_natCast] at hcell
        have hbl := BL.out
        have hb0 := B0.out
        have ek : wrap64 (p + (kk : Int)) = p + (kk : Int) := by unfold wrap64; omega
        have hwk : (Lit.int .i64 (p + (kk : Int))).wf = true := wf64 (by omega) (by omega)
        have HW := Aside0.mk hwk
        have EK := Aside0.mk ek
        clear hwk hbl hb0 ek
        generalize hrd : rd l (kk : Int) = x at hcell
        have HR := Aside0.mk hrd
        clear hrd
        rcases hF : F (p + (kk : Int)) with _ | cc
        · have HN := Aside0.mk hF
          clear hF
          go_wp2_with (first | (at_lookup; refine wpList_look _ rfl _ _ rfl none n F rfl MP.out _ rfl ?hwk ?_; (case hwk => first | exact HW.out | (rw [EK.out]; exact HW.out)); first | rw [EK.out, HN.out] | rw [HN.out]; simp only [Option.isSome_none, Option.getD_none]))
          go_roundg (l.length - (kk + 1))
          case measure => omega
          case rel => exact ⟨kk + 1, by omega, by omega, (by have b1_ := BL.out; have b2_ := B0.out; have e_ : wrap64 ((kk : Int) + 1) = ((kk + 1 : Nat) : Int) := (by unfold wrap64; omega); rw [e_]), ⟨fits_succ HF.out (fun c hc => by rw [HN.out] at hc; cases hc)⟩, rfl⟩
        · have HN := Aside0.mk hF
          clear hF
          by_cases hx : cc = x
          · have q1 : (cc != x) = false := by simp [hx]
            have q2 : (cc == x) = true := by simp [hx]
            have HX := Aside0.mk hx
            clear hx
            go_wp2_with (first | (at_lookup; refine wpList_look _ rfl _ _ rfl none n F rfl MP.out _ rfl ?hwk ?_; (case hwk => first | exact HW.out | (rw [EK.out]; exact HW.out)); first | rw [EK.out, HN.out] | rw [HN.out]; simp only [Option.isSome_some, Option.getD_some]))
            go_roundg (l.length - (kk + 1))
            case measure => omega
            case rel => exact ⟨kk + 1, by omega, by omega, (by have b1_ := BL.out; have b2_ := B0.out; have e_ : wrap64 ((kk : Int) + 1) = ((kk + 1 : Nat) : Int) := (by unfold wrap64; omega); rw [e_]), ⟨fits_succ HF.out (fun c hc => by rw [HN.out] at hc; rw [HR.out, ← HX.out]; exact (Option.some.inj hc).symm)⟩, rfl⟩
          · exact absurd (by rw [← HR.out]; exact (H3.out kk hlt cc HN.out)) hx
      · have hltz : ¬ (kk : Int) < (l.length : Int) := by omega
        have hnil := nilEq
        have hmm := @run_makeMap Try.prog
        have a1 : (w.alloc (.map #[] 0)).cell? ⟨sb, 1, none⟩ = some (.map none) := (World.cell?_alloc_lt _ _ _ HS0.out.lt).trans HS0.out.c1
        have a2 : (w.alloc (.map #[] 0)).frozen? ⟨sb, 1, none⟩ = false := (World.frozen?_alloc_old _ _ _ (by have := HS0.out.lt; simp; omega)).trans HS0.out.f1
        clear HF
        go_wp2
        clear hkk hg hlt hltz hnil hmm a1 a2
        go_loopg [74] l.length (fun gg v74 wr => ∃ kk : Nat, kk ≤ l.length ∧ l.length - kk ≤ gg ∧ v74 = .int .i64 kk ∧ St wr sb (some w.heap.size) t (stored F t p l kk) (n + kk) ∧ Only (fun k => k = sb ∨ some k = none) w wr)
        case atStart => exact ⟨0, Nat.zero_le _, by omega, rfl, by rw [stored_zero]; exact HS0.out.made, Only.made _⟩
        case round =>
          obtain ⟨kk, hkk, hg, rfl, hS, hO⟩ := hrel
          have c0 := hS.c0
          have c1 := hS.c1
          have HS := Aside0.mk hS
          have HM := Aside0.mk hS.mp
          have HO := Aside0.mk hO
          clear hS hO
          by_cases hlt : kk < l.length
          · have hltz : (kk : Int) < (l.length : Int) := by omega
            obtain ⟨ad, rfl, hcell⟩ := Kd.at_int (HO.out.reads HC.out HSEP.out) (kk : Int) (by omega) hltz
            rw [Int.toNat_natCast] at hcell
            have hbl := BL.out
            have hb0 := B0.out
            have hbn := BN.out
            have ek : wrap64 (p + (kk : Int)) = p + (kk : Int) := by unfold wrap64; omega
            have HW := Aside0.mk (show (Lit.int .i64 (p + (kk : Int))).wf = true from wf64 (by omega) (by omega))
            have HWC := Aside0.mk (show (Lit.int .u8 (rd l (kk : Int))).wf = true from wf8 (bytes_rd HB.out kk hlt))
            have HROOM := Aside0.mk (show n + kk < maxLen by unfold maxLen; omega)
            have EK := Aside0.mk ek
            clear hbl hb0 hbn
            by_cases hge : t ≤ p + (kk : Int)
            · have d5 : decide (t ≤ wrap64 (p + (kk : Int))) = true := decide_eq_true (by rw [ek]; exact hge)
              have HGE := Aside0.mk hge
              clear hge ek
              go_wp2_with (first | (at_mapUpdate; refine wpList_store _ rfl _ _ _ rfl w.heap.size (n + kk) _ rfl HM.out ?hroom _ _ rfl rfl ?hwk ?hwc ?_; (case hroom => exact HROOM.out); (case hwk => first | exact HW.out | (rw [EK.out]; exact HW.out)); (case hwc => exact HWC.out); intro w2 hM2 hT2; (first | rw [EK.out] at hM2 | skip)))
              have HS2 := Aside0.mk (HS.out.turned hM2 hT2)
              have HO2 := Aside0.mk (HO.out.turned hT2 (Or.inr (Nat.le_refl _)))
              clear hM2 hT2
              go_wp2
              go_roundg (l.length - (kk + 1))
              case measure => omega
              case rel => exact ⟨kk + 1, by omega, by omega, (by have b1_ := BL.out; have b2_ := B0.out; have e_ : wrap64 ((kk : Int) + 1) = ((kk + 1 : Nat) : Int) := (by unfold wrap64; omega); rw [e_]), by rw [stored_put F t p l kk HGE.out]; exact HS2.out, HO2.out⟩
            · have d5 : decide (t ≤ wrap64 (p + (kk : Int))) = false := decide_eq_false (by rw [ek]; exact hge)
              have HGE := Aside0.mk hge
              clear hge ek
              go_wp2
              go_roundg (l.length - (kk + 1))
              case measure => omega
              case rel => exact ⟨kk + 1, by omega, by omega, (by have b1_ := BL.out; have b2_ := B0.out; have e_ : wrap64 ((kk : Int) + 1) = ((kk + 1 : Nat) : Int) := (by unfold wrap64; omega); rw [e_]), by rw [stored_skip F t p l kk (by have := HGE.out; omega)]; exact HS.out.mono (by omega), HO.out⟩
          · have hltz : ¬ (kk : Int) < (l.length : Int) := by omega
            obtain rfl : kk = l.length := by omega
            go_wp2
            go_ret
            exact ⟨rfl, _, HS.out, Or.inr ⟨_, rfl, Nat.le_refl _⟩, HO.out⟩
end Go.Proofs.Ytbcleckapamicaa.Stm
