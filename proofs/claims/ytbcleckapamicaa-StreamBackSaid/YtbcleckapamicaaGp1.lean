/- slices.Concat of rows of bytes, walked: one behind the other. -/
import Derived.Test.YtbcleckapamicaaGp0
namespace Go.Proofs.Ytbcleckapamicaa.Gw
open Go.RowKit Go.Proofs.YtbcleckapamicaaW.PrintWords Go.Proofs.YtbcleckapamicaaW.PrintLast Go.Proofs.YtbcleckapamicaaW.PrintMore
open Go.Proofs.Ytbcleckapamicaa.Stm (info5)
set_option linter.unusedVariables false
set_option linter.unusedSimpArgs false

theorem at_rows {w : World} {A : Option Addr} {n : Nat} {xs : List (List Int)} (h : Kd.C (Kd.slice 5 (Kd.int .u8)) w A n xs) (i : Nat) (h1 : i < n) : ∃ ad A0 c0, A = some ad ∧ w.cell? (ad.add i) = some (.slice A0 (xs.getD i []).length c0) ∧ (xs.getD i []).length ≤ c0 ∧ (Kd.int .u8).C w A0 (xs.getD i []).length (xs.getD i []) := by
  obtain ⟨ad, c, e, _, hK, hc0⟩ := Kd.C_get h ([] : List Int) (i : Int) (by omega) (by omega)
  rw [Int.toNat_natCast] at hK hc0
  have hc : ∀ j u, c[j]? = some u → w.cell? (ad.add (i * 1 + j)) = some u := hc0
  obtain ⟨A0, c0, rfl, l0, g0⟩ := hK
  exact ⟨ad, A0, c0, e, by have hq := hc 0 _ rfl; rwa [Nat.mul_one, Nat.add_zero] at hq, l0, g0⟩

def front (y : List (List Int)) (k : Nat) : List Int := (y.take k).flatten
theorem front_zero (y : List (List Int)) : front y 0 = [] := rfl
theorem front_all (y : List (List Int)) (k : Nat) (h : y.length ≤ k) : front y k = y.flatten := by unfold front; rw [List.take_of_length_le h]
theorem front_succ (y : List (List Int)) (k : Nat) (h : k < y.length) : front y (k + 1) = front y k ++ y.getD k [] := by
  unfold front
  rw [List.take_succ_eq_append_getElem h, List.flatten_append, List.getD_eq_getElem?_getD, List.getElem?_eq_getElem h]
  simp
theorem front_le (y : List (List Int)) (k : Nat) : (front y k).length ≤ y.flatten.length := by
  unfold front
  conv => rhs; rw [← List.take_append_drop k y, List.flatten_append, List.length_append]
  omega

def slices_Concat_byte_byte.f (y : List (List Int)) : Option (List Int) := if y.flatten.length ≤ 140737488355328 then some y.flatten else none

set_option maxHeartbeats 1000000 in
theorem slices_Concat_byte_byte.calls (A0 : Option Addr) (c0 : Nat) (y : List (List Int)) (r : List Int) (w : World) (hr0 : Kd.C (Kd.slice 5 (Kd.int .u8)) w A0 y.length y) (hc0 : y.length ≤ c0) (h : slices_Concat_byte_byte.f y = some r) :
    Calls Try.prog 52 #[.slice A0 y.length c0] w fun e w' => ∃ v0_ : Value, e = .returned (v0_) ∧ Kd.R (Kd.int .u8) 5 w' w.heap.size (fun _ => True) v0_ r ∧ Below w.heap.size w w' := by
  unfold slices_Concat_byte_byte.f at h
  by_cases hl : y.flatten.length ≤ 140737488355328
  · rw [if_pos hl] at h
    obtain rfl := Option.some.inj h
    clear h
    have hm := hr0.2.1
    have HR := Aside0.mk hr0
    have HL := Aside0.mk hl
    have HF := Aside0.mk (front_le y)
    clear hr0 hl hc0
    go_enter Try.func52, Try.ntmps52
    go_wp2
    go_loopg [3, 11] y.length (fun gg v3 v11 wr => ∃ kk : Nat, kk ≤ y.length ∧ y.length - kk ≤ gg ∧ v3 = .int .i64 ((front y kk).length : Nat) ∧ v11 = .int .i64 kk ∧ wr = w)
    case atStart => exact ⟨0, Nat.zero_le _, by omega, rfl, rfl, rfl⟩
    case round =>
      obtain ⟨kk, hkk, hg, rfl, rfl, hw⟩ := hrel
      subst wr
      have hf := HF.out kk
      have hfl := HL.out
      by_cases hlt : kk < y.length
      · have hltz : (kk : Int) < (y.length : Int) := by omega
        obtain ⟨ad, A', c', rfl, hcell, hle, hC⟩ := at_rows HR.out kk hlt
        have hs := front_succ y kk hlt
        have hf1 := HF.out (kk + 1)
        have hs1 : (front y (kk + 1)).length = (front y kk).length + (y.getD kk []).length := by rw [hs, List.length_append]
        have hlen : ((front y kk).length : Int) + ((y.getD kk []).length : Int) = ((front y (kk + 1)).length : Int) := by rw [hs1]; omega
        have hwr : wrap64 (((front y kk).length : Int) + ((y.getD kk []).length : Int)) = ((front y (kk + 1)).length : Int) := by rw [hlen]; unfold wrap64; omega
        have HX := Aside0.mk hwr
        have hz : decide (wrap64 (((front y kk).length : Int) + ((y.getD kk []).length : Int)) < 0) = false := decide_eq_false (by rw [hwr]; omega)
        clear hs hs1 hC hle hlen hwr
        generalize y.getD kk [] = el at *
        go_wp2
        go_roundg (y.length - (kk + 1))
        case measure => omega
        case rel => exact ⟨kk + 1, by omega, by omega, by rw [HX.out], by go_num, rfl⟩
      · have hltz : ¬ (kk : Int) < (y.length : Int) := by omega
        have H := grow_nil (front y kk).length w (by omega)
        go_wp2_with (go_at_call 65; refine H.mono ?_; rintro e w' ⟨v0, rfl, HO, hb⟩)
        clear H hf hltz hlt hkk hg
        have HO' := Aside0.mk HO
        have HB' := Aside0.mk hb
        clear HO hb
        go_loopg [6, 27] y.length (fun gg v6 v27 ws => ∃ jj : Nat, jj ≤ y.length ∧ y.length - jj ≤ gg ∧ v27 = .int .i64 jj ∧ Kd.R (Kd.int .u8) 5 ws w.heap.size (fun _ => True) v6 (front y jj) ∧ Below w.heap.size w ws)
        case atStart => exact ⟨0, Nat.zero_le _, by omega, rfl, HO'.out, HB'.out⟩
        case round =>
          clear HO' HB'
          obtain ⟨jj, hjj, hg, rfl, HO, HB⟩ := hrel
          have hfl := HL.out
          by_cases hlt : jj < y.length
          · have hltz : (jj : Int) < (y.length : Int) := by omega
            obtain ⟨ad, A', c', rfl, hcell0, hle, hC0⟩ := at_rows HR.out jj hlt
            have hC := Aside0.mk (Kd.C_below hC0 HB)
            have hcell := pw_cell_below HB hcell0
            have hs := front_succ y jj hlt
            have hf1 := HF.out (jj + 1)
            have hs1 : (front y (jj + 1)).length = (front y jj).length + (y.getD jj []).length := by rw [hs, List.length_append]
            have HS := Aside0.mk hs
            have HL2 := Aside0.mk (show (front y jj).length + (y.getD jj []).length ≤ 140737488355328 by omega)
            have hbs := Aside0.mk (below_size HB)
            have HO' := Aside0.mk HO
            have HB' := Aside0.mk HB
            clear hs hs1 hC0 hle HO HB hcell0 hfl hf1
            generalize y.getD jj [] = el at *
            go_wp2_with ((with_reducible refine gate_builtin (b := .append) (xs := #[.tmp 31, .tmp 32]) rfl ?_); at_builtin; refine Kd.R_append_rows (Kd.int .u8) (w0 := w) w.heap.size rfl (.tmp 31) (.tmp 32) 44 5 (.int .u8 0) 1 rfl Try.underlying44 info5 rfl (by decide) (by omega) _ (front y jj) el _ _ _ (fun _ => True) (fun _ => False) rfl rfl ?aO ?aR (fun _ _ h => h) (fun _ h => h.elim) ?aF ?aB ?aS ?aL ?_; (case aO => exact HO'.out); (case aR => exact hC.out); (case aB => exact HB'.out); (case aF => exact (fun _ _ => trivial)); (case aS => exact hbs.out); (case aL => simpa using HL2.out); intro v w5 ho hb hg' hat)
            go_roundg (y.length - (jj + 1))
            case measure => omega
            case rel => exact ⟨jj + 1, by omega, by omega, by go_num, by rw [HS.out]; exact ho, hb⟩
          · have hltz : ¬ (jj : Int) < (y.length : Int) := by omega
            rw [front_all y jj (by omega)] at HO
            have HO' := Aside0.mk HO
            have HB' := Aside0.mk HB
            clear HO HB
            go_wp2
            go_ret
            exact ⟨_, rfl, HO'.out, HB'.out⟩
  · rw [if_neg hl] at h; cases h
end Go.Proofs.Ytbcleckapamicaa.Gw
