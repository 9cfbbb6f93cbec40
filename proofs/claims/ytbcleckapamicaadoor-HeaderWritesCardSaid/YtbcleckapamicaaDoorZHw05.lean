/- A part of the proof of the law HeaderWrites: Gw0, Gw1, QHex1. -/
import Derived.Test.YtbcleckapamicaaDoorZHw02
import Derived.Lib.AppendZeros
import Derived.Test.YtbcleckapamicaaDoorZHw04
namespace Go.Proofs.YtbcleckapamicaaDoor.Gw
open Go.RowKit Go.Proofs.YtbcleckapamicaaDoorW.PrintWords Go.Proofs.YtbcleckapamicaaDoorW.PrintLast Go.Proofs.YtbcleckapamicaaDoorW.PrintMore Go.Proofs.YtbcleckapamicaaDoor.Gv
set_option linter.unusedVariables false
set_option linter.unusedSimpArgs false
theorem own_empty (w : World) (c : Array Value) (cap : Nat) (hs : c.size = cap) (hc : cap ≤ maxLen) :
    Kd.R (Kd.int .u8) 5 (w.drew.alloc (.cells c 5)) w.heap.size (fun _ => True) (.slice (some ⟨w.heap.size, 0, none⟩) 0 cap) [] := by
  refine Kd.R_of_own (h1 := fun _ => rfl) (enc := Value.int .u8) (xs := []) (ok := fun _ => True) ⟨rfl, .inr ⟨w.heap.size, cap, c, rfl, Nat.le_refl _, heap_alloc_new w.drew _, Nat.zero_le _, hc, by simpa using hs, rfl⟩⟩ (fun _ _ => trivial)
set_option maxHeartbeats 1000000 in
theorem grow_nil (n : Nat) (w : World) (hn : n ≤ 140737488355328) :
    Calls Tryd.prog 87 #[.slice none 0 0, .int .i64 n] w fun e w' => ∃ v0_ : Value, e = .returned (v0_) ∧ Kd.R (Kd.int .u8) 5 w' w.heap.size (fun _ => True) v0_ [] ∧ Below w.heap.size w w' := by
  have HB := Aside0.mk (Below.refl w.heap.size w)
  rcases Nat.eq_zero_or_pos n with h0 | h0
  · subst h0
    go_enter Tryd.func87, Tryd.ntmps87
    go_wp2
    go_ret
    exact ⟨_, rfl, Kd.R_nil _ _ _ _ _, HB.out⟩
  · have hc := grownCap_ge w n 0 5
    have hm := grownCap_le_maxLen w n 0 5 (by simp only [maxLen]; omega)
    have HO := Aside0.mk (own_empty w (Builtin.zeroCells #[Value.int .u8 0] n ++ Builtin.zeroCells #[Value.int .u8 0] (grownCap w n 0 5 - n)) (grownCap w n 0 5) (by simp [size_zeroCells]; omega) hm)
    clear hc hm
    have hb : Tryd.t5.bytes = 1 := by kernel_rfl
    have f1 : ¬ (281474976710656 < (n : Int) * (Tryd.t5.bytes : Int)) := by rw [hb]; omega
    have f3 : ¬ (281474976710656 < Builtin.nextslicecap n 0 * Tryd.t5.bytes) := by rw [nextslicecap_zero h0, hb]; omega
    clear hb
    go_enter Tryd.func87, Tryd.ntmps87
    go_wp2
    all_goals first | contradiction | skip
    go_ret
    exact ⟨_, rfl, HO.out, below_alloc (below_drew HB.out) _⟩
end Go.Proofs.YtbcleckapamicaaDoor.Gw
namespace Go.Proofs.YtbcleckapamicaaDoor.Gw
open Go.RowKit Go.Proofs.YtbcleckapamicaaDoorW.PrintWords Go.Proofs.YtbcleckapamicaaDoorW.PrintLast Go.Proofs.YtbcleckapamicaaDoorW.PrintMore Go.Proofs.YtbcleckapamicaaDoor.Gv
set_option linter.unusedVariables false
set_option linter.unusedSimpArgs false
theorem at_rows {w : World} {A : Option Addr} {n : Nat} {xs : List (List Int)} (h : Kd.C (Kd.slice 5 (Kd.int .u8)) w A n xs) (i : Nat) (h1 : i < n) : ∃ ad A0 c0, A = some ad ∧ w.cell? (ad.add i) = some (.slice A0 (xs.getD i []).length c0) ∧ (xs.getD i []).length ≤ c0 ∧ (Kd.int .u8).C w A0 (xs.getD i []).length (xs.getD i []) := by
  obtain ⟨ad, c, e, _, hK, hc0⟩ := Kd.C_get h ([] : List Int) (i : Int) (by omega) (by omega)
  rw [Int.toNat_natCast] at hK hc0
  have hc : ∀ j u, c[j]? = some u → w.cell? (ad.add (i * 1 + j)) = some u := hc0
  obtain ⟨A0, c0, rfl, l0, g0⟩ := hK
  exact ⟨ad, A0, c0, e, by have hq := hc 0 _ rfl; rwa [Nat.mul_one, Nat.add_zero] at hq, l0, g0⟩
def front (y : List (List Int)) (k : Nat) : List Int := (y.take k).flatten
theorem front_all (y : List (List Int)) (k : Nat) (h : y.length ≤ k) : front y k = y.flatten := by unfold front; rw [List.take_of_length_le h]
theorem front_succ (y : List (List Int)) (k : Nat) (h : k < y.length) : front y (k + 1) = front y k ++ y.getD k [] := by
  unfold front
  rw [List.take_succ_eq_append_getElem h, List.flatten_append, List.getD_eq_getElem?_getD, List.getElem?_eq_getElem h]
  simp
theorem front_le (y : List (List Int)) (k : Nat) : (front y k).length ≤ y.flatten.length := by
  unfold front
  conv => rhs; rw [← List.take_append_drop k y, List.flatten_append, List.length_append]
  omega
def slices_Concat_byte_byte.f (y : List (List Int)) : Option (List Int) := if y.flatten.length ≤ 140737488355328 then some y.flatten else none
set_option maxHeartbeats 1000000 in
theorem slices_Concat_byte_byte.calls (A0 : Option Addr) (c0 : Nat) (y : List (List Int)) (r : List Int) (w : World) (hr0 : Kd.C (Kd.slice 5 (Kd.int .u8)) w A0 y.length y) (hc0 : y.length ≤ c0) (h : slices_Concat_byte_byte.f y = some r) :
    Calls Tryd.prog 59 #[.slice A0 y.length c0] w fun e w' => ∃ v0_ : Value, e = .returned (v0_) ∧ Kd.R (Kd.int .u8) 5 w' w.heap.size (fun _ => True) v0_ r ∧ Below w.heap.size w w' := by
  unfold slices_Concat_byte_byte.f at h
  by_cases hl : y.flatten.length ≤ 140737488355328
  · rw [if_pos hl] at h
    obtain rfl := Option.some.inj h
    clear h
    have hm := hr0.2.1
    have HR := Aside0.mk hr0
    have HL := Aside0.mk hl
    have HF := Aside0.mk (front_le y)
    clear hr0 hl hc0
    go_enter Tryd.func59, Tryd.ntmps59
    go_wp2
    go_loopg [3, 11] y.length (fun gg v3 v11 wr => ∃ kk : Nat, kk ≤ y.length ∧ y.length - kk ≤ gg ∧ v3 = .int .i64 ((front y kk).length : Nat) ∧ v11 = .int .i64 kk ∧ wr = w)
    case atStart => exact ⟨0, Nat.zero_le _, by omega, rfl, rfl, rfl⟩
    case round =>
      obtain ⟨kk, hkk, hg, rfl, rfl, hw⟩ := hrel
      subst wr
      have hf := HF.out kk
      have hfl := HL.out
      by_cases hlt : kk < y.length
      · have hltz : (kk : Int) < (y.length : Int) := by omega
        obtain ⟨ad, A', c', rfl, hcell, hle, hC⟩ := at_rows HR.out kk hlt
        have hs := front_succ y kk hlt
        have hf1 := HF.out (kk + 1)
        have hs1 : (front y (kk + 1)).length = (front y kk).length + (y.getD kk []).length := by rw [hs, List.length_append]
        have hlen : ((front y kk).length : Int) + ((y.getD kk []).length : Int) = ((front y (kk + 1)).length : Int) := by rw [hs1]; omega
        have hwr : wrap64 (((front y kk).length : Int) + ((y.getD kk []).length : Int)) = ((front y (kk + 1)).length : Int) := by rw [hlen]; unfold wrap64; omega
        have HX := Aside0.mk hwr
        have hz : decide (wrap64 (((front y kk).length : Int) + ((y.getD kk []).length : Int)) < 0) = false := decide_eq_false (by rw [hwr]; omega)
        clear hs hs1 hC hle hlen hwr
        generalize y.getD kk [] = el at *
        go_wp2
        go_roundg (y.length - (kk + 1))
        case measure => omega
        case rel => exact ⟨kk + 1, by omega, by omega, by rw [HX.out], by go_num, rfl⟩
      · have hltz : ¬ (kk : Int) < (y.length : Int) := by omega
        have H := grow_nil (front y kk).length w (by omega)
        go_wp2_with (go_at_call 87; refine H.mono ?_; rintro e w' ⟨v0, rfl, HO, hb⟩)
        clear H hf hltz hlt hkk hg
        have HO' := Aside0.mk HO
        have HB' := Aside0.mk hb
        clear HO hb
        go_loopg [6, 27] y.length (fun gg v6 v27 ws => ∃ jj : Nat, jj ≤ y.length ∧ y.length - jj ≤ gg ∧ v27 = .int .i64 jj ∧ Kd.R (Kd.int .u8) 5 ws w.heap.size (fun _ => True) v6 (front y jj) ∧ Below w.heap.size w ws)
        case atStart => exact ⟨0, Nat.zero_le _, by omega, rfl, HO'.out, HB'.out⟩
        case round =>
          clear HO' HB'
          obtain ⟨jj, hjj, hg, rfl, HO, HB⟩ := hrel
          have hfl := HL.out
          by_cases hlt : jj < y.length
          · have hltz : (jj : Int) < (y.length : Int) := by omega
            obtain ⟨ad, A', c', rfl, hcell0, hle, hC0⟩ := at_rows HR.out jj hlt
            have hC := Aside0.mk (Kd.C_below hC0 HB)
            have hcell := pw_cell_below HB hcell0
            have hs := front_succ y jj hlt
            have hf1 := HF.out (jj + 1)
            have hs1 : (front y (jj + 1)).length = (front y jj).length + (y.getD jj []).length := by rw [hs, List.length_append]
            have HS := Aside0.mk hs
            have HL2 := Aside0.mk (show (front y jj).length + (y.getD jj []).length ≤ 140737488355328 by omega)
            have hbs := Aside0.mk (below_size HB)
            have HO' := Aside0.mk HO
            have HB' := Aside0.mk HB
            clear hs hs1 hC0 hle HO HB hcell0 hfl hf1
            generalize y.getD jj [] = el at *
            go_wp2_with ((with_reducible refine gate_builtin (b := .append) (xs := #[.tmp 31, .tmp 32]) rfl ?_); at_builtin; refine Kd.R_append_rows (Kd.int .u8) (w0 := w) w.heap.size rfl (.tmp 31) (.tmp 32) 22 5 (.int .u8 0) 1 rfl Tryd.underlying22 info5 rfl (by decide) (by omega) _ (front y jj) el _ _ _ (fun _ => True) (fun _ => False) rfl rfl ?aO ?aR (fun _ _ h => h) (fun _ h => h.elim) ?aF ?aB ?aS ?aL ?_; (case aO => exact HO'.out); (case aR => exact hC.out); (case aB => exact HB'.out); (case aF => exact (fun _ _ => trivial)); (case aS => exact hbs.out); (case aL => simpa using HL2.out); intro v w5 ho hb hg' hat)
            go_roundg (y.length - (jj + 1))
            case measure => omega
            case rel => exact ⟨jj + 1, by omega, by omega, by go_num, by rw [HS.out]; exact ho, hb⟩
          · have hltz : ¬ (jj : Int) < (y.length : Int) := by omega
            rw [front_all y jj (by omega)] at HO
            have HO' := Aside0.mk HO
            have HB' := Aside0.mk HB
            clear HO HB
            go_wp2
            go_ret
            exact ⟨_, rfl, HO'.out, HB'.out⟩
  · rw [if_neg hl] at h; cases h
end Go.Proofs.YtbcleckapamicaaDoor.Gw
namespace Go.Proofs.YtbcleckapamicaaDoor.QHe
open Go.RowKit Go.Proofs.YtbcleckapamicaaDoorW.PrintWords Go.Proofs.YtbcleckapamicaaDoorW.PrintLast Go.Proofs.YtbcleckapamicaaDoorW.PrintMore
attribute [local go_sem] max2_int min2_int max_two min_two max_three min_three max_four min_four   -- for this text's walks alone
set_option linter.unusedVariables false
set_option linter.unusedSimpArgs false
open Go.Proofs.YtbcleckapamicaaDoor.Gv (TB TB.below TB.alloc TB.drew TB.drewN)
open Go.Proofs.YtbcleckapamicaaDoor.Gw (slices_Concat_byte_byte.f slices_Concat_byte_byte.calls)
open Go.Proofs.YtbcleckapamicaaDoor.QVa (varint_Append.f varint_Append.calls varint_Append.mono varint_Give.f varint_Give.calls varint_Give.mono shibbolethref01_Size.f shibbolethref01_Size.calls shibbolethref01_Size.mono shibbolethref01_Bytes.f shibbolethref01_Bytes.calls shibbolethref01_Bytes.mono shibbolethref01_Give.f shibbolethref01_Give.calls shibbolethref01_Give.mono)
set_option hygiene false in
local macro "lf50_" : tactic => `(tactic| (exact ⟨by first | rfl | (simp [errW_none, errW_some] <;> rfl) | (simp [*, errW_none, errW_some] <;> rfl), by qb1_ GE101⟩))
def shibbolethlaw05_light.f (a0_0 : Int) (a0_1 : Int) (l0_2 : List Int) (l0_3 : List Int) (l0_4 : List Int) (a0_5 : Int) (a0_6 : Int) (a0_7 : Int) : Option (Bool) := if (l0_2.length : Int) ≤ 100 then (if (l0_3.length : Int) ≤ 100 then (some (decide ((l0_4.length : Int) ≤ 200))) else (some false)) else (some false)
set_option maxHeartbeats 8000000 in
set_option maxRecDepth 100000 in
theorem shibbolethlaw05_light.calls (a0_0 : Int) (a0_1 : Int) (A0_2 : Option Addr) (c0_2 : Nat) (l0_2 : List Int) (A0_3 : Option Addr) (c0_3 : Nat) (l0_3 : List Int) (A0_4 : Option Addr) (c0_4 : Nat) (l0_4 : List Int) (a0_5 : Int) (a0_6 : Int) (a0_7 : Int) (r : Bool) (w : World) (hr0_2 : Kd.C (Kd.int .u8) w A0_2 l0_2.length l0_2) (hc0_2 : l0_2.length ≤ c0_2) (hr0_3 : Kd.C (Kd.int .u8) w A0_3 l0_3.length l0_3) (hc0_3 : l0_3.length ≤ c0_3) (hr0_4 : Kd.C (Kd.int .u8) w A0_4 l0_4.length l0_4) (hc0_4 : l0_4.length ≤ c0_4) (h : shibbolethlaw05_light.f a0_0 a0_1 l0_2 l0_3 l0_4 a0_5 a0_6 a0_7 = some r) :
  Calls Tryd.prog 33 #[.agg #[.int .i64 a0_0, .int .i64 a0_1, .slice A0_2 l0_2.length c0_2, .slice A0_3 l0_3.length c0_3, .slice A0_4 l0_4.length c0_4, .int .i64 a0_5, .int .i64 a0_6, .int .i64 a0_7]] w fun e w' => e = .returned (.bool r) ∧ Below w.heap.size w w' := by
 have hu44 := Tryd.underlying44
 have HR0_2 := Aside0.mk hr0_2
 have HC0_2 := Aside0.mk hc0_2
 clear hr0_2 hc0_2
 have HR0_3 := Aside0.mk hr0_3
 have HC0_3 := Aside0.mk hc0_3
 clear hr0_3 hc0_3
 have HR0_4 := Aside0.mk hr0_4
 have HC0_4 := Aside0.mk hc0_4
 clear hr0_4 hc0_4
 have HB := Aside0.mk (Below.refl w.heap.size w)
 have H : (if (l0_2.length : Int) ≤ 100 then (if (l0_3.length : Int) ≤ 100 then (some (decide ((l0_4.length : Int) ≤ 200))) else (some false)) else (some false)) = some r := h
 clear h
 by_cases c2 : (l0_2.length : Int) ≤ 100
 ·rw [if_pos c2] at H
  have c2b0 : decide ((l0_2.length : Int) ≤ 100) = true := decide_eq_true c2
  have c2b1 : decide (l0_2.length ≤ 100) = true := decide_eq_true (by omega)
  clear c2
  by_cases c3 : (l0_3.length : Int) ≤ 100
  ·rw [if_pos c3] at H
   have c3b0 : decide ((l0_3.length : Int) ≤ 100) = true := decide_eq_true c3
   have c3b1 : decide (l0_3.length ≤ 100) = true := decide_eq_true (by omega)
   clear c3
   obtain rfl := Option.some.inj H
   go_enter Tryd.func33, Tryd.ntmps33
   go_wp2_with (first | ((with_reducible refine gate_dst (N := 1) rfl ?_); (try (refine gate_guard (by rfl) ?_; dsimp only)); refine box_event ?hg (N := 1) ?hd (cs := #[.int .i64 a0_0, .int .i64 a0_1, .slice A0_2 l0_2.length c0_2, .slice A0_3 l0_3.length c0_3, .slice A0_4 l0_4.length c0_4, .int .i64 a0_5, .int .i64 a0_6, .int .i64 a0_7]) (t := 44) ?hr ?_; (case hd => rfl); (case hg => rfl); (case hr => first | (go_simp; done) | (go_simp; rfl)); intro gb101 hg w4 hbox hb; have n0_ := Aside0.mk (below_step (by qc0_) hb); have n1_ := Aside0.mk (hbox); have n2_ := Aside0.mk ((by rw [hg]; exact (below_size (by qc0_)) : w.heap.size ≤ gb101)); have n3_ := Aside0.mk ((by rw [hg]; exact (below_size (by qc0_)) : w.heap.size ≤ gb101)); clear HB; have HB := n0_; have BK101 := n1_; have GW101 := n2_; have GE101 := n3_; clear n0_ n1_ n2_ n3_; clear hb hbox hg; have hcz5_0 : w4.cell? ⟨gb101, 0, none⟩ = some (.int .i64 a0_0) := (blk_cell BK101.out 0).trans rfl; have hcz5_1 : w4.cell? ⟨gb101, 1, none⟩ = some (.int .i64 a0_1) := (blk_cell BK101.out 1).trans rfl; have hcz5_2 : w4.cell? ⟨gb101, 2, none⟩ = some (.slice A0_2 l0_2.length c0_2) := (blk_cell BK101.out 2).trans rfl; have hcz5_3 : w4.cell? ⟨gb101, 3, none⟩ = some (.slice A0_3 l0_3.length c0_3) := (blk_cell BK101.out 3).trans rfl; have hcz5_4 : w4.cell? ⟨gb101, 4, none⟩ = some (.slice A0_4 l0_4.length c0_4) := (blk_cell BK101.out 4).trans rfl; have hcz5_5 : w4.cell? ⟨gb101, 5, none⟩ = some (.int .i64 a0_5) := (blk_cell BK101.out 5).trans rfl; have hcz5_6 : w4.cell? ⟨gb101, 6, none⟩ = some (.int .i64 a0_6) := (blk_cell BK101.out 6).trans rfl; have hcz5_7 : w4.cell? ⟨gb101, 7, none⟩ = some (.int .i64 a0_7) := (blk_cell BK101.out 7).trans rfl; have hfz5_0 := blk_frozen BK101.out 0; have hfz5_1 := blk_frozen BK101.out 1; have hfz5_2 := blk_frozen BK101.out 2; have hfz5_3 := blk_frozen BK101.out 3; have hfz5_4 := blk_frozen BK101.out 4; have hfz5_5 := blk_frozen BK101.out 5; have hfz5_6 := blk_frozen BK101.out 6; have hfz5_7 := blk_frozen BK101.out 7))
   go_ret
   lf50_
  ·rw [if_neg c3] at H
   have c3b0 : decide ((l0_3.length : Int) ≤ 100) = false := decide_eq_false c3
   have c3b1 : decide (l0_3.length ≤ 100) = false := decide_eq_false (by omega)
   clear c3
   obtain rfl := Option.some.inj H
   go_enter Tryd.func33, Tryd.ntmps33
   go_wp2_with (first | ((with_reducible refine gate_dst (N := 1) rfl ?_); (try (refine gate_guard (by rfl) ?_; dsimp only)); refine box_event ?hg (N := 1) ?hd (cs := #[.int .i64 a0_0, .int .i64 a0_1, .slice A0_2 l0_2.length c0_2, .slice A0_3 l0_3.length c0_3, .slice A0_4 l0_4.length c0_4, .int .i64 a0_5, .int .i64 a0_6, .int .i64 a0_7]) (t := 44) ?hr ?_; (case hd => rfl); (case hg => rfl); (case hr => first | (go_simp; done) | (go_simp; rfl)); intro gb101 hg w6 hbox hb; have n0_ := Aside0.mk (below_step (by qc0_) hb); have n1_ := Aside0.mk (hbox); have n2_ := Aside0.mk ((by rw [hg]; exact (below_size (by qc0_)) : w.heap.size ≤ gb101)); have n3_ := Aside0.mk ((by rw [hg]; exact (below_size (by qc0_)) : w.heap.size ≤ gb101)); clear HB; have HB := n0_; have BK101 := n1_; have GW101 := n2_; have GE101 := n3_; clear n0_ n1_ n2_ n3_; clear hb hbox hg; have hcz7_0 : w6.cell? ⟨gb101, 0, none⟩ = some (.int .i64 a0_0) := (blk_cell BK101.out 0).trans rfl; have hcz7_1 : w6.cell? ⟨gb101, 1, none⟩ = some (.int .i64 a0_1) := (blk_cell BK101.out 1).trans rfl; have hcz7_2 : w6.cell? ⟨gb101, 2, none⟩ = some (.slice A0_2 l0_2.length c0_2) := (blk_cell BK101.out 2).trans rfl; have hcz7_3 : w6.cell? ⟨gb101, 3, none⟩ = some (.slice A0_3 l0_3.length c0_3) := (blk_cell BK101.out 3).trans rfl; have hcz7_4 : w6.cell? ⟨gb101, 4, none⟩ = some (.slice A0_4 l0_4.length c0_4) := (blk_cell BK101.out 4).trans rfl; have hcz7_5 : w6.cell? ⟨gb101, 5, none⟩ = some (.int .i64 a0_5) := (blk_cell BK101.out 5).trans rfl; have hcz7_6 : w6.cell? ⟨gb101, 6, none⟩ = some (.int .i64 a0_6) := (blk_cell BK101.out 6).trans rfl; have hcz7_7 : w6.cell? ⟨gb101, 7, none⟩ = some (.int .i64 a0_7) := (blk_cell BK101.out 7).trans rfl; have hfz7_0 := blk_frozen BK101.out 0; have hfz7_1 := blk_frozen BK101.out 1; have hfz7_2 := blk_frozen BK101.out 2; have hfz7_3 := blk_frozen BK101.out 3; have hfz7_4 := blk_frozen BK101.out 4; have hfz7_5 := blk_frozen BK101.out 5; have hfz7_6 := blk_frozen BK101.out 6; have hfz7_7 := blk_frozen BK101.out 7))
   go_ret
   lf50_
 ·rw [if_neg c2] at H
  have c2b0 : decide ((l0_2.length : Int) ≤ 100) = false := decide_eq_false c2
  have c2b1 : decide (l0_2.length ≤ 100) = false := decide_eq_false (by omega)
  clear c2
  obtain rfl := Option.some.inj H
  go_enter Tryd.func33, Tryd.ntmps33
  go_wp2_with (first | ((with_reducible refine gate_dst (N := 1) rfl ?_); (try (refine gate_guard (by rfl) ?_; dsimp only)); refine box_event ?hg (N := 1) ?hd (cs := #[.int .i64 a0_0, .int .i64 a0_1, .slice A0_2 l0_2.length c0_2, .slice A0_3 l0_3.length c0_3, .slice A0_4 l0_4.length c0_4, .int .i64 a0_5, .int .i64 a0_6, .int .i64 a0_7]) (t := 44) ?hr ?_; (case hd => rfl); (case hg => rfl); (case hr => first | (go_simp; done) | (go_simp; rfl)); intro gb101 hg w8 hbox hb; have n0_ := Aside0.mk (below_step (by qc0_) hb); have n1_ := Aside0.mk (hbox); have n2_ := Aside0.mk ((by rw [hg]; exact (below_size (by qc0_)) : w.heap.size ≤ gb101)); have n3_ := Aside0.mk ((by rw [hg]; exact (below_size (by qc0_)) : w.heap.size ≤ gb101)); clear HB; have HB := n0_; have BK101 := n1_; have GW101 := n2_; have GE101 := n3_; clear n0_ n1_ n2_ n3_; clear hb hbox hg; have hcz9_0 : w8.cell? ⟨gb101, 0, none⟩ = some (.int .i64 a0_0) := (blk_cell BK101.out 0).trans rfl; have hcz9_1 : w8.cell? ⟨gb101, 1, none⟩ = some (.int .i64 a0_1) := (blk_cell BK101.out 1).trans rfl; have hcz9_2 : w8.cell? ⟨gb101, 2, none⟩ = some (.slice A0_2 l0_2.length c0_2) := (blk_cell BK101.out 2).trans rfl; have hcz9_3 : w8.cell? ⟨gb101, 3, none⟩ = some (.slice A0_3 l0_3.length c0_3) := (blk_cell BK101.out 3).trans rfl; have hcz9_4 : w8.cell? ⟨gb101, 4, none⟩ = some (.slice A0_4 l0_4.length c0_4) := (blk_cell BK101.out 4).trans rfl; have hcz9_5 : w8.cell? ⟨gb101, 5, none⟩ = some (.int .i64 a0_5) := (blk_cell BK101.out 5).trans rfl; have hcz9_6 : w8.cell? ⟨gb101, 6, none⟩ = some (.int .i64 a0_6) := (blk_cell BK101.out 6).trans rfl; have hcz9_7 : w8.cell? ⟨gb101, 7, none⟩ = some (.int .i64 a0_7) := (blk_cell BK101.out 7).trans rfl; have hfz9_0 := blk_frozen BK101.out 0; have hfz9_1 := blk_frozen BK101.out 1; have hfz9_2 := blk_frozen BK101.out 2; have hfz9_3 := blk_frozen BK101.out 3; have hfz9_4 := blk_frozen BK101.out 4; have hfz9_5 := blk_frozen BK101.out 5; have hfz9_6 := blk_frozen BK101.out 6; have hfz9_7 := blk_frozen BK101.out 7))
  go_ret
  lf50_
end Go.Proofs.YtbcleckapamicaaDoor.QHe
