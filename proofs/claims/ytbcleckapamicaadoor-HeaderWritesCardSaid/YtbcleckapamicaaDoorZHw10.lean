/- A part of the proof of the law HeaderWrites: QHex6. -/
import Derived.Test.YtbcleckapamicaaDoorZHw02
import Derived.Test.YtbcleckapamicaaDoorZHw09
import Derived.Test.YtbcleckapamicaaDoorZHw04
import Derived.Test.YtbcleckapamicaaDoorZHw05
namespace Go.Proofs.YtbcleckapamicaaDoor.QHe
open Go.RowKit Go.Proofs.YtbcleckapamicaaDoorW.PrintWords Go.Proofs.YtbcleckapamicaaDoorW.PrintLast Go.Proofs.YtbcleckapamicaaDoorW.PrintMore
attribute [local go_sem] max2_int min2_int max_two min_two max_three min_three max_four min_four   -- for this text's walks alone
set_option linter.unusedVariables false
set_option linter.unusedSimpArgs false
open Go.Proofs.YtbcleckapamicaaDoor.Gv (TB TB.below TB.alloc TB.drew TB.drewN)
open Go.Proofs.YtbcleckapamicaaDoor.Gw (slices_Concat_byte_byte.f slices_Concat_byte_byte.calls)
open Go.Proofs.YtbcleckapamicaaDoor.QVa (varint_Append.f varint_Append.calls varint_Append.mono varint_Give.f varint_Give.calls varint_Give.mono shibbolethref01_Size.f shibbolethref01_Size.calls shibbolethref01_Size.mono shibbolethref01_Bytes.f shibbolethref01_Bytes.calls shibbolethref01_Bytes.mono shibbolethref01_Give.f shibbolethref01_Give.calls shibbolethref01_Give.mono)
set_option hygiene false in
local macro "lk100_" : tactic => `(tactic| (exact ⟨by first | rfl | (simp [errW_none, errW_some] <;> rfl) | (simp [*, errW_none, errW_some] <;> rfl), by qb1_ GE188⟩))
def shibbolethref05_Right.j0 : Nat → Bool → Int → Int → List Int → List Int → List Int → Int → Int → Int → Option (Bool)
 | 0, _, _, _, _, _, _, _, _, _ => none
 | k + 1, x23, x189000, x189001, x189002, x189003, x189004, x189005, x189006, x189007 => if x23 = true then (some false) else (if x189000 = 3 then (if x189001 = 0 then (if (x189002.length : Int) = 8 then (if (x189003.length : Int) = 0 then (if (x189004.length : Int) = 0 then (if x189005 ≥ 0 then (some (decide (x189005 ≤ 1))) else (some false)) else (some false)) else (some false)) else (some false)) else (some false)) else (if x189000 = 0 then (if x189001 ≥ 1 then (if x189001 ≤ 4294967295 then (if (x189002.length : Int) ≤ 20 then (if (x189003.length : Int) ≤ 20 then (if x189005 = 0 then (if (x189004.length : Int) = 0 then (some true) else (some (decide ((x189004.length : Int) ≤ 64)))) else (some false)) else (some false)) else (some false)) else (some false)) else (some false)) else (if x189000 = 1 then (if x189001 ≥ 1 then (if x189001 ≤ 4294967295 then (if (x189002.length : Int) ≤ 20 then (if (x189003.length : Int) ≤ 20 then (if x189005 = 0 then (if (x189004.length : Int) = 0 then (some true) else (some false)) else (some false)) else (some false)) else (some false)) else (some false)) else (some false)) else (if x189000 = 2 then (if x189001 ≥ 1 then (if x189001 ≤ 4294967295 then (if (x189002.length : Int) ≤ 20 then (if (x189003.length : Int) ≤ 20 then (if x189005 = 0 then (if (x189004.length : Int) = 0 then (some true) else (some false)) else (some false)) else (some false)) else (some false)) else (some false)) else (some false)) else (some false)))))
def shibbolethref05_Right.f (k : Nat) (a0_0 : Int) (a0_1 : Int) (l0_2 : List Int) (l0_3 : List Int) (l0_4 : List Int) (a0_5 : Int) (a0_6 : Int) (a0_7 : Int) : Option (Bool) := if a0_7 < 1 then (shibbolethref05_Right.j0 k true a0_0 a0_1 l0_2 l0_3 l0_4 a0_5 a0_6 a0_7) else (if a0_7 > 4 then (shibbolethref05_Right.j0 k true a0_0 a0_1 l0_2 l0_3 l0_4 a0_5 a0_6 a0_7) else (if a0_6 < 0 then (shibbolethref05_Right.j0 k true a0_0 a0_1 l0_2 l0_3 l0_4 a0_5 a0_6 a0_7) else ((shibbolethref05_power.f k a0_7).bind fun t189 => (shibbolethref05_Right.j0 k (decide (a0_6 ≥ t189)) a0_0 a0_1 l0_2 l0_3 l0_4 a0_5 a0_6 a0_7))))
theorem shibbolethref05_Right.mono_l : ∀ k, (∀ y0 y1 y2 y3 y4 y5 y6 y7 y8, LeO (shibbolethref05_Right.j0 k y0 y1 y2 y3 y4 y5 y6 y7 y8) (shibbolethref05_Right.j0 (k + 1) y0 y1 y2 y3 y4 y5 y6 y7 y8))
 | 0 => fun _ _ _ _ _ _ _ _ _ r h => by simp [shibbolethref05_Right.j0] at h
 | k + 1 => by
  have ih0 := shibbolethref05_Right.mono_l k
  ·intro y0 y1 y2 y3 y4 y5 y6 y7 y8
   unfold shibbolethref05_Right.j0
   repeat' first
   | (with_reducible exact ih0 _ _ _ _ _ _ _ _ _)
   | (with_reducible exact shibbolethref05_power.mono _ _)
   | (with_reducible exact LeO.refl _)
   | (with_reducible exact LeO.none _)
   | (with_reducible refine LeO.ite ?_ ?_)
   | (with_reducible refine LeO.bind ?_ (fun _ => ?_))
   | exact ih0 _ _ _ _ _ _ _ _ _
   | exact shibbolethref05_power.mono _ _
   | exact LeO.none _
   | refine LeO.ite ?_ ?_
   | refine LeO.bind ?_ (fun _ => ?_)
theorem shibbolethref05_Right.mono : ∀ a0 a1 a2 a3 a4 a5 a6 a7 k, LeO (shibbolethref05_Right.f k a0 a1 a2 a3 a4 a5 a6 a7) (shibbolethref05_Right.f (k + 1) a0 a1 a2 a3 a4 a5 a6 a7) := by
 intro a0 a1 a2 a3 a4 a5 a6 a7 k
 have ih0 := shibbolethref05_Right.mono_l k
 unfold shibbolethref05_Right.f
 repeat' first
   | (with_reducible exact ih0 _ _ _ _ _ _ _ _ _)
   | (with_reducible exact shibbolethref05_power.mono _ _)
   | (with_reducible exact LeO.refl _)
   | (with_reducible exact LeO.none _)
   | (with_reducible refine LeO.ite ?_ ?_)
   | (with_reducible refine LeO.bind ?_ (fun _ => ?_))
   | exact ih0 _ _ _ _ _ _ _ _ _
   | exact shibbolethref05_power.mono _ _
   | exact LeO.none _
   | refine LeO.ite ?_ ?_
   | refine LeO.bind ?_ (fun _ => ?_)
set_option maxHeartbeats 8000000 in
set_option maxRecDepth 100000 in
theorem shibbolethref05_Right.calls (k : Nat) (a0_0 : Int) (a0_1 : Int) (A0_2 : Option Addr) (c0_2 : Nat) (l0_2 : List Int) (A0_3 : Option Addr) (c0_3 : Nat) (l0_3 : List Int) (A0_4 : Option Addr) (c0_4 : Nat) (l0_4 : List Int) (a0_5 : Int) (a0_6 : Int) (a0_7 : Int) (r : Bool) (w : World) (hr0_2 : Kd.C (Kd.int .u8) w A0_2 l0_2.length l0_2) (hc0_2 : l0_2.length ≤ c0_2) (hr0_3 : Kd.C (Kd.int .u8) w A0_3 l0_3.length l0_3) (hc0_3 : l0_3.length ≤ c0_3) (hr0_4 : Kd.C (Kd.int .u8) w A0_4 l0_4.length l0_4) (hc0_4 : l0_4.length ≤ c0_4) (h : shibbolethref05_Right.f k a0_0 a0_1 l0_2 l0_3 l0_4 a0_5 a0_6 a0_7 = some r) :
  Calls Tryd.prog 37 #[.agg #[.int .i64 a0_0, .int .i64 a0_1, .slice A0_2 l0_2.length c0_2, .slice A0_3 l0_3.length c0_3, .slice A0_4 l0_4.length c0_4, .int .i64 a0_5, .int .i64 a0_6, .int .i64 a0_7]] w fun e w' => e = .returned (.bool r) ∧ Below w.heap.size w w' := by
 have hu44 := Tryd.underlying44
 have HR0_2 := Aside0.mk hr0_2
 have HC0_2 := Aside0.mk hc0_2
 clear hr0_2 hc0_2
 have HR0_3 := Aside0.mk hr0_3
 have HC0_3 := Aside0.mk hc0_3
 clear hr0_3 hc0_3
 have HR0_4 := Aside0.mk hr0_4
 have HC0_4 := Aside0.mk hc0_4
 clear hr0_4 hc0_4
 have HB := Aside0.mk (Below.refl w.heap.size w)
 have H : (if a0_7 < 1 then (shibbolethref05_Right.j0 k true a0_0 a0_1 l0_2 l0_3 l0_4 a0_5 a0_6 a0_7) else (if a0_7 > 4 then (shibbolethref05_Right.j0 k true a0_0 a0_1 l0_2 l0_3 l0_4 a0_5 a0_6 a0_7) else (if a0_6 < 0 then (shibbolethref05_Right.j0 k true a0_0 a0_1 l0_2 l0_3 l0_4 a0_5 a0_6 a0_7) else ((shibbolethref05_power.f k a0_7).bind fun t189 => (shibbolethref05_Right.j0 k (decide (a0_6 ≥ t189)) a0_0 a0_1 l0_2 l0_3 l0_4 a0_5 a0_6 a0_7))))) = some r := h
 clear h
 have HC2 := Aside0.mk H
 clear H
 go_enter Tryd.func37, Tryd.ntmps37
 go_upto_region 1 with (first | ((with_reducible refine gate_dst (N := 1) rfl ?_); (try (refine gate_guard (by rfl) ?_; dsimp only)); refine box_event ?hg (N := 1) ?hd (cs := #[.int .i64 a0_0, .int .i64 a0_1, .slice A0_2 l0_2.length c0_2, .slice A0_3 l0_3.length c0_3, .slice A0_4 l0_4.length c0_4, .int .i64 a0_5, .int .i64 a0_6, .int .i64 a0_7]) (t := 44) ?hr ?_; (case hd => rfl); (case hg => rfl); (case hr => first | (go_simp; done) | (go_simp; rfl)); intro gb188 hg w3 hbox hb; have n0_ := Aside0.mk (below_step (by qc0_) hb); have n1_ := Aside0.mk (hbox); have n2_ := Aside0.mk ((by rw [hg]; exact (below_size (by qc0_)) : w.heap.size ≤ gb188)); have n3_ := Aside0.mk ((by rw [hg]; exact (below_size (by qc0_)) : w.heap.size ≤ gb188)); clear HB; have HB := n0_; have BK188 := n1_; have GW188 := n2_; have GE188 := n3_; clear n0_ n1_ n2_ n3_; clear hb hbox hg))
 repeat (go_quiet (first | ((with_reducible refine gate_dst (N := 1) rfl ?_); (try (refine gate_guard (by rfl) ?_; dsimp only)); refine box_event ?hg (N := 1) ?hd (cs := #[.int .i64 a0_0, .int .i64 a0_1, .slice A0_2 l0_2.length c0_2, .slice A0_3 l0_3.length c0_3, .slice A0_4 l0_4.length c0_4, .int .i64 a0_5, .int .i64 a0_6, .int .i64 a0_7]) (t := 44) ?hr ?_; (case hd => rfl); (case hg => rfl); (case hr => first | (go_simp; done) | (go_simp; rfl)); intro gb188 hg w3 hbox hb; have n0_ := Aside0.mk (below_step (by qc0_) hb); have n1_ := Aside0.mk (hbox); have n2_ := Aside0.mk ((by rw [hg]; exact (below_size (by qc0_)) : w.heap.size ≤ gb188)); have n3_ := Aside0.mk ((by rw [hg]; exact (below_size (by qc0_)) : w.heap.size ≤ gb188)); clear HB; have HB := n0_; have BK188 := n1_; have GW188 := n2_; have GE188 := n3_; clear n0_ n1_ n2_ n3_; clear hb hbox hg)); go_upto_region 1 with (first | ((with_reducible refine gate_dst (N := 1) rfl ?_); (try (refine gate_guard (by rfl) ?_; dsimp only)); refine box_event ?hg (N := 1) ?hd (cs := #[.int .i64 a0_0, .int .i64 a0_1, .slice A0_2 l0_2.length c0_2, .slice A0_3 l0_3.length c0_3, .slice A0_4 l0_4.length c0_4, .int .i64 a0_5, .int .i64 a0_6, .int .i64 a0_7]) (t := 44) ?hr ?_; (case hd => rfl); (case hg => rfl); (case hr => first | (go_simp; done) | (go_simp; rfl)); intro gb188 hg w3 hbox hb; have n0_ := Aside0.mk (below_step (by qc0_) hb); have n1_ := Aside0.mk (hbox); have n2_ := Aside0.mk ((by rw [hg]; exact (below_size (by qc0_)) : w.heap.size ≤ gb188)); have n3_ := Aside0.mk ((by rw [hg]; exact (below_size (by qc0_)) : w.heap.size ≤ gb188)); clear HB; have HB := n0_; have BK188 := n1_; have GW188 := n2_; have GE188 := n3_; clear n0_ n1_ n2_ n3_; clear hb hbox hg)))
 (try simp only [Act.put, List.setIfInBounds_toArray, List.set_cons_zero, List.set_cons_succ])
 go_cut [23] (fun v23 wc => ∃ (kq : Nat) (x23_1 : Bool), v23 = .bool x23_1 ∧ Aside0 (shibbolethref05_Right.j0 kq x23_1 a0_0 a0_1 l0_2 l0_3 l0_4 a0_5 a0_6 a0_7 = some r) ∧ Aside0 (kq ≤ k) ∧ Aside0 (wc.heap[gb188]? = some (.cells #[.int .i64 a0_0, .int .i64 a0_1, (.slice A0_2 l0_2.length c0_2), (.slice A0_3 l0_3.length c0_3), (.slice A0_4 l0_4.length c0_4), .int .i64 a0_5, .int .i64 a0_6, .int .i64 a0_7] 44 (0, 0))) ∧ Aside0 (Below w.heap.size w wc))
 case first =>
  have H := HC2.out
  clear HC2
  by_cases c4 : a0_7 < 1
  ·rw [if_pos c4] at H
   have c4b0 : decide (a0_7 < 1) = true := decide_eq_true c4
   clear c4
   (first | rw [c4b0] | (simp only [i64_w, i32_w]; rw [c4b0]) | skip)
   have H' := Aside0.mk H
   clear H
   have hcz5_0 : w3.cell? ⟨gb188, 0, none⟩ = some (.int .i64 a0_0) := (blk_cell BK188.out 0).trans rfl
   have hcz5_1 : w3.cell? ⟨gb188, 1, none⟩ = some (.int .i64 a0_1) := (blk_cell BK188.out 1).trans rfl
   have hcz5_2 : w3.cell? ⟨gb188, 2, none⟩ = some (.slice A0_2 l0_2.length c0_2) := (blk_cell BK188.out 2).trans rfl
   have hcz5_3 : w3.cell? ⟨gb188, 3, none⟩ = some (.slice A0_3 l0_3.length c0_3) := (blk_cell BK188.out 3).trans rfl
   have hcz5_4 : w3.cell? ⟨gb188, 4, none⟩ = some (.slice A0_4 l0_4.length c0_4) := (blk_cell BK188.out 4).trans rfl
   have hcz5_5 : w3.cell? ⟨gb188, 5, none⟩ = some (.int .i64 a0_5) := (blk_cell BK188.out 5).trans rfl
   have hcz5_6 : w3.cell? ⟨gb188, 6, none⟩ = some (.int .i64 a0_6) := (blk_cell BK188.out 6).trans rfl
   have hcz5_7 : w3.cell? ⟨gb188, 7, none⟩ = some (.int .i64 a0_7) := (blk_cell BK188.out 7).trans rfl
   have hfz5_0 := blk_frozen BK188.out 0
   have hfz5_1 := blk_frozen BK188.out 1
   have hfz5_2 := blk_frozen BK188.out 2
   have hfz5_3 := blk_frozen BK188.out 3
   have hfz5_4 := blk_frozen BK188.out 4
   have hfz5_5 := blk_frozen BK188.out 5
   have hfz5_6 := blk_frozen BK188.out 6
   have hfz5_7 := blk_frozen BK188.out 7
   go_wp2
   repeat (go_quiet (fail); try go_wp2)
   go_meet
   case rel => exact ⟨_, (true), (by first | rfl | (simp; done) | (simp [*]; done)), H', ⟨by first | omega | exact Nat.le_refl _⟩, ⟨by qk_; exact BK188.out⟩, ⟨by qb1_ GE188⟩⟩
  ·rw [if_neg c4] at H
   have c4b0 : decide (a0_7 < 1) = false := decide_eq_false c4
   clear c4
   (first | rw [c4b0] | (simp only [i64_w, i32_w]; rw [c4b0]) | skip)
   by_cases c6 : a0_7 > 4
   ·rw [if_pos c6] at H
    have c6b0 : decide (4 < a0_7) = true := decide_eq_true c6
    clear c6
    have H' := Aside0.mk H
    clear H
    have hcz7_0 : w3.cell? ⟨gb188, 0, none⟩ = some (.int .i64 a0_0) := (blk_cell BK188.out 0).trans rfl
    have hcz7_1 : w3.cell? ⟨gb188, 1, none⟩ = some (.int .i64 a0_1) := (blk_cell BK188.out 1).trans rfl
    have hcz7_2 : w3.cell? ⟨gb188, 2, none⟩ = some (.slice A0_2 l0_2.length c0_2) := (blk_cell BK188.out 2).trans rfl
    have hcz7_3 : w3.cell? ⟨gb188, 3, none⟩ = some (.slice A0_3 l0_3.length c0_3) := (blk_cell BK188.out 3).trans rfl
    have hcz7_4 : w3.cell? ⟨gb188, 4, none⟩ = some (.slice A0_4 l0_4.length c0_4) := (blk_cell BK188.out 4).trans rfl
    have hcz7_5 : w3.cell? ⟨gb188, 5, none⟩ = some (.int .i64 a0_5) := (blk_cell BK188.out 5).trans rfl
    have hcz7_6 : w3.cell? ⟨gb188, 6, none⟩ = some (.int .i64 a0_6) := (blk_cell BK188.out 6).trans rfl
    have hcz7_7 : w3.cell? ⟨gb188, 7, none⟩ = some (.int .i64 a0_7) := (blk_cell BK188.out 7).trans rfl
    have hfz7_0 := blk_frozen BK188.out 0
    have hfz7_1 := blk_frozen BK188.out 1
    have hfz7_2 := blk_frozen BK188.out 2
    have hfz7_3 := blk_frozen BK188.out 3
    have hfz7_4 := blk_frozen BK188.out 4
    have hfz7_5 := blk_frozen BK188.out 5
    have hfz7_6 := blk_frozen BK188.out 6
    have hfz7_7 := blk_frozen BK188.out 7
    go_wp2
    repeat (go_quiet (fail); try go_wp2)
    go_meet
    case rel => exact ⟨_, (true), (by first | rfl | (simp; done) | (simp [*]; done)), H', ⟨by first | omega | exact Nat.le_refl _⟩, ⟨by qk_; exact BK188.out⟩, ⟨by qb1_ GE188⟩⟩
   ·rw [if_neg c6] at H
    have c6b0 : decide (4 < a0_7) = false := decide_eq_false c6
    clear c6
    by_cases c8 : a0_6 < 0
    ·rw [if_pos c8] at H
     have c8b0 : decide (a0_6 < 0) = true := decide_eq_true c8
     clear c8
     have H' := Aside0.mk H
     clear H
     have hcz9_0 : w3.cell? ⟨gb188, 0, none⟩ = some (.int .i64 a0_0) := (blk_cell BK188.out 0).trans rfl
     have hcz9_1 : w3.cell? ⟨gb188, 1, none⟩ = some (.int .i64 a0_1) := (blk_cell BK188.out 1).trans rfl
     have hcz9_2 : w3.cell? ⟨gb188, 2, none⟩ = some (.slice A0_2 l0_2.length c0_2) := (blk_cell BK188.out 2).trans rfl
     have hcz9_3 : w3.cell? ⟨gb188, 3, none⟩ = some (.slice A0_3 l0_3.length c0_3) := (blk_cell BK188.out 3).trans rfl
     have hcz9_4 : w3.cell? ⟨gb188, 4, none⟩ = some (.slice A0_4 l0_4.length c0_4) := (blk_cell BK188.out 4).trans rfl
     have hcz9_5 : w3.cell? ⟨gb188, 5, none⟩ = some (.int .i64 a0_5) := (blk_cell BK188.out 5).trans rfl
     have hcz9_6 : w3.cell? ⟨gb188, 6, none⟩ = some (.int .i64 a0_6) := (blk_cell BK188.out 6).trans rfl
     have hcz9_7 : w3.cell? ⟨gb188, 7, none⟩ = some (.int .i64 a0_7) := (blk_cell BK188.out 7).trans rfl
     have hfz9_0 := blk_frozen BK188.out 0
     have hfz9_1 := blk_frozen BK188.out 1
     have hfz9_2 := blk_frozen BK188.out 2
     have hfz9_3 := blk_frozen BK188.out 3
     have hfz9_4 := blk_frozen BK188.out 4
     have hfz9_5 := blk_frozen BK188.out 5
     have hfz9_6 := blk_frozen BK188.out 6
     have hfz9_7 := blk_frozen BK188.out 7
     go_wp2
     repeat (go_quiet (fail); try go_wp2)
     go_meet
     case rel => exact ⟨_, (true), (by first | rfl | (simp; done) | (simp [*]; done)), H', ⟨by first | omega | exact Nat.le_refl _⟩, ⟨by qk_; exact BK188.out⟩, ⟨by qb1_ GE188⟩⟩
    ·rw [if_neg c8] at H
     have c8b0 : decide (a0_6 < 0) = false := decide_eq_false c8
     clear c8
     replace H := Option.bind_eq_some_iff.mp H
     obtain ⟨t189, A100, H⟩ := H
     replace H : (shibbolethref05_Right.j0 k (decide (a0_6 ≥ t189)) a0_0 a0_1 l0_2 l0_3 l0_4 a0_5 a0_6 a0_7) = some r := H
     have A10 := Aside0.mk A100
     clear A100
     have H' := Aside0.mk H
     clear H
     have hcz11_0 : w3.cell? ⟨gb188, 0, none⟩ = some (.int .i64 a0_0) := (blk_cell BK188.out 0).trans rfl
     have hcz11_1 : w3.cell? ⟨gb188, 1, none⟩ = some (.int .i64 a0_1) := (blk_cell BK188.out 1).trans rfl
     have hcz11_2 : w3.cell? ⟨gb188, 2, none⟩ = some (.slice A0_2 l0_2.length c0_2) := (blk_cell BK188.out 2).trans rfl
     have hcz11_3 : w3.cell? ⟨gb188, 3, none⟩ = some (.slice A0_3 l0_3.length c0_3) := (blk_cell BK188.out 3).trans rfl
     have hcz11_4 : w3.cell? ⟨gb188, 4, none⟩ = some (.slice A0_4 l0_4.length c0_4) := (blk_cell BK188.out 4).trans rfl
     have hcz11_5 : w3.cell? ⟨gb188, 5, none⟩ = some (.int .i64 a0_5) := (blk_cell BK188.out 5).trans rfl
     have hcz11_6 : w3.cell? ⟨gb188, 6, none⟩ = some (.int .i64 a0_6) := (blk_cell BK188.out 6).trans rfl
     have hcz11_7 : w3.cell? ⟨gb188, 7, none⟩ = some (.int .i64 a0_7) := (blk_cell BK188.out 7).trans rfl
     have hfz11_0 := blk_frozen BK188.out 0
     have hfz11_1 := blk_frozen BK188.out 1
     have hfz11_2 := blk_frozen BK188.out 2
     have hfz11_3 := blk_frozen BK188.out 3
     have hfz11_4 := blk_frozen BK188.out 4
     have hfz11_5 := blk_frozen BK188.out 5
     have hfz11_6 := blk_frozen BK188.out 6
     have hfz11_7 := blk_frozen BK188.out 7
     go_wp2_with (first | (go_at_call 63; (with_reducible refine (shibbolethref05_power.calls k a0_7 t189 _ A10.out).mono ?_); rintro e w' ⟨rfl, ⟨nd, rfl⟩⟩; (try first | exact ⟨rfl, _, World.drewN_drewN _ _ _⟩ | exact ⟨rfl, _, Eq.trans (World.drewN_drewN _ _ _) (congrArg (World.drewN _) (Nat.add_assoc _ _ _))⟩)))
     repeat (go_quiet (first | (go_at_call 63; (with_reducible refine (shibbolethref05_power.calls k a0_7 t189 _ A10.out).mono ?_); rintro e w' ⟨rfl, ⟨nd, rfl⟩⟩; (try first | exact ⟨rfl, _, World.drewN_drewN _ _ _⟩ | exact ⟨rfl, _, Eq.trans (World.drewN_drewN _ _ _) (congrArg (World.drewN _) (Nat.add_assoc _ _ _))⟩))); try go_wp2_with (first | (go_at_call 63; (with_reducible refine (shibbolethref05_power.calls k a0_7 t189 _ A10.out).mono ?_); rintro e w' ⟨rfl, ⟨nd, rfl⟩⟩; (try first | exact ⟨rfl, _, World.drewN_drewN _ _ _⟩ | exact ⟨rfl, _, Eq.trans (World.drewN_drewN _ _ _) (congrArg (World.drewN _) (Nat.add_assoc _ _ _))⟩))))
     go_meet
     case rel => exact ⟨_, (decide (a0_6 ≥ t189)), (by first | rfl | (simp; done) | (simp [*]; done)), H', ⟨by first | omega | exact Nat.le_refl _⟩, ⟨by qk_; exact BK188.out⟩, ⟨by qb1_ GE188⟩⟩
 case rest =>
  clear HC2
  try clear p2
  try clear c3
  try clear c4
  try clear c4b0
  try clear c6
  try clear c6b0
  try clear c8
  try clear c8b0
  try clear hcz11_0
  try clear hcz11_1
  try clear hcz11_2
  try clear hcz11_3
  try clear hcz11_4
  try clear hcz11_5
  try clear hcz11_6
  try clear hcz11_7
  try clear hcz5_0
  try clear hcz5_1
  try clear hcz5_2
  try clear hcz5_3
  try clear hcz5_4
  try clear hcz5_5
  try clear hcz5_6
  try clear hcz5_7
  try clear hcz7_0
  try clear hcz7_1
  try clear hcz7_2
  try clear hcz7_3
  try clear hcz7_4
  try clear hcz7_5
  try clear hcz7_6
  try clear hcz7_7
  try clear hcz9_0
  try clear hcz9_1
  try clear hcz9_2
  try clear hcz9_3
  try clear hcz9_4
  try clear hcz9_5
  try clear hcz9_6
  try clear hcz9_7
  try clear hfz11_0
  try clear hfz11_1
  try clear hfz11_2
  try clear hfz11_3
  try clear hfz11_4
  try clear hfz11_5
  try clear hfz11_6
  try clear hfz11_7
  try clear hfz5_0
  try clear hfz5_1
  try clear hfz5_2
  try clear hfz5_3
  try clear hfz5_4
  try clear hfz5_5
  try clear hfz5_6
  try clear hfz5_7
  try clear hfz7_0
  try clear hfz7_1
  try clear hfz7_2
  try clear hfz7_3
  try clear hfz7_4
  try clear hfz7_5
  try clear hfz7_6
  try clear hfz7_7
  try clear hfz9_0
  try clear hfz9_1
  try clear hfz9_2
  try clear hfz9_3
  try clear hfz9_4
  try clear hfz9_5
  try clear hfz9_6
  try clear hfz9_7
  obtain ⟨kq, x23_1, rfl, HA, HJ1, BK188, HB⟩ := hcut
  cases kq with
  | zero => exact absurd HA.out (by simp [shibbolethref05_Right.j0])
  | succ kj1 =>
   have H := HA.out
   clear HA
   simp only [shibbolethref05_Right.j0] at H
   by_cases c12 : x23_1 = true
   ·subst c12
    have H1 : (some false) = some r := by rw [if_pos rfl] at H; exact H
    clear H
    have H := H1
    clear H1
    obtain rfl := Option.some.inj H
    go_wp2
    repeat (go_quiet (fail); try go_wp2)
    go_ret
    lk100_
   ·replace c12 := Bool.eq_false_iff.mpr c12
    subst c12
    have H1 : (if a0_0 = 3 then (if a0_1 = 0 then (if (l0_2.length : Int) = 8 then (if (l0_3.length : Int) = 0 then (if (l0_4.length : Int) = 0 then (if a0_5 ≥ 0 then (some (decide (a0_5 ≤ 1))) else (some false)) else (some false)) else (some false)) else (some false)) else (some false)) else (if a0_0 = 0 then (if a0_1 ≥ 1 then (if a0_1 ≤ 4294967295 then (if (l0_2.length : Int) ≤ 20 then (if (l0_3.length : Int) ≤ 20 then (if a0_5 = 0 then (if (l0_4.length : Int) = 0 then (some true) else (some (decide ((l0_4.length : Int) ≤ 64)))) else (some false)) else (some false)) else (some false)) else (some false)) else (some false)) else (if a0_0 = 1 then (if a0_1 ≥ 1 then (if a0_1 ≤ 4294967295 then (if (l0_2.length : Int) ≤ 20 then (if (l0_3.length : Int) ≤ 20 then (if a0_5 = 0 then (if (l0_4.length : Int) = 0 then (some true) else (some false)) else (some false)) else (some false)) else (some false)) else (some false)) else (some false)) else (if a0_0 = 2 then (if a0_1 ≥ 1 then (if a0_1 ≤ 4294967295 then (if (l0_2.length : Int) ≤ 20 then (if (l0_3.length : Int) ≤ 20 then (if a0_5 = 0 then (if (l0_4.length : Int) = 0 then (some true) else (some false)) else (some false)) else (some false)) else (some false)) else (some false)) else (some false)) else (some false))))) = some r := by rw [if_neg (show ¬ (false = true) by decide)] at H; exact H
    clear H
    have H := H1
    clear H1
    by_cases c13 : a0_0 = 3
    ·rw [if_pos c13] at H
     have c13b0 : (a0_0 == 3) = true := beq_iff_eq.mpr c13
     have c13b1 : (a0_0 != 3) = false := bne_eq_false_iff_eq.mpr c13
     clear c13
     by_cases c14 : a0_1 = 0
     ·rw [if_pos c14] at H
      have c14b0 : (a0_1 == 0) = true := beq_iff_eq.mpr c14
      have c14b1 : (a0_1 != 0) = false := bne_eq_false_iff_eq.mpr c14
      clear c14
      by_cases c15 : (l0_2.length : Int) = 8
      ·rw [if_pos c15] at H
       have c15b0 : ((l0_2.length : Int) == 8) = true := beq_iff_eq.mpr c15
       have c15b1 : ((l0_2.length : Int) != 8) = false := bne_eq_false_iff_eq.mpr c15
       clear c15
       by_cases c16 : (l0_3.length : Int) = 0
       ·rw [if_pos c16] at H
        have c16b0 : ((l0_3.length : Int) == 0) = true := beq_iff_eq.mpr c16
        have c16b1 : ((l0_3.length : Int) != 0) = false := bne_eq_false_iff_eq.mpr c16
        clear c16
        by_cases c17 : (l0_4.length : Int) = 0
        ·rw [if_pos c17] at H
         have c17b0 : ((l0_4.length : Int) == 0) = true := beq_iff_eq.mpr c17
         have c17b1 : ((l0_4.length : Int) != 0) = false := bne_eq_false_iff_eq.mpr c17
         clear c17
         by_cases c18 : a0_5 ≥ 0
         ·rw [if_pos c18] at H
          have c18b0 : decide (0 ≤ a0_5) = true := decide_eq_true c18
          clear c18
          obtain rfl := Option.some.inj H
          have hcz19_0 : wc.cell? ⟨gb188, 0, none⟩ = some (.int .i64 a0_0) := (blk_cell BK188.out 0).trans rfl
          have hcz19_1 : wc.cell? ⟨gb188, 1, none⟩ = some (.int .i64 a0_1) := (blk_cell BK188.out 1).trans rfl
          have hcz19_2 : wc.cell? ⟨gb188, 2, none⟩ = some (.slice A0_2 l0_2.length c0_2) := (blk_cell BK188.out 2).trans rfl
          have hcz19_3 : wc.cell? ⟨gb188, 3, none⟩ = some (.slice A0_3 l0_3.length c0_3) := (blk_cell BK188.out 3).trans rfl
          have hcz19_4 : wc.cell? ⟨gb188, 4, none⟩ = some (.slice A0_4 l0_4.length c0_4) := (blk_cell BK188.out 4).trans rfl
          have hcz19_5 : wc.cell? ⟨gb188, 5, none⟩ = some (.int .i64 a0_5) := (blk_cell BK188.out 5).trans rfl
          have hcz19_6 : wc.cell? ⟨gb188, 6, none⟩ = some (.int .i64 a0_6) := (blk_cell BK188.out 6).trans rfl
          have hcz19_7 : wc.cell? ⟨gb188, 7, none⟩ = some (.int .i64 a0_7) := (blk_cell BK188.out 7).trans rfl
          have hfz19_0 := blk_frozen BK188.out 0
          have hfz19_1 := blk_frozen BK188.out 1
          have hfz19_2 := blk_frozen BK188.out 2
          have hfz19_3 := blk_frozen BK188.out 3
          have hfz19_4 := blk_frozen BK188.out 4
          have hfz19_5 := blk_frozen BK188.out 5
          have hfz19_6 := blk_frozen BK188.out 6
          have hfz19_7 := blk_frozen BK188.out 7
          go_wp2
          repeat (go_quiet (fail); try go_wp2)
          go_ret
          lk100_
         ·rw [if_neg c18] at H
          have c18b0 : decide (0 ≤ a0_5) = false := decide_eq_false c18
          clear c18
          obtain rfl := Option.some.inj H
          have hcz20_0 : wc.cell? ⟨gb188, 0, none⟩ = some (.int .i64 a0_0) := (blk_cell BK188.out 0).trans rfl
          have hcz20_1 : wc.cell? ⟨gb188, 1, none⟩ = some (.int .i64 a0_1) := (blk_cell BK188.out 1).trans rfl
          have hcz20_2 : wc.cell? ⟨gb188, 2, none⟩ = some (.slice A0_2 l0_2.length c0_2) := (blk_cell BK188.out 2).trans rfl
          have hcz20_3 : wc.cell? ⟨gb188, 3, none⟩ = some (.slice A0_3 l0_3.length c0_3) := (blk_cell BK188.out 3).trans rfl
          have hcz20_4 : wc.cell? ⟨gb188, 4, none⟩ = some (.slice A0_4 l0_4.length c0_4) := (blk_cell BK188.out 4).trans rfl
          have hcz20_5 : wc.cell? ⟨gb188, 5, none⟩ = some (.int .i64 a0_5) := (blk_cell BK188.out 5).trans rfl
          have hcz20_6 : wc.cell? ⟨gb188, 6, none⟩ = some (.int .i64 a0_6) := (blk_cell BK188.out 6).trans rfl
          have hcz20_7 : wc.cell? ⟨gb188, 7, none⟩ = some (.int .i64 a0_7) := (blk_cell BK188.out 7).trans rfl
          have hfz20_0 := blk_frozen BK188.out 0
          have hfz20_1 := blk_frozen BK188.out 1
          have hfz20_2 := blk_frozen BK188.out 2
          have hfz20_3 := blk_frozen BK188.out 3
          have hfz20_4 := blk_frozen BK188.out 4
          have hfz20_5 := blk_frozen BK188.out 5
          have hfz20_6 := blk_frozen BK188.out 6
          have hfz20_7 := blk_frozen BK188.out 7
          go_wp2
          repeat (go_quiet (fail); try go_wp2)
          go_ret
          lk100_
        ·rw [if_neg c17] at H
         have c17b0 : ((l0_4.length : Int) == 0) = false := beq_eq_false_iff_ne.mpr c17
         have c17b1 : ((l0_4.length : Int) != 0) = true := bne_iff_ne.mpr c17
         have c17b2 : ¬ (l0_4 = []) := fun h_ => c17 (by rw [h_]; rfl)
         obtain rfl := Option.some.inj H
         have hcz21_0 : wc.cell? ⟨gb188, 0, none⟩ = some (.int .i64 a0_0) := (blk_cell BK188.out 0).trans rfl
         have hcz21_1 : wc.cell? ⟨gb188, 1, none⟩ = some (.int .i64 a0_1) := (blk_cell BK188.out 1).trans rfl
         have hcz21_2 : wc.cell? ⟨gb188, 2, none⟩ = some (.slice A0_2 l0_2.length c0_2) := (blk_cell BK188.out 2).trans rfl
         have hcz21_3 : wc.cell? ⟨gb188, 3, none⟩ = some (.slice A0_3 l0_3.length c0_3) := (blk_cell BK188.out 3).trans rfl
         have hcz21_4 : wc.cell? ⟨gb188, 4, none⟩ = some (.slice A0_4 l0_4.length c0_4) := (blk_cell BK188.out 4).trans rfl
         have hcz21_5 : wc.cell? ⟨gb188, 5, none⟩ = some (.int .i64 a0_5) := (blk_cell BK188.out 5).trans rfl
         have hcz21_6 : wc.cell? ⟨gb188, 6, none⟩ = some (.int .i64 a0_6) := (blk_cell BK188.out 6).trans rfl
         have hcz21_7 : wc.cell? ⟨gb188, 7, none⟩ = some (.int .i64 a0_7) := (blk_cell BK188.out 7).trans rfl
         have hfz21_0 := blk_frozen BK188.out 0
         have hfz21_1 := blk_frozen BK188.out 1
         have hfz21_2 := blk_frozen BK188.out 2
         have hfz21_3 := blk_frozen BK188.out 3
         have hfz21_4 := blk_frozen BK188.out 4
         have hfz21_5 := blk_frozen BK188.out 5
         have hfz21_6 := blk_frozen BK188.out 6
         have hfz21_7 := blk_frozen BK188.out 7
         go_wp2
         repeat (go_quiet (fail); try go_wp2)
         go_ret
         lk100_
       ·rw [if_neg c16] at H
        have c16b0 : ((l0_3.length : Int) == 0) = false := beq_eq_false_iff_ne.mpr c16
        have c16b1 : ((l0_3.length : Int) != 0) = true := bne_iff_ne.mpr c16
        have c16b2 : ¬ (l0_3 = []) := fun h_ => c16 (by rw [h_]; rfl)
        obtain rfl := Option.some.inj H
        have hcz22_0 : wc.cell? ⟨gb188, 0, none⟩ = some (.int .i64 a0_0) := (blk_cell BK188.out 0).trans rfl
        have hcz22_1 : wc.cell? ⟨gb188, 1, none⟩ = some (.int .i64 a0_1) := (blk_cell BK188.out 1).trans rfl
        have hcz22_2 : wc.cell? ⟨gb188, 2, none⟩ = some (.slice A0_2 l0_2.length c0_2) := (blk_cell BK188.out 2).trans rfl
        have hcz22_3 : wc.cell? ⟨gb188, 3, none⟩ = some (.slice A0_3 l0_3.length c0_3) := (blk_cell BK188.out 3).trans rfl
        have hcz22_4 : wc.cell? ⟨gb188, 4, none⟩ = some (.slice A0_4 l0_4.length c0_4) := (blk_cell BK188.out 4).trans rfl
        have hcz22_5 : wc.cell? ⟨gb188, 5, none⟩ = some (.int .i64 a0_5) := (blk_cell BK188.out 5).trans rfl
        have hcz22_6 : wc.cell? ⟨gb188, 6, none⟩ = some (.int .i64 a0_6) := (blk_cell BK188.out 6).trans rfl
        have hcz22_7 : wc.cell? ⟨gb188, 7, none⟩ = some (.int .i64 a0_7) := (blk_cell BK188.out 7).trans rfl
        have hfz22_0 := blk_frozen BK188.out 0
        have hfz22_1 := blk_frozen BK188.out 1
        have hfz22_2 := blk_frozen BK188.out 2
        have hfz22_3 := blk_frozen BK188.out 3
        have hfz22_4 := blk_frozen BK188.out 4
        have hfz22_5 := blk_frozen BK188.out 5
        have hfz22_6 := blk_frozen BK188.out 6
        have hfz22_7 := blk_frozen BK188.out 7
        go_wp2
        repeat (go_quiet (fail); try go_wp2)
        go_ret
        lk100_
      ·rw [if_neg c15] at H
       have c15b0 : ((l0_2.length : Int) == 8) = false := beq_eq_false_iff_ne.mpr c15
       have c15b1 : ((l0_2.length : Int) != 8) = true := bne_iff_ne.mpr c15
       obtain rfl := Option.some.inj H
       have hcz23_0 : wc.cell? ⟨gb188, 0, none⟩ = some (.int .i64 a0_0) := (blk_cell BK188.out 0).trans rfl
       have hcz23_1 : wc.cell? ⟨gb188, 1, none⟩ = some (.int .i64 a0_1) := (blk_cell BK188.out 1).trans rfl
       have hcz23_2 : wc.cell? ⟨gb188, 2, none⟩ = some (.slice A0_2 l0_2.length c0_2) := (blk_cell BK188.out 2).trans rfl
       have hcz23_3 : wc.cell? ⟨gb188, 3, none⟩ = some (.slice A0_3 l0_3.length c0_3) := (blk_cell BK188.out 3).trans rfl
       have hcz23_4 : wc.cell? ⟨gb188, 4, none⟩ = some (.slice A0_4 l0_4.length c0_4) := (blk_cell BK188.out 4).trans rfl
       have hcz23_5 : wc.cell? ⟨gb188, 5, none⟩ = some (.int .i64 a0_5) := (blk_cell BK188.out 5).trans rfl
       have hcz23_6 : wc.cell? ⟨gb188, 6, none⟩ = some (.int .i64 a0_6) := (blk_cell BK188.out 6).trans rfl
       have hcz23_7 : wc.cell? ⟨gb188, 7, none⟩ = some (.int .i64 a0_7) := (blk_cell BK188.out 7).trans rfl
       have hfz23_0 := blk_frozen BK188.out 0
       have hfz23_1 := blk_frozen BK188.out 1
       have hfz23_2 := blk_frozen BK188.out 2
       have hfz23_3 := blk_frozen BK188.out 3
       have hfz23_4 := blk_frozen BK188.out 4
       have hfz23_5 := blk_frozen BK188.out 5
       have hfz23_6 := blk_frozen BK188.out 6
       have hfz23_7 := blk_frozen BK188.out 7
       go_wp2
       repeat (go_quiet (fail); try go_wp2)
       go_ret
       lk100_
     ·rw [if_neg c14] at H
      have c14b0 : (a0_1 == 0) = false := beq_eq_false_iff_ne.mpr c14
      have c14b1 : (a0_1 != 0) = true := bne_iff_ne.mpr c14
      obtain rfl := Option.some.inj H
      have hcz24_0 : wc.cell? ⟨gb188, 0, none⟩ = some (.int .i64 a0_0) := (blk_cell BK188.out 0).trans rfl
      have hcz24_1 : wc.cell? ⟨gb188, 1, none⟩ = some (.int .i64 a0_1) := (blk_cell BK188.out 1).trans rfl
      have hcz24_2 : wc.cell? ⟨gb188, 2, none⟩ = some (.slice A0_2 l0_2.length c0_2) := (blk_cell BK188.out 2).trans rfl
      have hcz24_3 : wc.cell? ⟨gb188, 3, none⟩ = some (.slice A0_3 l0_3.length c0_3) := (blk_cell BK188.out 3).trans rfl
      have hcz24_4 : wc.cell? ⟨gb188, 4, none⟩ = some (.slice A0_4 l0_4.length c0_4) := (blk_cell BK188.out 4).trans rfl
      have hcz24_5 : wc.cell? ⟨gb188, 5, none⟩ = some (.int .i64 a0_5) := (blk_cell BK188.out 5).trans rfl
      have hcz24_6 : wc.cell? ⟨gb188, 6, none⟩ = some (.int .i64 a0_6) := (blk_cell BK188.out 6).trans rfl
      have hcz24_7 : wc.cell? ⟨gb188, 7, none⟩ = some (.int .i64 a0_7) := (blk_cell BK188.out 7).trans rfl
      have hfz24_0 := blk_frozen BK188.out 0
      have hfz24_1 := blk_frozen BK188.out 1
      have hfz24_2 := blk_frozen BK188.out 2
      have hfz24_3 := blk_frozen BK188.out 3
      have hfz24_4 := blk_frozen BK188.out 4
      have hfz24_5 := blk_frozen BK188.out 5
      have hfz24_6 := blk_frozen BK188.out 6
      have hfz24_7 := blk_frozen BK188.out 7
      go_wp2
      repeat (go_quiet (fail); try go_wp2)
      go_ret
      lk100_
    ·rw [if_neg c13] at H
     have c13b0 : (a0_0 == 3) = false := beq_eq_false_iff_ne.mpr c13
     have c13b1 : (a0_0 != 3) = true := bne_iff_ne.mpr c13
     by_cases c25 : a0_0 = 0
     ·rw [if_pos c25] at H
      have c25b0 : (a0_0 == 0) = true := beq_iff_eq.mpr c25
      have c25b1 : (a0_0 != 0) = false := bne_eq_false_iff_eq.mpr c25
      clear c25
      by_cases c26 : a0_1 ≥ 1
      ·rw [if_pos c26] at H
       have c26b0 : decide (1 ≤ a0_1) = true := decide_eq_true c26
       clear c26
       by_cases c27 : a0_1 ≤ 4294967295
       ·rw [if_pos c27] at H
        have c27b0 : decide (a0_1 ≤ 4294967295) = true := decide_eq_true c27
        clear c27
        by_cases c28 : (l0_2.length : Int) ≤ 20
        ·rw [if_pos c28] at H
         have c28b0 : decide ((l0_2.length : Int) ≤ 20) = true := decide_eq_true c28
         have c28b1 : decide (l0_2.length ≤ 20) = true := decide_eq_true (by omega)
         clear c28
         by_cases c29 : (l0_3.length : Int) ≤ 20
         ·rw [if_pos c29] at H
          have c29b0 : decide ((l0_3.length : Int) ≤ 20) = true := decide_eq_true c29
          have c29b1 : decide (l0_3.length ≤ 20) = true := decide_eq_true (by omega)
          clear c29
          by_cases c30 : a0_5 = 0
          ·rw [if_pos c30] at H
           have c30b0 : (a0_5 == 0) = true := beq_iff_eq.mpr c30
           have c30b1 : (a0_5 != 0) = false := bne_eq_false_iff_eq.mpr c30
           clear c30
           by_cases c31 : (l0_4.length : Int) = 0
           ·rw [if_pos c31] at H
            have c31b0 : ((l0_4.length : Int) == 0) = true := beq_iff_eq.mpr c31
            have c31b1 : ((l0_4.length : Int) != 0) = false := bne_eq_false_iff_eq.mpr c31
            clear c31
            obtain rfl := Option.some.inj H
            have hcz32_0 : wc.cell? ⟨gb188, 0, none⟩ = some (.int .i64 a0_0) := (blk_cell BK188.out 0).trans rfl
            have hcz32_1 : wc.cell? ⟨gb188, 1, none⟩ = some (.int .i64 a0_1) := (blk_cell BK188.out 1).trans rfl
            have hcz32_2 : wc.cell? ⟨gb188, 2, none⟩ = some (.slice A0_2 l0_2.length c0_2) := (blk_cell BK188.out 2).trans rfl
            have hcz32_3 : wc.cell? ⟨gb188, 3, none⟩ = some (.slice A0_3 l0_3.length c0_3) := (blk_cell BK188.out 3).trans rfl
            have hcz32_4 : wc.cell? ⟨gb188, 4, none⟩ = some (.slice A0_4 l0_4.length c0_4) := (blk_cell BK188.out 4).trans rfl
            have hcz32_5 : wc.cell? ⟨gb188, 5, none⟩ = some (.int .i64 a0_5) := (blk_cell BK188.out 5).trans rfl
            have hcz32_6 : wc.cell? ⟨gb188, 6, none⟩ = some (.int .i64 a0_6) := (blk_cell BK188.out 6).trans rfl
            have hcz32_7 : wc.cell? ⟨gb188, 7, none⟩ = some (.int .i64 a0_7) := (blk_cell BK188.out 7).trans rfl
            have hfz32_0 := blk_frozen BK188.out 0
            have hfz32_1 := blk_frozen BK188.out 1
            have hfz32_2 := blk_frozen BK188.out 2
            have hfz32_3 := blk_frozen BK188.out 3
            have hfz32_4 := blk_frozen BK188.out 4
            have hfz32_5 := blk_frozen BK188.out 5
            have hfz32_6 := blk_frozen BK188.out 6
            have hfz32_7 := blk_frozen BK188.out 7
            go_wp2
            repeat (go_quiet (fail); try go_wp2)
            go_ret
            lk100_
           ·rw [if_neg c31] at H
            have c31b0 : ((l0_4.length : Int) == 0) = false := beq_eq_false_iff_ne.mpr c31
            have c31b1 : ((l0_4.length : Int) != 0) = true := bne_iff_ne.mpr c31
            have c31b2 : ¬ (l0_4 = []) := fun h_ => c31 (by rw [h_]; rfl)
            obtain rfl := Option.some.inj H
            have hcz33_0 : wc.cell? ⟨gb188, 0, none⟩ = some (.int .i64 a0_0) := (blk_cell BK188.out 0).trans rfl
            have hcz33_1 : wc.cell? ⟨gb188, 1, none⟩ = some (.int .i64 a0_1) := (blk_cell BK188.out 1).trans rfl
            have hcz33_2 : wc.cell? ⟨gb188, 2, none⟩ = some (.slice A0_2 l0_2.length c0_2) := (blk_cell BK188.out 2).trans rfl
            have hcz33_3 : wc.cell? ⟨gb188, 3, none⟩ = some (.slice A0_3 l0_3.length c0_3) := (blk_cell BK188.out 3).trans rfl
            have hcz33_4 : wc.cell? ⟨gb188, 4, none⟩ = some (.slice A0_4 l0_4.length c0_4) := (blk_cell BK188.out 4).trans rfl
            have hcz33_5 : wc.cell? ⟨gb188, 5, none⟩ = some (.int .i64 a0_5) := (blk_cell BK188.out 5).trans rfl
            have hcz33_6 : wc.cell? ⟨gb188, 6, none⟩ = some (.int .i64 a0_6) := (blk_cell BK188.out 6).trans rfl
            have hcz33_7 : wc.cell? ⟨gb188, 7, none⟩ = some (.int .i64 a0_7) := (blk_cell BK188.out 7).trans rfl
            have hfz33_0 := blk_frozen BK188.out 0
            have hfz33_1 := blk_frozen BK188.out 1
            have hfz33_2 := blk_frozen BK188.out 2
            have hfz33_3 := blk_frozen BK188.out 3
            have hfz33_4 := blk_frozen BK188.out 4
            have hfz33_5 := blk_frozen BK188.out 5
            have hfz33_6 := blk_frozen BK188.out 6
            have hfz33_7 := blk_frozen BK188.out 7
            go_wp2
            repeat (go_quiet (fail); try go_wp2)
            go_ret
            lk100_
          ·rw [if_neg c30] at H
           have c30b0 : (a0_5 == 0) = false := beq_eq_false_iff_ne.mpr c30
           have c30b1 : (a0_5 != 0) = true := bne_iff_ne.mpr c30
           obtain rfl := Option.some.inj H
           have hcz34_0 : wc.cell? ⟨gb188, 0, none⟩ = some (.int .i64 a0_0) := (blk_cell BK188.out 0).trans rfl
           have hcz34_1 : wc.cell? ⟨gb188, 1, none⟩ = some (.int .i64 a0_1) := (blk_cell BK188.out 1).trans rfl
           have hcz34_2 : wc.cell? ⟨gb188, 2, none⟩ = some (.slice A0_2 l0_2.length c0_2) := (blk_cell BK188.out 2).trans rfl
           have hcz34_3 : wc.cell? ⟨gb188, 3, none⟩ = some (.slice A0_3 l0_3.length c0_3) := (blk_cell BK188.out 3).trans rfl
           have hcz34_4 : wc.cell? ⟨gb188, 4, none⟩ = some (.slice A0_4 l0_4.length c0_4) := (blk_cell BK188.out 4).trans rfl
           have hcz34_5 : wc.cell? ⟨gb188, 5, none⟩ = some (.int .i64 a0_5) := (blk_cell BK188.out 5).trans rfl
           have hcz34_6 : wc.cell? ⟨gb188, 6, none⟩ = some (.int .i64 a0_6) := (blk_cell BK188.out 6).trans rfl
           have hcz34_7 : wc.cell? ⟨gb188, 7, none⟩ = some (.int .i64 a0_7) := (blk_cell BK188.out 7).trans rfl
           have hfz34_0 := blk_frozen BK188.out 0
           have hfz34_1 := blk_frozen BK188.out 1
           have hfz34_2 := blk_frozen BK188.out 2
           have hfz34_3 := blk_frozen BK188.out 3
           have hfz34_4 := blk_frozen BK188.out 4
           have hfz34_5 := blk_frozen BK188.out 5
           have hfz34_6 := blk_frozen BK188.out 6
           have hfz34_7 := blk_frozen BK188.out 7
           go_wp2
           repeat (go_quiet (fail); try go_wp2)
           go_ret
           lk100_
         ·rw [if_neg c29] at H
          have c29b0 : decide ((l0_3.length : Int) ≤ 20) = false := decide_eq_false c29
          have c29b1 : decide (l0_3.length ≤ 20) = false := decide_eq_false (by omega)
          clear c29
          obtain rfl := Option.some.inj H
          have hcz35_0 : wc.cell? ⟨gb188, 0, none⟩ = some (.int .i64 a0_0) := (blk_cell BK188.out 0).trans rfl
          have hcz35_1 : wc.cell? ⟨gb188, 1, none⟩ = some (.int .i64 a0_1) := (blk_cell BK188.out 1).trans rfl
          have hcz35_2 : wc.cell? ⟨gb188, 2, none⟩ = some (.slice A0_2 l0_2.length c0_2) := (blk_cell BK188.out 2).trans rfl
          have hcz35_3 : wc.cell? ⟨gb188, 3, none⟩ = some (.slice A0_3 l0_3.length c0_3) := (blk_cell BK188.out 3).trans rfl
          have hcz35_4 : wc.cell? ⟨gb188, 4, none⟩ = some (.slice A0_4 l0_4.length c0_4) := (blk_cell BK188.out 4).trans rfl
          have hcz35_5 : wc.cell? ⟨gb188, 5, none⟩ = some (.int .i64 a0_5) := (blk_cell BK188.out 5).trans rfl
          have hcz35_6 : wc.cell? ⟨gb188, 6, none⟩ = some (.int .i64 a0_6) := (blk_cell BK188.out 6).trans rfl
          have hcz35_7 : wc.cell? ⟨gb188, 7, none⟩ = some (.int .i64 a0_7) := (blk_cell BK188.out 7).trans rfl
          have hfz35_0 := blk_frozen BK188.out 0
          have hfz35_1 := blk_frozen BK188.out 1
          have hfz35_2 := blk_frozen BK188.out 2
          have hfz35_3 := blk_frozen BK188.out 3
          have hfz35_4 := blk_frozen BK188.out 4
          have hfz35_5 := blk_frozen BK188.out 5
          have hfz35_6 := blk_frozen BK188.out 6
          have hfz35_7 := blk_frozen BK188.out 7
          go_wp2
          repeat (go_quiet (fail); try go_wp2)
          go_ret
          lk100_
        ·rw [if_neg c28] at H
         have c28b0 : decide ((l0_2.length : Int) ≤ 20) = false := decide_eq_false c28
         have c28b1 : decide (l0_2.length ≤ 20) = false := decide_eq_false (by omega)
         clear c28
         obtain rfl := Option.some.inj H
         have hcz36_0 : wc.cell? ⟨gb188, 0, none⟩ = some (.int .i64 a0_0) := (blk_cell BK188.out 0).trans rfl
         have hcz36_1 : wc.cell? ⟨gb188, 1, none⟩ = some (.int .i64 a0_1) := (blk_cell BK188.out 1).trans rfl
         have hcz36_2 : wc.cell? ⟨gb188, 2, none⟩ = some (.slice A0_2 l0_2.length c0_2) := (blk_cell BK188.out 2).trans rfl
         have hcz36_3 : wc.cell? ⟨gb188, 3, none⟩ = some (.slice A0_3 l0_3.length c0_3) := (blk_cell BK188.out 3).trans rfl
         have hcz36_4 : wc.cell? ⟨gb188, 4, none⟩ = some (.slice A0_4 l0_4.length c0_4) := (blk_cell BK188.out 4).trans rfl
         have hcz36_5 : wc.cell? ⟨gb188, 5, none⟩ = some (.int .i64 a0_5) := (blk_cell BK188.out 5).trans rfl
         have hcz36_6 : wc.cell? ⟨gb188, 6, none⟩ = some (.int .i64 a0_6) := (blk_cell BK188.out 6).trans rfl
         have hcz36_7 : wc.cell? ⟨gb188, 7, none⟩ = some (.int .i64 a0_7) := (blk_cell BK188.out 7).trans rfl
         have hfz36_0 := blk_frozen BK188.out 0
         have hfz36_1 := blk_frozen BK188.out 1
         have hfz36_2 := blk_frozen BK188.out 2
         have hfz36_3 := blk_frozen BK188.out 3
         have hfz36_4 := blk_frozen BK188.out 4
         have hfz36_5 := blk_frozen BK188.out 5
         have hfz36_6 := blk_frozen BK188.out 6
         have hfz36_7 := blk_frozen BK188.out 7
         go_wp2
         repeat (go_quiet (fail); try go_wp2)
         go_ret
         lk100_
       ·rw [if_neg c27] at H
        have c27b0 : decide (a0_1 ≤ 4294967295) = false := decide_eq_false c27
        clear c27
        obtain rfl := Option.some.inj H
        have hcz37_0 : wc.cell? ⟨gb188, 0, none⟩ = some (.int .i64 a0_0) := (blk_cell BK188.out 0).trans rfl
        have hcz37_1 : wc.cell? ⟨gb188, 1, none⟩ = some (.int .i64 a0_1) := (blk_cell BK188.out 1).trans rfl
        have hcz37_2 : wc.cell? ⟨gb188, 2, none⟩ = some (.slice A0_2 l0_2.length c0_2) := (blk_cell BK188.out 2).trans rfl
        have hcz37_3 : wc.cell? ⟨gb188, 3, none⟩ = some (.slice A0_3 l0_3.length c0_3) := (blk_cell BK188.out 3).trans rfl
        have hcz37_4 : wc.cell? ⟨gb188, 4, none⟩ = some (.slice A0_4 l0_4.length c0_4) := (blk_cell BK188.out 4).trans rfl
        have hcz37_5 : wc.cell? ⟨gb188, 5, none⟩ = some (.int .i64 a0_5) := (blk_cell BK188.out 5).trans rfl
        have hcz37_6 : wc.cell? ⟨gb188, 6, none⟩ = some (.int .i64 a0_6) := (blk_cell BK188.out 6).trans rfl
        have hcz37_7 : wc.cell? ⟨gb188, 7, none⟩ = some (.int .i64 a0_7) := (blk_cell BK188.out 7).trans rfl
        have hfz37_0 := blk_frozen BK188.out 0
        have hfz37_1 := blk_frozen BK188.out 1
        have hfz37_2 := blk_frozen BK188.out 2
        have hfz37_3 := blk_frozen BK188.out 3
        have hfz37_4 := blk_frozen BK188.out 4
        have hfz37_5 := blk_frozen BK188.out 5
        have hfz37_6 := blk_frozen BK188.out 6
        have hfz37_7 := blk_frozen BK188.out 7
        go_wp2
        repeat (go_quiet (fail); try go_wp2)
        go_ret
        lk100_
      ·rw [if_neg c26] at H
       have c26b0 : decide (1 ≤ a0_1) = false := decide_eq_false c26
       clear c26
       obtain rfl := Option.some.inj H
       have hcz38_0 : wc.cell? ⟨gb188, 0, none⟩ = some (.int .i64 a0_0) := (blk_cell BK188.out 0).trans rfl
       have hcz38_1 : wc.cell? ⟨gb188, 1, none⟩ = some (.int .i64 a0_1) := (blk_cell BK188.out 1).trans rfl
       have hcz38_2 : wc.cell? ⟨gb188, 2, none⟩ = some (.slice A0_2 l0_2.length c0_2) := (blk_cell BK188.out 2).trans rfl
       have hcz38_3 : wc.cell? ⟨gb188, 3, none⟩ = some (.slice A0_3 l0_3.length c0_3) := (blk_cell BK188.out 3).trans rfl
       have hcz38_4 : wc.cell? ⟨gb188, 4, none⟩ = some (.slice A0_4 l0_4.length c0_4) := (blk_cell BK188.out 4).trans rfl
       have hcz38_5 : wc.cell? ⟨gb188, 5, none⟩ = some (.int .i64 a0_5) := (blk_cell BK188.out 5).trans rfl
       have hcz38_6 : wc.cell? ⟨gb188, 6, none⟩ = some (.int .i64 a0_6) := (blk_cell BK188.out 6).trans rfl
       have hcz38_7 : wc.cell? ⟨gb188, 7, none⟩ = some (.int .i64 a0_7) := (blk_cell BK188.out 7).trans rfl
       have hfz38_0 := blk_frozen BK188.out 0
       have hfz38_1 := blk_frozen BK188.out 1
       have hfz38_2 := blk_frozen BK188.out 2
       have hfz38_3 := blk_frozen BK188.out 3
       have hfz38_4 := blk_frozen BK188.out 4
       have hfz38_5 := blk_frozen BK188.out 5
       have hfz38_6 := blk_frozen BK188.out 6
       have hfz38_7 := blk_frozen BK188.out 7
       go_wp2
       repeat (go_quiet (fail); try go_wp2)
       go_ret
       lk100_
     ·rw [if_neg c25] at H
      have c25b0 : (a0_0 == 0) = false := beq_eq_false_iff_ne.mpr c25
      have c25b1 : (a0_0 != 0) = true := bne_iff_ne.mpr c25
      by_cases c39 : a0_0 = 1
      ·rw [if_pos c39] at H
       have c39b0 : (a0_0 == 1) = true := beq_iff_eq.mpr c39
       have c39b1 : (a0_0 != 1) = false := bne_eq_false_iff_eq.mpr c39
       clear c39
       by_cases c40 : a0_1 ≥ 1
       ·rw [if_pos c40] at H
        have c40b0 : decide (1 ≤ a0_1) = true := decide_eq_true c40
        clear c40
        by_cases c41 : a0_1 ≤ 4294967295
        ·rw [if_pos c41] at H
         have c41b0 : decide (a0_1 ≤ 4294967295) = true := decide_eq_true c41
         clear c41
         by_cases c42 : (l0_2.length : Int) ≤ 20
         ·rw [if_pos c42] at H
          have c42b0 : decide ((l0_2.length : Int) ≤ 20) = true := decide_eq_true c42
          have c42b1 : decide (l0_2.length ≤ 20) = true := decide_eq_true (by omega)
          clear c42
          by_cases c43 : (l0_3.length : Int) ≤ 20
          ·rw [if_pos c43] at H
           have c43b0 : decide ((l0_3.length : Int) ≤ 20) = true := decide_eq_true c43
           have c43b1 : decide (l0_3.length ≤ 20) = true := decide_eq_true (by omega)
           clear c43
           by_cases c44 : a0_5 = 0
           ·rw [if_pos c44] at H
            have c44b0 : (a0_5 == 0) = true := beq_iff_eq.mpr c44
            have c44b1 : (a0_5 != 0) = false := bne_eq_false_iff_eq.mpr c44
            clear c44
            by_cases c45 : (l0_4.length : Int) = 0
            ·rw [if_pos c45] at H
             have c45b0 : ((l0_4.length : Int) == 0) = true := beq_iff_eq.mpr c45
             have c45b1 : ((l0_4.length : Int) != 0) = false := bne_eq_false_iff_eq.mpr c45
             clear c45
             obtain rfl := Option.some.inj H
             have hcz46_0 : wc.cell? ⟨gb188, 0, none⟩ = some (.int .i64 a0_0) := (blk_cell BK188.out 0).trans rfl
             have hcz46_1 : wc.cell? ⟨gb188, 1, none⟩ = some (.int .i64 a0_1) := (blk_cell BK188.out 1).trans rfl
             have hcz46_2 : wc.cell? ⟨gb188, 2, none⟩ = some (.slice A0_2 l0_2.length c0_2) := (blk_cell BK188.out 2).trans rfl
             have hcz46_3 : wc.cell? ⟨gb188, 3, none⟩ = some (.slice A0_3 l0_3.length c0_3) := (blk_cell BK188.out 3).trans rfl
             have hcz46_4 : wc.cell? ⟨gb188, 4, none⟩ = some (.slice A0_4 l0_4.length c0_4) := (blk_cell BK188.out 4).trans rfl
             have hcz46_5 : wc.cell? ⟨gb188, 5, none⟩ = some (.int .i64 a0_5) := (blk_cell BK188.out 5).trans rfl
             have hcz46_6 : wc.cell? ⟨gb188, 6, none⟩ = some (.int .i64 a0_6) := (blk_cell BK188.out 6).trans rfl
             have hcz46_7 : wc.cell? ⟨gb188, 7, none⟩ = some (.int .i64 a0_7) := (blk_cell BK188.out 7).trans rfl
             have hfz46_0 := blk_frozen BK188.out 0
             have hfz46_1 := blk_frozen BK188.out 1
             have hfz46_2 := blk_frozen BK188.out 2
             have hfz46_3 := blk_frozen BK188.out 3
             have hfz46_4 := blk_frozen BK188.out 4
             have hfz46_5 := blk_frozen BK188.out 5
             have hfz46_6 := blk_frozen BK188.out 6
             have hfz46_7 := blk_frozen BK188.out 7
             go_wp2
             repeat (go_quiet (fail); try go_wp2)
             go_ret
             lk100_
            ·rw [if_neg c45] at H
             have c45b0 : ((l0_4.length : Int) == 0) = false := beq_eq_false_iff_ne.mpr c45
             have c45b1 : ((l0_4.length : Int) != 0) = true := bne_iff_ne.mpr c45
             have c45b2 : ¬ (l0_4 = []) := fun h_ => c45 (by rw [h_]; rfl)
             obtain rfl := Option.some.inj H
             have hcz47_0 : wc.cell? ⟨gb188, 0, none⟩ = some (.int .i64 a0_0) := (blk_cell BK188.out 0).trans rfl
             have hcz47_1 : wc.cell? ⟨gb188, 1, none⟩ = some (.int .i64 a0_1) := (blk_cell BK188.out 1).trans rfl
             have hcz47_2 : wc.cell? ⟨gb188, 2, none⟩ = some (.slice A0_2 l0_2.length c0_2) := (blk_cell BK188.out 2).trans rfl
             have hcz47_3 : wc.cell? ⟨gb188, 3, none⟩ = some (.slice A0_3 l0_3.length c0_3) := (blk_cell BK188.out 3).trans rfl
             have hcz47_4 : wc.cell? ⟨gb188, 4, none⟩ = some (.slice A0_4 l0_4.length c0_4) := (blk_cell BK188.out 4).trans rfl
             have hcz47_5 : wc.cell? ⟨gb188, 5, none⟩ = some (.int .i64 a0_5) := (blk_cell BK188.out 5).trans rfl
             have hcz47_6 : wc.cell? ⟨gb188, 6, none⟩ = some (.int .i64 a0_6) := (blk_cell BK188.out 6).trans rfl
             have hcz47_7 : wc.cell? ⟨gb188, 7, none⟩ = some (.int .i64 a0_7) := (blk_cell BK188.out 7).trans rfl
             have hfz47_0 := blk_frozen BK188.out 0
             have hfz47_1 := blk_frozen BK188.out 1
             have hfz47_2 := blk_frozen BK188.out 2
             have hfz47_3 := blk_frozen BK188.out 3
             have hfz47_4 := blk_frozen BK188.out 4
             have hfz47_5 := blk_frozen BK188.out 5
             have hfz47_6 := blk_frozen BK188.out 6
             have hfz47_7 := blk_frozen BK188.out 7
             go_wp2
             repeat (go_quiet (fail); try go_wp2)
             go_ret
             lk100_
           ·rw [if_neg c44] at H
            have c44b0 : (a0_5 == 0) = false := beq_eq_false_iff_ne.mpr c44
            have c44b1 : (a0_5 != 0) = true := bne_iff_ne.mpr c44
            obtain rfl := Option.some.inj H
            have hcz48_0 : wc.cell? ⟨gb188, 0, none⟩ = some (.int .i64 a0_0) := (blk_cell BK188.out 0).trans rfl
            have hcz48_1 : wc.cell? ⟨gb188, 1, none⟩ = some (.int .i64 a0_1) := (blk_cell BK188.out 1).trans rfl
            have hcz48_2 : wc.cell? ⟨gb188, 2, none⟩ = some (.slice A0_2 l0_2.length c0_2) := (blk_cell BK188.out 2).trans rfl
            have hcz48_3 : wc.cell? ⟨gb188, 3, none⟩ = some (.slice A0_3 l0_3.length c0_3) := (blk_cell BK188.out 3).trans rfl
            have hcz48_4 : wc.cell? ⟨gb188, 4, none⟩ = some (.slice A0_4 l0_4.length c0_4) := (blk_cell BK188.out 4).trans rfl
            have hcz48_5 : wc.cell? ⟨gb188, 5, none⟩ = some (.int .i64 a0_5) := (blk_cell BK188.out 5).trans rfl
            have hcz48_6 : wc.cell? ⟨gb188, 6, none⟩ = some (.int .i64 a0_6) := (blk_cell BK188.out 6).trans rfl
            have hcz48_7 : wc.cell? ⟨gb188, 7, none⟩ = some (.int .i64 a0_7) := (blk_cell BK188.out 7).trans rfl
            have hfz48_0 := blk_frozen BK188.out 0
            have hfz48_1 := blk_frozen BK188.out 1
            have hfz48_2 := blk_frozen BK188.out 2
            have hfz48_3 := blk_frozen BK188.out 3
            have hfz48_4 := blk_frozen BK188.out 4
            have hfz48_5 := blk_frozen BK188.out 5
            have hfz48_6 := blk_frozen BK188.out 6
            have hfz48_7 := blk_frozen BK188.out 7
            go_wp2
            repeat (go_quiet (fail); try go_wp2)
            go_ret
            lk100_
          ·rw [if_neg c43] at H
           have c43b0 : decide ((l0_3.length : Int) ≤ 20) = false := decide_eq_false c43
           have c43b1 : decide (l0_3.length ≤ 20) = false := decide_eq_false (by omega)
           clear c43
           obtain rfl := Option.some.inj H
           have hcz49_0 : wc.cell? ⟨gb188, 0, none⟩ = some (.int .i64 a0_0) := (blk_cell BK188.out 0).trans rfl
           have hcz49_1 : wc.cell? ⟨gb188, 1, none⟩ = some (.int .i64 a0_1) := (blk_cell BK188.out 1).trans rfl
           have hcz49_2 : wc.cell? ⟨gb188, 2, none⟩ = some (.slice A0_2 l0_2.length c0_2) := (blk_cell BK188.out 2).trans rfl
           have hcz49_3 : wc.cell? ⟨gb188, 3, none⟩ = some (.slice A0_3 l0_3.length c0_3) := (blk_cell BK188.out 3).trans rfl
           have hcz49_4 : wc.cell? ⟨gb188, 4, none⟩ = some (.slice A0_4 l0_4.length c0_4) := (blk_cell BK188.out 4).trans rfl
           have hcz49_5 : wc.cell? ⟨gb188, 5, none⟩ = some (.int .i64 a0_5) := (blk_cell BK188.out 5).trans rfl
           have hcz49_6 : wc.cell? ⟨gb188, 6, none⟩ = some (.int .i64 a0_6) := (blk_cell BK188.out 6).trans rfl
           have hcz49_7 : wc.cell? ⟨gb188, 7, none⟩ = some (.int .i64 a0_7) := (blk_cell BK188.out 7).trans rfl
           have hfz49_0 := blk_frozen BK188.out 0
           have hfz49_1 := blk_frozen BK188.out 1
           have hfz49_2 := blk_frozen BK188.out 2
           have hfz49_3 := blk_frozen BK188.out 3
           have hfz49_4 := blk_frozen BK188.out 4
           have hfz49_5 := blk_frozen BK188.out 5
           have hfz49_6 := blk_frozen BK188.out 6
           have hfz49_7 := blk_frozen BK188.out 7
           go_wp2
           repeat (go_quiet (fail); try go_wp2)
           go_ret
           lk100_
         ·rw [if_neg c42] at H
          have c42b0 : decide ((l0_2.length : Int) ≤ 20) = false := decide_eq_false c42
          have c42b1 : decide (l0_2.length ≤ 20) = false := decide_eq_false (by omega)
          clear c42
          obtain rfl := Option.some.inj H
          have hcz50_0 : wc.cell? ⟨gb188, 0, none⟩ = some (.int .i64 a0_0) := (blk_cell BK188.out 0).trans rfl
          have hcz50_1 : wc.cell? ⟨gb188, 1, none⟩ = some (.int .i64 a0_1) := (blk_cell BK188.out 1).trans rfl
          have hcz50_2 : wc.cell? ⟨gb188, 2, none⟩ = some (.slice A0_2 l0_2.length c0_2) := (blk_cell BK188.out 2).trans rfl
          have hcz50_3 : wc.cell? ⟨gb188, 3, none⟩ = some (.slice A0_3 l0_3.length c0_3) := (blk_cell BK188.out 3).trans rfl
          have hcz50_4 : wc.cell? ⟨gb188, 4, none⟩ = some (.slice A0_4 l0_4.length c0_4) := (blk_cell BK188.out 4).trans rfl
          have hcz50_5 : wc.cell? ⟨gb188, 5, none⟩ = some (.int .i64 a0_5) := (blk_cell BK188.out 5).trans rfl
          have hcz50_6 : wc.cell? ⟨gb188, 6, none⟩ = some (.int .i64 a0_6) := (blk_cell BK188.out 6).trans rfl
          have hcz50_7 : wc.cell? ⟨gb188, 7, none⟩ = some (.int .i64 a0_7) := (blk_cell BK188.out 7).trans rfl
          have hfz50_0 := blk_frozen BK188.out 0
          have hfz50_1 := blk_frozen BK188.out 1
          have hfz50_2 := blk_frozen BK188.out 2
          have hfz50_3 := blk_frozen BK188.out 3
          have hfz50_4 := blk_frozen BK188.out 4
          have hfz50_5 := blk_frozen BK188.out 5
          have hfz50_6 := blk_frozen BK188.out 6
          have hfz50_7 := blk_frozen BK188.out 7
          go_wp2
          repeat (go_quiet (fail); try go_wp2)
          go_ret
          lk100_
        ·rw [if_neg c41] at H
         have c41b0 : decide (a0_1 ≤ 4294967295) = false := decide_eq_false c41
         clear c41
         obtain rfl := Option.some.inj H
         have hcz51_0 : wc.cell? ⟨gb188, 0, none⟩ = some (.int .i64 a0_0) := (blk_cell BK188.out 0).trans rfl
         have hcz51_1 : wc.cell? ⟨gb188, 1, none⟩ = some (.int .i64 a0_1) := (blk_cell BK188.out 1).trans rfl
         have hcz51_2 : wc.cell? ⟨gb188, 2, none⟩ = some (.slice A0_2 l0_2.length c0_2) := (blk_cell BK188.out 2).trans rfl
         have hcz51_3 : wc.cell? ⟨gb188, 3, none⟩ = some (.slice A0_3 l0_3.length c0_3) := (blk_cell BK188.out 3).trans rfl
         have hcz51_4 : wc.cell? ⟨gb188, 4, none⟩ = some (.slice A0_4 l0_4.length c0_4) := (blk_cell BK188.out 4).trans rfl
         have hcz51_5 : wc.cell? ⟨gb188, 5, none⟩ = some (.int .i64 a0_5) := (blk_cell BK188.out 5).trans rfl
         have hcz51_6 : wc.cell? ⟨gb188, 6, none⟩ = some (.int .i64 a0_6) := (blk_cell BK188.out 6).trans rfl
         have hcz51_7 : wc.cell? ⟨gb188, 7, none⟩ = some (.int .i64 a0_7) := (blk_cell BK188.out 7).trans rfl
         have hfz51_0 := blk_frozen BK188.out 0
         have hfz51_1 := blk_frozen BK188.out 1
         have hfz51_2 := blk_frozen BK188.out 2
         have hfz51_3 := blk_frozen BK188.out 3
         have hfz51_4 := blk_frozen BK188.out 4
         have hfz51_5 := blk_frozen BK188.out 5
         have hfz51_6 := blk_frozen BK188.out 6
         have hfz51_7 := blk_frozen BK188.out 7
         go_wp2
         repeat (go_quiet (fail); try go_wp2)
         go_ret
         lk100_
       ·rw [if_neg c40] at H
        have c40b0 : decide (1 ≤ a0_1) = false := decide_eq_false c40
        clear c40
        obtain rfl := Option.some.inj H
        have hcz52_0 : wc.cell? ⟨gb188, 0, none⟩ = some (.int .i64 a0_0) := (blk_cell BK188.out 0).trans rfl
        have hcz52_1 : wc.cell? ⟨gb188, 1, none⟩ = some (.int .i64 a0_1) := (blk_cell BK188.out 1).trans rfl
        have hcz52_2 : wc.cell? ⟨gb188, 2, none⟩ = some (.slice A0_2 l0_2.length c0_2) := (blk_cell BK188.out 2).trans rfl
        have hcz52_3 : wc.cell? ⟨gb188, 3, none⟩ = some (.slice A0_3 l0_3.length c0_3) := (blk_cell BK188.out 3).trans rfl
        have hcz52_4 : wc.cell? ⟨gb188, 4, none⟩ = some (.slice A0_4 l0_4.length c0_4) := (blk_cell BK188.out 4).trans rfl
        have hcz52_5 : wc.cell? ⟨gb188, 5, none⟩ = some (.int .i64 a0_5) := (blk_cell BK188.out 5).trans rfl
        have hcz52_6 : wc.cell? ⟨gb188, 6, none⟩ = some (.int .i64 a0_6) := (blk_cell BK188.out 6).trans rfl
        have hcz52_7 : wc.cell? ⟨gb188, 7, none⟩ = some (.int .i64 a0_7) := (blk_cell BK188.out 7).trans rfl
        have hfz52_0 := blk_frozen BK188.out 0
        have hfz52_1 := blk_frozen BK188.out 1
        have hfz52_2 := blk_frozen BK188.out 2
        have hfz52_3 := blk_frozen BK188.out 3
        have hfz52_4 := blk_frozen BK188.out 4
        have hfz52_5 := blk_frozen BK188.out 5
        have hfz52_6 := blk_frozen BK188.out 6
        have hfz52_7 := blk_frozen BK188.out 7
        go_wp2
        repeat (go_quiet (fail); try go_wp2)
        go_ret
        lk100_
      ·rw [if_neg c39] at H
       have c39b0 : (a0_0 == 1) = false := beq_eq_false_iff_ne.mpr c39
       have c39b1 : (a0_0 != 1) = true := bne_iff_ne.mpr c39
       by_cases c53 : a0_0 = 2
       ·rw [if_pos c53] at H
        have c53b0 : (a0_0 == 2) = true := beq_iff_eq.mpr c53
        have c53b1 : (a0_0 != 2) = false := bne_eq_false_iff_eq.mpr c53
        clear c53
        by_cases c54 : a0_1 ≥ 1
        ·rw [if_pos c54] at H
         have c54b0 : decide (1 ≤ a0_1) = true := decide_eq_true c54
         clear c54
         by_cases c55 : a0_1 ≤ 4294967295
         ·rw [if_pos c55] at H
          have c55b0 : decide (a0_1 ≤ 4294967295) = true := decide_eq_true c55
          clear c55
          by_cases c56 : (l0_2.length : Int) ≤ 20
          ·rw [if_pos c56] at H
           have c56b0 : decide ((l0_2.length : Int) ≤ 20) = true := decide_eq_true c56
           have c56b1 : decide (l0_2.length ≤ 20) = true := decide_eq_true (by omega)
           clear c56
           by_cases c57 : (l0_3.length : Int) ≤ 20
           ·rw [if_pos c57] at H
            have c57b0 : decide ((l0_3.length : Int) ≤ 20) = true := decide_eq_true c57
            have c57b1 : decide (l0_3.length ≤ 20) = true := decide_eq_true (by omega)
            clear c57
            by_cases c58 : a0_5 = 0
            ·rw [if_pos c58] at H
             have c58b0 : (a0_5 == 0) = true := beq_iff_eq.mpr c58
             have c58b1 : (a0_5 != 0) = false := bne_eq_false_iff_eq.mpr c58
             clear c58
             by_cases c59 : (l0_4.length : Int) = 0
             ·rw [if_pos c59] at H
              have c59b0 : ((l0_4.length : Int) == 0) = true := beq_iff_eq.mpr c59
              have c59b1 : ((l0_4.length : Int) != 0) = false := bne_eq_false_iff_eq.mpr c59
              clear c59
              obtain rfl := Option.some.inj H
              have hcz60_0 : wc.cell? ⟨gb188, 0, none⟩ = some (.int .i64 a0_0) := (blk_cell BK188.out 0).trans rfl
              have hcz60_1 : wc.cell? ⟨gb188, 1, none⟩ = some (.int .i64 a0_1) := (blk_cell BK188.out 1).trans rfl
              have hcz60_2 : wc.cell? ⟨gb188, 2, none⟩ = some (.slice A0_2 l0_2.length c0_2) := (blk_cell BK188.out 2).trans rfl
              have hcz60_3 : wc.cell? ⟨gb188, 3, none⟩ = some (.slice A0_3 l0_3.length c0_3) := (blk_cell BK188.out 3).trans rfl
              have hcz60_4 : wc.cell? ⟨gb188, 4, none⟩ = some (.slice A0_4 l0_4.length c0_4) := (blk_cell BK188.out 4).trans rfl
              have hcz60_5 : wc.cell? ⟨gb188, 5, none⟩ = some (.int .i64 a0_5) := (blk_cell BK188.out 5).trans rfl
              have hcz60_6 : wc.cell? ⟨gb188, 6, none⟩ = some (.int .i64 a0_6) := (blk_cell BK188.out 6).trans rfl
              have hcz60_7 : wc.cell? ⟨gb188, 7, none⟩ = some (.int .i64 a0_7) := (blk_cell BK188.out 7).trans rfl
              have hfz60_0 := blk_frozen BK188.out 0
              have hfz60_1 := blk_frozen BK188.out 1
              have hfz60_2 := blk_frozen BK188.out 2
              have hfz60_3 := blk_frozen BK188.out 3
              have hfz60_4 := blk_frozen BK188.out 4
              have hfz60_5 := blk_frozen BK188.out 5
              have hfz60_6 := blk_frozen BK188.out 6
              have hfz60_7 := blk_frozen BK188.out 7
              go_wp2
              repeat (go_quiet (fail); try go_wp2)
              go_ret
              lk100_
             ·rw [if_neg c59] at H
              have c59b0 : ((l0_4.length : Int) == 0) = false := beq_eq_false_iff_ne.mpr c59
              have c59b1 : ((l0_4.length : Int) != 0) = true := bne_iff_ne.mpr c59
              have c59b2 : ¬ (l0_4 = []) := fun h_ => c59 (by rw [h_]; rfl)
              obtain rfl := Option.some.inj H
              have hcz61_0 : wc.cell? ⟨gb188, 0, none⟩ = some (.int .i64 a0_0) := (blk_cell BK188.out 0).trans rfl
              have hcz61_1 : wc.cell? ⟨gb188, 1, none⟩ = some (.int .i64 a0_1) := (blk_cell BK188.out 1).trans rfl
              have hcz61_2 : wc.cell? ⟨gb188, 2, none⟩ = some (.slice A0_2 l0_2.length c0_2) := (blk_cell BK188.out 2).trans rfl
              have hcz61_3 : wc.cell? ⟨gb188, 3, none⟩ = some (.slice A0_3 l0_3.length c0_3) := (blk_cell BK188.out 3).trans rfl
              have hcz61_4 : wc.cell? ⟨gb188, 4, none⟩ = some (.slice A0_4 l0_4.length c0_4) := (blk_cell BK188.out 4).trans rfl
              have hcz61_5 : wc.cell? ⟨gb188, 5, none⟩ = some (.int .i64 a0_5) := (blk_cell BK188.out 5).trans rfl
              have hcz61_6 : wc.cell? ⟨gb188, 6, none⟩ = some (.int .i64 a0_6) := (blk_cell BK188.out 6).trans rfl
              have hcz61_7 : wc.cell? ⟨gb188, 7, none⟩ = some (.int .i64 a0_7) := (blk_cell BK188.out 7).trans rfl
              have hfz61_0 := blk_frozen BK188.out 0
              have hfz61_1 := blk_frozen BK188.out 1
              have hfz61_2 := blk_frozen BK188.out 2
              have hfz61_3 := blk_frozen BK188.out 3
              have hfz61_4 := blk_frozen BK188.out 4
              have hfz61_5 := blk_frozen BK188.out 5
              have hfz61_6 := blk_frozen BK188.out 6
              have hfz61_7 := blk_frozen BK188.out 7
              go_wp2
              repeat (go_quiet (fail); try go_wp2)
              go_ret
              lk100_
            ·rw [if_neg c58] at H
             have c58b0 : (a0_5 == 0) = false := beq_eq_false_iff_ne.mpr c58
             have c58b1 : (a0_5 != 0) = true := bne_iff_ne.mpr c58
             obtain rfl := Option.some.inj H
             have hcz62_0 : wc.cell? ⟨gb188, 0, none⟩ = some (.int .i64 a0_0) := (blk_cell BK188.out 0).trans rfl
             have hcz62_1 : wc.cell? ⟨gb188, 1, none⟩ = some (.int .i64 a0_1) := (blk_cell BK188.out 1).trans rfl
             have hcz62_2 : wc.cell? ⟨gb188, 2, none⟩ = some (.slice A0_2 l0_2.length c0_2) := (blk_cell BK188.out 2).trans rfl
             have hcz62_3 : wc.cell? ⟨gb188, 3, none⟩ = some (.slice A0_3 l0_3.length c0_3) := (blk_cell BK188.out 3).trans rfl
             have hcz62_4 : wc.cell? ⟨gb188, 4, none⟩ = some (.slice A0_4 l0_4.length c0_4) := (blk_cell BK188.out 4).trans rfl
             have hcz62_5 : wc.cell? ⟨gb188, 5, none⟩ = some (.int .i64 a0_5) := (blk_cell BK188.out 5).trans rfl
             have hcz62_6 : wc.cell? ⟨gb188, 6, none⟩ = some (.int .i64 a0_6) := (blk_cell BK188.out 6).trans rfl
             have hcz62_7 : wc.cell? ⟨gb188, 7, none⟩ = some (.int .i64 a0_7) := (blk_cell BK188.out 7).trans rfl
             have hfz62_0 := blk_frozen BK188.out 0
             have hfz62_1 := blk_frozen BK188.out 1
             have hfz62_2 := blk_frozen BK188.out 2
             have hfz62_3 := blk_frozen BK188.out 3
             have hfz62_4 := blk_frozen BK188.out 4
             have hfz62_5 := blk_frozen BK188.out 5
             have hfz62_6 := blk_frozen BK188.out 6
             have hfz62_7 := blk_frozen BK188.out 7
             go_wp2
             repeat (go_quiet (fail); try go_wp2)
             go_ret
             lk100_
           ·rw [if_neg c57] at H
            have c57b0 : decide ((l0_3.length : Int) ≤ 20) = false := decide_eq_false c57
            have c57b1 : decide (l0_3.length ≤ 20) = false := decide_eq_false (by omega)
            clear c57
            obtain rfl := Option.some.inj H
            have hcz63_0 : wc.cell? ⟨gb188, 0, none⟩ = some (.int .i64 a0_0) := (blk_cell BK188.out 0).trans rfl
            have hcz63_1 : wc.cell? ⟨gb188, 1, none⟩ = some (.int .i64 a0_1) := (blk_cell BK188.out 1).trans rfl
            have hcz63_2 : wc.cell? ⟨gb188, 2, none⟩ = some (.slice A0_2 l0_2.length c0_2) := (blk_cell BK188.out 2).trans rfl
            have hcz63_3 : wc.cell? ⟨gb188, 3, none⟩ = some (.slice A0_3 l0_3.length c0_3) := (blk_cell BK188.out 3).trans rfl
            have hcz63_4 : wc.cell? ⟨gb188, 4, none⟩ = some (.slice A0_4 l0_4.length c0_4) := (blk_cell BK188.out 4).trans rfl
            have hcz63_5 : wc.cell? ⟨gb188, 5, none⟩ = some (.int .i64 a0_5) := (blk_cell BK188.out 5).trans rfl
            have hcz63_6 : wc.cell? ⟨gb188, 6, none⟩ = some (.int .i64 a0_6) := (blk_cell BK188.out 6).trans rfl
            have hcz63_7 : wc.cell? ⟨gb188, 7, none⟩ = some (.int .i64 a0_7) := (blk_cell BK188.out 7).trans rfl
            have hfz63_0 := blk_frozen BK188.out 0
            have hfz63_1 := blk_frozen BK188.out 1
            have hfz63_2 := blk_frozen BK188.out 2
            have hfz63_3 := blk_frozen BK188.out 3
            have hfz63_4 := blk_frozen BK188.out 4
            have hfz63_5 := blk_frozen BK188.out 5
            have hfz63_6 := blk_frozen BK188.out 6
            have hfz63_7 := blk_frozen BK188.out 7
            go_wp2
            repeat (go_quiet (fail); try go_wp2)
            go_ret
            lk100_
          ·rw [if_neg c56] at H
           have c56b0 : decide ((l0_2.length : Int) ≤ 20) = false := decide_eq_false c56
           have c56b1 : decide (l0_2.length ≤ 20) = false := decide_eq_false (by omega)
           clear c56
           obtain rfl := Option.some.inj H
           have hcz64_0 : wc.cell? ⟨gb188, 0, none⟩ = some (.int .i64 a0_0) := (blk_cell BK188.out 0).trans rfl
           have hcz64_1 : wc.cell? ⟨gb188, 1, none⟩ = some (.int .i64 a0_1) := (blk_cell BK188.out 1).trans rfl
           have hcz64_2 : wc.cell? ⟨gb188, 2, none⟩ = some (.slice A0_2 l0_2.length c0_2) := (blk_cell BK188.out 2).trans rfl
           have hcz64_3 : wc.cell? ⟨gb188, 3, none⟩ = some (.slice A0_3 l0_3.length c0_3) := (blk_cell BK188.out 3).trans rfl
           have hcz64_4 : wc.cell? ⟨gb188, 4, none⟩ = some (.slice A0_4 l0_4.length c0_4) := (blk_cell BK188.out 4).trans rfl
           have hcz64_5 : wc.cell? ⟨gb188, 5, none⟩ = some (.int .i64 a0_5) := (blk_cell BK188.out 5).trans rfl
           have hcz64_6 : wc.cell? ⟨gb188, 6, none⟩ = some (.int .i64 a0_6) := (blk_cell BK188.out 6).trans rfl
           have hcz64_7 : wc.cell? ⟨gb188, 7, none⟩ = some (.int .i64 a0_7) := (blk_cell BK188.out 7).trans rfl
           have hfz64_0 := blk_frozen BK188.out 0
           have hfz64_1 := blk_frozen BK188.out 1
           have hfz64_2 := blk_frozen BK188.out 2
           have hfz64_3 := blk_frozen BK188.out 3
           have hfz64_4 := blk_frozen BK188.out 4
           have hfz64_5 := blk_frozen BK188.out 5
           have hfz64_6 := blk_frozen BK188.out 6
           have hfz64_7 := blk_frozen BK188.out 7
           go_wp2
           repeat (go_quiet (fail); try go_wp2)
           go_ret
           lk100_
         ·rw [if_neg c55] at H
          have c55b0 : decide (a0_1 ≤ 4294967295) = false := decide_eq_false c55
          clear c55
          obtain rfl := Option.some.inj H
          have hcz65_0 : wc.cell? ⟨gb188, 0, none⟩ = some (.int .i64 a0_0) := (blk_cell BK188.out 0).trans rfl
          have hcz65_1 : wc.cell? ⟨gb188, 1, none⟩ = some (.int .i64 a0_1) := (blk_cell BK188.out 1).trans rfl
          have hcz65_2 : wc.cell? ⟨gb188, 2, none⟩ = some (.slice A0_2 l0_2.length c0_2) := (blk_cell BK188.out 2).trans rfl
          have hcz65_3 : wc.cell? ⟨gb188, 3, none⟩ = some (.slice A0_3 l0_3.length c0_3) := (blk_cell BK188.out 3).trans rfl
          have hcz65_4 : wc.cell? ⟨gb188, 4, none⟩ = some (.slice A0_4 l0_4.length c0_4) := (blk_cell BK188.out 4).trans rfl
          have hcz65_5 : wc.cell? ⟨gb188, 5, none⟩ = some (.int .i64 a0_5) := (blk_cell BK188.out 5).trans rfl
          have hcz65_6 : wc.cell? ⟨gb188, 6, none⟩ = some (.int .i64 a0_6) := (blk_cell BK188.out 6).trans rfl
          have hcz65_7 : wc.cell? ⟨gb188, 7, none⟩ = some (.int .i64 a0_7) := (blk_cell BK188.out 7).trans rfl
          have hfz65_0 := blk_frozen BK188.out 0
          have hfz65_1 := blk_frozen BK188.out 1
          have hfz65_2 := blk_frozen BK188.out 2
          have hfz65_3 := blk_frozen BK188.out 3
          have hfz65_4 := blk_frozen BK188.out 4
          have hfz65_5 := blk_frozen BK188.out 5
          have hfz65_6 := blk_frozen BK188.out 6
          have hfz65_7 := blk_frozen BK188.out 7
          go_wp2
          repeat (go_quiet (fail); try go_wp2)
          go_ret
          lk100_
        ·rw [if_neg c54] at H
         have c54b0 : decide (1 ≤ a0_1) = false := decide_eq_false c54
         clear c54
         obtain rfl := Option.some.inj H
         have hcz66_0 : wc.cell? ⟨gb188, 0, none⟩ = some (.int .i64 a0_0) := (blk_cell BK188.out 0).trans rfl
         have hcz66_1 : wc.cell? ⟨gb188, 1, none⟩ = some (.int .i64 a0_1) := (blk_cell BK188.out 1).trans rfl
         have hcz66_2 : wc.cell? ⟨gb188, 2, none⟩ = some (.slice A0_2 l0_2.length c0_2) := (blk_cell BK188.out 2).trans rfl
         have hcz66_3 : wc.cell? ⟨gb188, 3, none⟩ = some (.slice A0_3 l0_3.length c0_3) := (blk_cell BK188.out 3).trans rfl
         have hcz66_4 : wc.cell? ⟨gb188, 4, none⟩ = some (.slice A0_4 l0_4.length c0_4) := (blk_cell BK188.out 4).trans rfl
         have hcz66_5 : wc.cell? ⟨gb188, 5, none⟩ = some (.int .i64 a0_5) := (blk_cell BK188.out 5).trans rfl
         have hcz66_6 : wc.cell? ⟨gb188, 6, none⟩ = some (.int .i64 a0_6) := (blk_cell BK188.out 6).trans rfl
         have hcz66_7 : wc.cell? ⟨gb188, 7, none⟩ = some (.int .i64 a0_7) := (blk_cell BK188.out 7).trans rfl
         have hfz66_0 := blk_frozen BK188.out 0
         have hfz66_1 := blk_frozen BK188.out 1
         have hfz66_2 := blk_frozen BK188.out 2
         have hfz66_3 := blk_frozen BK188.out 3
         have hfz66_4 := blk_frozen BK188.out 4
         have hfz66_5 := blk_frozen BK188.out 5
         have hfz66_6 := blk_frozen BK188.out 6
         have hfz66_7 := blk_frozen BK188.out 7
         go_wp2
         repeat (go_quiet (fail); try go_wp2)
         go_ret
         lk100_
       ·rw [if_neg c53] at H
        have c53b0 : (a0_0 == 2) = false := beq_eq_false_iff_ne.mpr c53
        have c53b1 : (a0_0 != 2) = true := bne_iff_ne.mpr c53
        obtain rfl := Option.some.inj H
        have hcz67_0 : wc.cell? ⟨gb188, 0, none⟩ = some (.int .i64 a0_0) := (blk_cell BK188.out 0).trans rfl
        have hcz67_1 : wc.cell? ⟨gb188, 1, none⟩ = some (.int .i64 a0_1) := (blk_cell BK188.out 1).trans rfl
        have hcz67_2 : wc.cell? ⟨gb188, 2, none⟩ = some (.slice A0_2 l0_2.length c0_2) := (blk_cell BK188.out 2).trans rfl
        have hcz67_3 : wc.cell? ⟨gb188, 3, none⟩ = some (.slice A0_3 l0_3.length c0_3) := (blk_cell BK188.out 3).trans rfl
        have hcz67_4 : wc.cell? ⟨gb188, 4, none⟩ = some (.slice A0_4 l0_4.length c0_4) := (blk_cell BK188.out 4).trans rfl
        have hcz67_5 : wc.cell? ⟨gb188, 5, none⟩ = some (.int .i64 a0_5) := (blk_cell BK188.out 5).trans rfl
        have hcz67_6 : wc.cell? ⟨gb188, 6, none⟩ = some (.int .i64 a0_6) := (blk_cell BK188.out 6).trans rfl
        have hcz67_7 : wc.cell? ⟨gb188, 7, none⟩ = some (.int .i64 a0_7) := (blk_cell BK188.out 7).trans rfl
        have hfz67_0 := blk_frozen BK188.out 0
        have hfz67_1 := blk_frozen BK188.out 1
        have hfz67_2 := blk_frozen BK188.out 2
        have hfz67_3 := blk_frozen BK188.out 3
        have hfz67_4 := blk_frozen BK188.out 4
        have hfz67_5 := blk_frozen BK188.out 5
        have hfz67_6 := blk_frozen BK188.out 6
        have hfz67_7 := blk_frozen BK188.out 7
        go_wp2
        repeat (go_quiet (fail); try go_wp2)
        go_ret
        lk100_
end Go.Proofs.YtbcleckapamicaaDoor.QHe
