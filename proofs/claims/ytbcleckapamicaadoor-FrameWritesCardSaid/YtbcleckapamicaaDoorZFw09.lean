/- A part of the proof of the law FrameWrites: QFrx5b, QFrx5c. -/
import Derived.Test.YtbcleckapamicaaDoorZFw07
namespace Go.Proofs.YtbcleckapamicaaDoor.QFr
open Go.RowKit Go.Proofs.YtbcleckapamicaaDoorW.PrintWords Go.Proofs.YtbcleckapamicaaDoorW.PrintLast Go.Proofs.YtbcleckapamicaaDoorW.PrintMore
attribute [local go_sem] max2_int min2_int max_two min_two max_three min_three max_four min_four
set_option linter.unusedVariables false
set_option linter.unusedSimpArgs false
open Go.Proofs.YtbcleckapamicaaDoor.QVa (shibbolethref01_Size.f shibbolethref01_Size.calls shibbolethref01_Size.mono)
set_option hygiene false
local macro "pl110_" : term => `((if a0_0 = 7 then (if a0_0 = 0 then (shibbolethref06_Right.j1 kj1 x3_1 (decide (t136 > 0)) false a0_0 a0_1 l0_2 a0_3 l0_4 a0_5) else (if a0_0 = 8 then (shibbolethref06_Right.j1 kj1 x3_1 (decide (t136 > 0)) false a0_0 a0_1 l0_2 a0_3 l0_4 a0_5) else (if a0_0 = 28 then (shibbolethref06_Right.j1 kj1 x3_1 (decide (t136 > 0)) false a0_0 a0_1 l0_2 a0_3 l0_4 a0_5) else (shibbolethref06_Right.j1 kj1 x3_1 (decide (t136 > 0)) (a0_1 != 0) a0_0 a0_1 l0_2 a0_3 l0_4 a0_5)))) else (if a0_0 = 8 then (if a0_0 = 0 then (shibbolethref06_Right.j1 kj1 x3_1 (decide (t136 > 0)) false a0_0 a0_1 l0_2 a0_3 l0_4 a0_5) else (shibbolethref06_Right.j1 kj1 x3_1 (decide (t136 > 0)) false a0_0 a0_1 l0_2 a0_3 l0_4 a0_5)) else (if a0_5 = 0 then (if a0_0 = 0 then (shibbolethref06_Right.j1 kj1 x3_1 (decide (t136 > 0)) false a0_0 a0_1 l0_2 a0_3 l0_4 a0_5) else (if a0_0 = 28 then (shibbolethref06_Right.j1 kj1 x3_1 (decide (t136 > 0)) false a0_0 a0_1 l0_2 a0_3 l0_4 a0_5) else (shibbolethref06_Right.j1 kj1 x3_1 (decide (t136 > 0)) (a0_1 != 0) a0_0 a0_1 l0_2 a0_3 l0_4 a0_5))) else (shibbolethref06_Right.j1 kj1 x3_1 (decide (t136 > 0)) true a0_0 a0_1 l0_2 a0_3 l0_4 a0_5)))))
local macro "pl111_" : term => `((shibbolethref06_Right.j1 kj1 x3_1 (decide (t136 > 0)) true a0_0 a0_1 l0_2 a0_3 l0_4 a0_5))
local macro "pl112_" : term => `((by rw [hg]; exact (below_size (by qc0_)) : w.heap.size ≤ gb135))
local macro "pl113_" : term => `((by first | rfl | (simp; done) | (simp [*]; done)))
local macro "ll110_" : tactic => `(tactic| (exact ⟨by first | rfl | (simp [errW_none, errW_some] <;> rfl) | (simp [*, errW_none, errW_some] <;> rfl), by qb1_ GE135⟩))
set_option hygiene true
set_option maxHeartbeats 8000000 in
set_option maxRecDepth 100000 in
theorem shibbolethref06_Right.callsb (k : Nat) (a0_0 : Int) (a0_1 : Int) (A0_2 : Option Addr) (c0_2 : Nat) (l0_2 : List (S102)) (a0_3 : Int) (A0_4 : Option Addr) (c0_4 : Nat) (l0_4 : List Int) (a0_5 : Int) (r : Bool) (w : World) (hA : a0_0 = 6) (hr0_2 : Kd.C k102 w A0_2 l0_2.length l0_2) (hc0_2 : l0_2.length ≤ c0_2) (hr0_4 : Kd.C (Kd.int .u8) w A0_4 l0_4.length l0_4) (hc0_4 : l0_4.length ≤ c0_4) (h : shibbolethref06_Right.f k a0_0 a0_1 l0_2 a0_3 l0_4 a0_5 = some r) :
  Calls Tryd.prog 44 #[.agg #[.int .i64 a0_0, .int .i64 a0_1, .slice A0_2 l0_2.length c0_2, .int .i64 a0_3, .slice A0_4 l0_4.length c0_4, .int .i64 a0_5]] w fun e w' => e = .returned (.bool r) ∧ Below w.heap.size w w' := by
 have hu62 := Tryd.underlying62
 have hu102 := Tryd.underlying102
 have HR0_2 := Aside0.mk hr0_2
 have HC0_2 := Aside0.mk hc0_2
 clear hr0_2 hc0_2
 have HR0_4 := Aside0.mk hr0_4
 have HC0_4 := Aside0.mk hc0_4
 clear hr0_4 hc0_4
 have HB := Aside0.mk (Below.refl w.heap.size w)
 have H : (if a0_5 ≥ 1 then (shibbolethref06_Right.j0 k (decide (a0_5 ≤ 65536)) a0_0 a0_1 l0_2 a0_3 l0_4 a0_5) else (shibbolethref06_Right.j0 k false a0_0 a0_1 l0_2 a0_3 l0_4 a0_5)) = some r := h
 clear h
 have HC2 := Aside0.mk H
 clear H
 go_enter Tryd.func44, Tryd.ntmps44
 go_upto_region 1 with (first | ((with_reducible refine gate_dst (N := 1) rfl ?_); (try (refine gate_guard (by rfl) ?_; dsimp only)); refine box_event ?hg (N := 1) ?hd (cs := #[.int .i64 a0_0, .int .i64 a0_1, .slice A0_2 l0_2.length c0_2, .int .i64 a0_3, .slice A0_4 l0_4.length c0_4, .int .i64 a0_5]) (t := 62) ?hr ?_; (case hd => rfl); (case hg => rfl); (case hr => first | (go_simp; done) | (go_simp; rfl)); intro gb135 hg w3 hbox hb; have n0_ := Aside0.mk (below_step (by qc0_) hb); have n1_ := Aside0.mk (hbox); have n2_ := Aside0.mk ((pl112_)); have n3_ := Aside0.mk ((pl112_)); clear HB; have HB := n0_; have BK135 := n1_; have GW135 := n2_; have GE135 := n3_; clear n0_ n1_ n2_ n3_; clear hb hbox hg))
 repeat (go_quiet (first | ((with_reducible refine gate_dst (N := 1) rfl ?_); (try (refine gate_guard (by rfl) ?_; dsimp only)); refine box_event ?hg (N := 1) ?hd (cs := #[.int .i64 a0_0, .int .i64 a0_1, .slice A0_2 l0_2.length c0_2, .int .i64 a0_3, .slice A0_4 l0_4.length c0_4, .int .i64 a0_5]) (t := 62) ?hr ?_; (case hd => rfl); (case hg => rfl); (case hr => first | (go_simp; done) | (go_simp; rfl)); intro gb135 hg w3 hbox hb; have n0_ := Aside0.mk (below_step (by qc0_) hb); have n1_ := Aside0.mk (hbox); have n2_ := Aside0.mk ((pl112_)); have n3_ := Aside0.mk ((pl112_)); clear HB; have HB := n0_; have BK135 := n1_; have GW135 := n2_; have GE135 := n3_; clear n0_ n1_ n2_ n3_; clear hb hbox hg)); go_upto_region 1 with (first | ((with_reducible refine gate_dst (N := 1) rfl ?_); (try (refine gate_guard (by rfl) ?_; dsimp only)); refine box_event ?hg (N := 1) ?hd (cs := #[.int .i64 a0_0, .int .i64 a0_1, .slice A0_2 l0_2.length c0_2, .int .i64 a0_3, .slice A0_4 l0_4.length c0_4, .int .i64 a0_5]) (t := 62) ?hr ?_; (case hd => rfl); (case hg => rfl); (case hr => first | (go_simp; done) | (go_simp; rfl)); intro gb135 hg w3 hbox hb; have n0_ := Aside0.mk (below_step (by qc0_) hb); have n1_ := Aside0.mk (hbox); have n2_ := Aside0.mk ((pl112_)); have n3_ := Aside0.mk ((pl112_)); clear HB; have HB := n0_; have BK135 := n1_; have GW135 := n2_; have GE135 := n3_; clear n0_ n1_ n2_ n3_; clear hb hbox hg)))
 (try simp only [Act.put, List.setIfInBounds_toArray, List.set_cons_zero, List.set_cons_succ])
 go_cut [3] (fun v3 wc => ∃ (kq : Nat) (x3_1 : Bool), v3 = .bool x3_1 ∧ Aside0 (shibbolethref06_Right.j0 kq x3_1 a0_0 a0_1 l0_2 a0_3 l0_4 a0_5 = some r) ∧ Aside0 (kq ≤ k) ∧ Aside0 (wc.heap[gb135]? = some (.cells #[.int .i64 a0_0, .int .i64 a0_1, (.slice A0_2 l0_2.length c0_2), .int .i64 a0_3, (.slice A0_4 l0_4.length c0_4), .int .i64 a0_5] 62 (0, 0))) ∧ Aside0 (Below w.heap.size w wc))
 case first =>
  have H := HC2.out
  clear HC2
  by_cases c4 : a0_5 ≥ 1
  ·rw [if_pos c4] at H
   have c4b0 : decide (1 ≤ a0_5) = true := decide_eq_true c4
   clear c4
   (first | rw [c4b0] | (simp only [i64_w, i32_w]; rw [c4b0]) | skip)
   have H' := Aside0.mk H
   clear H
   have hcz5_0 : w3.cell? ⟨gb135, 0, none⟩ = some (.int .i64 a0_0) := (blk_cell BK135.out 0).trans rfl
   have hcz5_1 : w3.cell? ⟨gb135, 1, none⟩ = some (.int .i64 a0_1) := (blk_cell BK135.out 1).trans rfl
   have hcz5_2 : w3.cell? ⟨gb135, 2, none⟩ = some (.slice A0_2 l0_2.length c0_2) := (blk_cell BK135.out 2).trans rfl
   have hcz5_3 : w3.cell? ⟨gb135, 3, none⟩ = some (.int .i64 a0_3) := (blk_cell BK135.out 3).trans rfl
   have hcz5_4 : w3.cell? ⟨gb135, 4, none⟩ = some (.slice A0_4 l0_4.length c0_4) := (blk_cell BK135.out 4).trans rfl
   have hcz5_5 : w3.cell? ⟨gb135, 5, none⟩ = some (.int .i64 a0_5) := (blk_cell BK135.out 5).trans rfl
   have hfz5_0 := blk_frozen BK135.out 0
   have hfz5_1 := blk_frozen BK135.out 1
   have hfz5_2 := blk_frozen BK135.out 2
   have hfz5_3 := blk_frozen BK135.out 3
   have hfz5_4 := blk_frozen BK135.out 4
   have hfz5_5 := blk_frozen BK135.out 5
   go_wp2
   repeat (go_quiet (fail); try go_wp2)
   go_meet
   case rel => exact ⟨_, (decide (a0_5 ≤ 65536)), (pl113_), H', ⟨by first | omega | exact Nat.le_refl _⟩, ⟨by qk_; exact BK135.out⟩, ⟨by qb1_ GE135⟩⟩
  ·rw [if_neg c4] at H
   have c4b0 : decide (1 ≤ a0_5) = false := decide_eq_false c4
   clear c4
   (first | rw [c4b0] | (simp only [i64_w, i32_w]; rw [c4b0]) | skip)
   have H' := Aside0.mk H
   clear H
   have hcz6_0 : w3.cell? ⟨gb135, 0, none⟩ = some (.int .i64 a0_0) := (blk_cell BK135.out 0).trans rfl
   have hcz6_1 : w3.cell? ⟨gb135, 1, none⟩ = some (.int .i64 a0_1) := (blk_cell BK135.out 1).trans rfl
   have hcz6_2 : w3.cell? ⟨gb135, 2, none⟩ = some (.slice A0_2 l0_2.length c0_2) := (blk_cell BK135.out 2).trans rfl
   have hcz6_3 : w3.cell? ⟨gb135, 3, none⟩ = some (.int .i64 a0_3) := (blk_cell BK135.out 3).trans rfl
   have hcz6_4 : w3.cell? ⟨gb135, 4, none⟩ = some (.slice A0_4 l0_4.length c0_4) := (blk_cell BK135.out 4).trans rfl
   have hcz6_5 : w3.cell? ⟨gb135, 5, none⟩ = some (.int .i64 a0_5) := (blk_cell BK135.out 5).trans rfl
   have hfz6_0 := blk_frozen BK135.out 0
   have hfz6_1 := blk_frozen BK135.out 1
   have hfz6_2 := blk_frozen BK135.out 2
   have hfz6_3 := blk_frozen BK135.out 3
   have hfz6_4 := blk_frozen BK135.out 4
   have hfz6_5 := blk_frozen BK135.out 5
   go_wp2
   repeat (go_quiet (fail); try go_wp2)
   go_meet
   case rel => exact ⟨_, (false), (pl113_), H', ⟨by first | omega | exact Nat.le_refl _⟩, ⟨by qk_; exact BK135.out⟩, ⟨by qb1_ GE135⟩⟩
 case rest =>
  clear HC2
  try clear p2
  try clear c4
  try clear c4b0
  try clear hcz5_0
  try clear hcz5_1
  try clear hcz5_2
  try clear hcz5_3
  try clear hcz5_4
  try clear hcz5_5
  try clear hcz6_0
  try clear hcz6_1
  try clear hcz6_2
  try clear hcz6_3
  try clear hcz6_4
  try clear hcz6_5
  try clear hfz5_0
  try clear hfz5_1
  try clear hfz5_2
  try clear hfz5_3
  try clear hfz5_4
  try clear hfz5_5
  try clear hfz6_0
  try clear hfz6_1
  try clear hfz6_2
  try clear hfz6_3
  try clear hfz6_4
  try clear hfz6_5
  obtain ⟨kq, x3_1, rfl, HA, HJ1, BK135, HB⟩ := hcut
  cases kq with
  | zero => exact absurd HA.out (by simp [shibbolethref06_Right.j0])
  | succ kj1 =>
   have H := HA.out
   clear HA
   simp only [shibbolethref06_Right.j0] at H
   replace H := Option.bind_eq_some_iff.mp H
   obtain ⟨t136, A70, H⟩ := H
   replace H : (if a0_0 = 2 then (if a0_0 = 6 then (pl110_) else (if a0_3 = 0 then (if (l0_4.length : Int) > 0 then (pl111_) else (pl110_)) else (pl111_))) else (if (l0_2.length : Int) > 0 then (pl111_) else (if a0_0 = 6 then (pl110_) else (if a0_3 = 0 then (if (l0_4.length : Int) > 0 then (pl111_) else (pl110_)) else (pl111_))))) = some r := H
   have A7 := Aside0.mk A70
   clear A70
   have HC8 := Aside0.mk H
   clear H
   have hcz9_0 : wc.cell? ⟨gb135, 0, none⟩ = some (.int .i64 a0_0) := (blk_cell BK135.out 0).trans rfl
   have hcz9_1 : wc.cell? ⟨gb135, 1, none⟩ = some (.int .i64 a0_1) := (blk_cell BK135.out 1).trans rfl
   have hcz9_2 : wc.cell? ⟨gb135, 2, none⟩ = some (.slice A0_2 l0_2.length c0_2) := (blk_cell BK135.out 2).trans rfl
   have hcz9_3 : wc.cell? ⟨gb135, 3, none⟩ = some (.int .i64 a0_3) := (blk_cell BK135.out 3).trans rfl
   have hcz9_4 : wc.cell? ⟨gb135, 4, none⟩ = some (.slice A0_4 l0_4.length c0_4) := (blk_cell BK135.out 4).trans rfl
   have hcz9_5 : wc.cell? ⟨gb135, 5, none⟩ = some (.int .i64 a0_5) := (blk_cell BK135.out 5).trans rfl
   have hfz9_0 := blk_frozen BK135.out 0
   have hfz9_1 := blk_frozen BK135.out 1
   have hfz9_2 := blk_frozen BK135.out 2
   have hfz9_3 := blk_frozen BK135.out 3
   have hfz9_4 := blk_frozen BK135.out 4
   have hfz9_5 := blk_frozen BK135.out 5
   go_upto_region 3 with (first | (go_at_call 25; (with_reducible refine (shibbolethref01_Size.calls kj1 a0_1 t136 _ A7.out).mono ?_); rintro e w' ⟨rfl, ⟨nd, rfl⟩⟩; (try first | exact ⟨rfl, _, World.drewN_drewN _ _ _⟩ | exact ⟨rfl, _, Eq.trans (World.drewN_drewN _ _ _) (congrArg (World.drewN _) (Nat.add_assoc _ _ _))⟩)))
   repeat (go_quiet (first | (go_at_call 25; (with_reducible refine (shibbolethref01_Size.calls kj1 a0_1 t136 _ A7.out).mono ?_); rintro e w' ⟨rfl, ⟨nd, rfl⟩⟩; (try first | exact ⟨rfl, _, World.drewN_drewN _ _ _⟩ | exact ⟨rfl, _, Eq.trans (World.drewN_drewN _ _ _) (congrArg (World.drewN _) (Nat.add_assoc _ _ _))⟩))); go_upto_region 3 with (first | (go_at_call 25; (with_reducible refine (shibbolethref01_Size.calls kj1 a0_1 t136 _ A7.out).mono ?_); rintro e w' ⟨rfl, ⟨nd, rfl⟩⟩; (try first | exact ⟨rfl, _, World.drewN_drewN _ _ _⟩ | exact ⟨rfl, _, Eq.trans (World.drewN_drewN _ _ _) (congrArg (World.drewN _) (Nat.add_assoc _ _ _))⟩))))
   (try simp only [Act.put, List.setIfInBounds_toArray, List.set_cons_zero, List.set_cons_succ])
   go_cut [78] (fun v78 wc => ∃ (kq : Nat) (x78_7 : Bool), v78 = .bool x78_7 ∧ Aside0 (shibbolethref06_Right.j1 kq x3_1 (decide (t136 > 0)) x78_7 a0_0 a0_1 l0_2 a0_3 l0_4 a0_5 = some r) ∧ Aside0 (kq ≤ kj1) ∧ Aside0 (wc.heap[gb135]? = some (.cells #[.int .i64 a0_0, .int .i64 a0_1, (.slice A0_2 l0_2.length c0_2), .int .i64 a0_3, (.slice A0_4 l0_4.length c0_4), .int .i64 a0_5] 62 (0, 0))) ∧ Aside0 (Below w.heap.size w wc))
   case first =>
    have H := HC8.out
    clear HC8
    by_cases c10 : a0_0 = 2
    ·exfalso; omega
    ·rw [if_neg c10] at H
     have c10b0 : (a0_0 == 2) = false := beq_eq_false_iff_ne.mpr c10
     have c10b1 : (a0_0 != 2) = true := bne_iff_ne.mpr c10
     (first | rw [c10b0] | (simp only [i64_w, i32_w]; rw [c10b0]) | skip)
     by_cases c54 : (l0_2.length : Int) > 0
     ·rw [if_pos c54] at H
      have c54b0 : decide (0 < (l0_2.length : Int)) = true := decide_eq_true c54
      have c54b1 : decide (0 < l0_2.length) = true := decide_eq_true (by omega)
      clear c54
      have H' := Aside0.mk H
      clear H
      have hcz55_0 : wc.cell? ⟨gb135, 0, none⟩ = some (.int .i64 a0_0) := (blk_cell BK135.out 0).trans rfl
      have hcz55_1 : wc.cell? ⟨gb135, 1, none⟩ = some (.int .i64 a0_1) := (blk_cell BK135.out 1).trans rfl
      have hcz55_2 : wc.cell? ⟨gb135, 2, none⟩ = some (.slice A0_2 l0_2.length c0_2) := (blk_cell BK135.out 2).trans rfl
      have hcz55_3 : wc.cell? ⟨gb135, 3, none⟩ = some (.int .i64 a0_3) := (blk_cell BK135.out 3).trans rfl
      have hcz55_4 : wc.cell? ⟨gb135, 4, none⟩ = some (.slice A0_4 l0_4.length c0_4) := (blk_cell BK135.out 4).trans rfl
      have hcz55_5 : wc.cell? ⟨gb135, 5, none⟩ = some (.int .i64 a0_5) := (blk_cell BK135.out 5).trans rfl
      have hfz55_0 := blk_frozen BK135.out 0
      have hfz55_1 := blk_frozen BK135.out 1
      have hfz55_2 := blk_frozen BK135.out 2
      have hfz55_3 := blk_frozen BK135.out 3
      have hfz55_4 := blk_frozen BK135.out 4
      have hfz55_5 := blk_frozen BK135.out 5
      go_wp2
      repeat (go_quiet (fail); try go_wp2)
      go_meet
      case rel => exact ⟨_, (true), (pl113_), H', ⟨by have := HJ1.out; first | omega | exact Nat.le_refl _⟩, ⟨by qk_; exact BK135.out⟩, ⟨by qb1_ GE135⟩⟩
     ·rw [if_neg c54] at H
      have c54b0 : decide (0 < (l0_2.length : Int)) = false := decide_eq_false c54
      have c54b1 : decide (0 < l0_2.length) = false := decide_eq_false (by omega)
      clear c54
      by_cases c56 : a0_0 = 6
      ·rw [if_pos c56] at H
       have c56b0 : (a0_0 == 6) = true := beq_iff_eq.mpr c56
       have c56b1 : (a0_0 != 6) = false := bne_eq_false_iff_eq.mpr c56
       clear c56
       by_cases c57 : a0_0 = 7
       ·exfalso; omega
       ·rw [if_neg c57] at H
        have c57b0 : (a0_0 == 7) = false := beq_eq_false_iff_ne.mpr c57
        have c57b1 : (a0_0 != 7) = true := bne_iff_ne.mpr c57
        by_cases c65 : a0_0 = 8
        ·exfalso; omega
        ·rw [if_neg c65] at H
         have c65b0 : (a0_0 == 8) = false := beq_eq_false_iff_ne.mpr c65
         have c65b1 : (a0_0 != 8) = true := bne_iff_ne.mpr c65
         by_cases c69 : a0_5 = 0
         ·rw [if_pos c69] at H
          have c69b0 : (a0_5 == 0) = true := beq_iff_eq.mpr c69
          have c69b1 : (a0_5 != 0) = false := bne_eq_false_iff_eq.mpr c69
          clear c69
          by_cases c70 : a0_0 = 0
          ·exfalso; omega
          ·rw [if_neg c70] at H
           have c70b0 : (a0_0 == 0) = false := beq_eq_false_iff_ne.mpr c70
           have c70b1 : (a0_0 != 0) = true := bne_iff_ne.mpr c70
           by_cases c72 : a0_0 = 28
           ·exfalso; omega
           ·rw [if_neg c72] at H
            have c72b0 : (a0_0 == 28) = false := beq_eq_false_iff_ne.mpr c72
            have c72b1 : (a0_0 != 28) = true := bne_iff_ne.mpr c72
            have H' := Aside0.mk H
            clear H
            have hcz74_0 : wc.cell? ⟨gb135, 0, none⟩ = some (.int .i64 a0_0) := (blk_cell BK135.out 0).trans rfl
            have hcz74_1 : wc.cell? ⟨gb135, 1, none⟩ = some (.int .i64 a0_1) := (blk_cell BK135.out 1).trans rfl
            have hcz74_2 : wc.cell? ⟨gb135, 2, none⟩ = some (.slice A0_2 l0_2.length c0_2) := (blk_cell BK135.out 2).trans rfl
            have hcz74_3 : wc.cell? ⟨gb135, 3, none⟩ = some (.int .i64 a0_3) := (blk_cell BK135.out 3).trans rfl
            have hcz74_4 : wc.cell? ⟨gb135, 4, none⟩ = some (.slice A0_4 l0_4.length c0_4) := (blk_cell BK135.out 4).trans rfl
            have hcz74_5 : wc.cell? ⟨gb135, 5, none⟩ = some (.int .i64 a0_5) := (blk_cell BK135.out 5).trans rfl
            have hfz74_0 := blk_frozen BK135.out 0
            have hfz74_1 := blk_frozen BK135.out 1
            have hfz74_2 := blk_frozen BK135.out 2
            have hfz74_3 := blk_frozen BK135.out 3
            have hfz74_4 := blk_frozen BK135.out 4
            have hfz74_5 := blk_frozen BK135.out 5
            go_wp2
            repeat (go_quiet (fail); try go_wp2)
            go_meet
            case rel => exact ⟨_, ((a0_1 != 0)), (pl113_), H', ⟨by have := HJ1.out; first | omega | exact Nat.le_refl _⟩, ⟨by qk_; exact BK135.out⟩, ⟨by qb1_ GE135⟩⟩
         ·rw [if_neg c69] at H
          have c69b0 : (a0_5 == 0) = false := beq_eq_false_iff_ne.mpr c69
          have c69b1 : (a0_5 != 0) = true := bne_iff_ne.mpr c69
          have H' := Aside0.mk H
          clear H
          have hcz75_0 : wc.cell? ⟨gb135, 0, none⟩ = some (.int .i64 a0_0) := (blk_cell BK135.out 0).trans rfl
          have hcz75_1 : wc.cell? ⟨gb135, 1, none⟩ = some (.int .i64 a0_1) := (blk_cell BK135.out 1).trans rfl
          have hcz75_2 : wc.cell? ⟨gb135, 2, none⟩ = some (.slice A0_2 l0_2.length c0_2) := (blk_cell BK135.out 2).trans rfl
          have hcz75_3 : wc.cell? ⟨gb135, 3, none⟩ = some (.int .i64 a0_3) := (blk_cell BK135.out 3).trans rfl
          have hcz75_4 : wc.cell? ⟨gb135, 4, none⟩ = some (.slice A0_4 l0_4.length c0_4) := (blk_cell BK135.out 4).trans rfl
          have hcz75_5 : wc.cell? ⟨gb135, 5, none⟩ = some (.int .i64 a0_5) := (blk_cell BK135.out 5).trans rfl
          have hfz75_0 := blk_frozen BK135.out 0
          have hfz75_1 := blk_frozen BK135.out 1
          have hfz75_2 := blk_frozen BK135.out 2
          have hfz75_3 := blk_frozen BK135.out 3
          have hfz75_4 := blk_frozen BK135.out 4
          have hfz75_5 := blk_frozen BK135.out 5
          go_wp2
          repeat (go_quiet (fail); try go_wp2)
          go_meet
          case rel => exact ⟨_, (true), (pl113_), H', ⟨by have := HJ1.out; first | omega | exact Nat.le_refl _⟩, ⟨by qk_; exact BK135.out⟩, ⟨by qb1_ GE135⟩⟩
      ·exfalso; omega
   case rest =>
    clear HC8
    try clear c1
    try clear p2
    try clear c5
    try clear c6
    try clear c7
    try clear c8
    try clear c9
    try clear c10
    try clear c10b0
    try clear c10b1
    try clear c54
    try clear c54b0
    try clear c54b1
    try clear c56
    try clear c56b0
    try clear c56b1
    try clear c57
    try clear c57b0
    try clear c57b1
    try clear c58
    try clear c58b0
    try clear c58b1
    try clear c60
    try clear c60b0
    try clear c60b1
    try clear c62
    try clear c62b0
    try clear c62b1
    try clear c65
    try clear c65b0
    try clear c65b1
    try clear c66
    try clear c66b0
    try clear c66b1
    try clear c69
    try clear c69b0
    try clear c69b1
    try clear c70
    try clear c70b0
    try clear c70b1
    try clear c72
    try clear c72b0
    try clear c72b1
    try clear c76
    try clear c76b0
    try clear c76b1
    try clear c77
    try clear c77b0
    try clear c77b1
    try clear c79
    try clear c79b0
    try clear c79b1
    try clear c80
    try clear c80b0
    try clear c80b1
    try clear c82
    try clear c82b0
    try clear c82b1
    try clear c84
    try clear c84b0
    try clear c84b1
    try clear c87
    try clear c87b0
    try clear c87b1
    try clear c88
    try clear c88b0
    try clear c88b1
    try clear c91
    try clear c91b0
    try clear c91b1
    try clear c92
    try clear c92b0
    try clear c92b1
    try clear c94
    try clear c94b0
    try clear c94b1
    try clear hcz55_0
    try clear hcz55_1
    try clear hcz55_2
    try clear hcz55_3
    try clear hcz55_4
    try clear hcz55_5
    try clear hcz59_0
    try clear hcz59_1
    try clear hcz59_2
    try clear hcz59_3
    try clear hcz59_4
    try clear hcz59_5
    try clear hcz61_0
    try clear hcz61_1
    try clear hcz61_2
    try clear hcz61_3
    try clear hcz61_4
    try clear hcz61_5
    try clear hcz63_0
    try clear hcz63_1
    try clear hcz63_2
    try clear hcz63_3
    try clear hcz63_4
    try clear hcz63_5
    try clear hcz64_0
    try clear hcz64_1
    try clear hcz64_2
    try clear hcz64_3
    try clear hcz64_4
    try clear hcz64_5
    try clear hcz67_0
    try clear hcz67_1
    try clear hcz67_2
    try clear hcz67_3
    try clear hcz67_4
    try clear hcz67_5
    try clear hcz68_0
    try clear hcz68_1
    try clear hcz68_2
    try clear hcz68_3
    try clear hcz68_4
    try clear hcz68_5
    try clear hcz71_0
    try clear hcz71_1
    try clear hcz71_2
    try clear hcz71_3
    try clear hcz71_4
    try clear hcz71_5
    try clear hcz73_0
    try clear hcz73_1
    try clear hcz73_2
    try clear hcz73_3
    try clear hcz73_4
    try clear hcz73_5
    try clear hcz74_0
    try clear hcz74_1
    try clear hcz74_2
    try clear hcz74_3
    try clear hcz74_4
    try clear hcz74_5
    try clear hcz75_0
    try clear hcz75_1
    try clear hcz75_2
    try clear hcz75_3
    try clear hcz75_4
    try clear hcz75_5
    try clear hcz78_0
    try clear hcz78_1
    try clear hcz78_2
    try clear hcz78_3
    try clear hcz78_4
    try clear hcz78_5
    try clear hcz81_0
    try clear hcz81_1
    try clear hcz81_2
    try clear hcz81_3
    try clear hcz81_4
    try clear hcz81_5
    try clear hcz83_0
    try clear hcz83_1
    try clear hcz83_2
    try clear hcz83_3
    try clear hcz83_4
    try clear hcz83_5
    try clear hcz85_0
    try clear hcz85_1
    try clear hcz85_2
    try clear hcz85_3
    try clear hcz85_4
    try clear hcz85_5
    try clear hcz86_0
    try clear hcz86_1
    try clear hcz86_2
    try clear hcz86_3
    try clear hcz86_4
    try clear hcz86_5
    try clear hcz89_0
    try clear hcz89_1
    try clear hcz89_2
    try clear hcz89_3
    try clear hcz89_4
    try clear hcz89_5
    try clear hcz90_0
    try clear hcz90_1
    try clear hcz90_2
    try clear hcz90_3
    try clear hcz90_4
    try clear hcz90_5
    try clear hcz93_0
    try clear hcz93_1
    try clear hcz93_2
    try clear hcz93_3
    try clear hcz93_4
    try clear hcz93_5
    try clear hcz95_0
    try clear hcz95_1
    try clear hcz95_2
    try clear hcz95_3
    try clear hcz95_4
    try clear hcz95_5
    try clear hcz96_0
    try clear hcz96_1
    try clear hcz96_2
    try clear hcz96_3
    try clear hcz96_4
    try clear hcz96_5
    try clear hcz97_0
    try clear hcz97_1
    try clear hcz97_2
    try clear hcz97_3
    try clear hcz97_4
    try clear hcz97_5
    try clear hcz98_0
    try clear hcz98_1
    try clear hcz98_2
    try clear hcz98_3
    try clear hcz98_4
    try clear hcz98_5
    try clear hfz55_0
    try clear hfz55_1
    try clear hfz55_2
    try clear hfz55_3
    try clear hfz55_4
    try clear hfz55_5
    try clear hfz59_0
    try clear hfz59_1
    try clear hfz59_2
    try clear hfz59_3
    try clear hfz59_4
    try clear hfz59_5
    try clear hfz61_0
    try clear hfz61_1
    try clear hfz61_2
    try clear hfz61_3
    try clear hfz61_4
    try clear hfz61_5
    try clear hfz63_0
    try clear hfz63_1
    try clear hfz63_2
    try clear hfz63_3
    try clear hfz63_4
    try clear hfz63_5
    try clear hfz64_0
    try clear hfz64_1
    try clear hfz64_2
    try clear hfz64_3
    try clear hfz64_4
    try clear hfz64_5
    try clear hfz67_0
    try clear hfz67_1
    try clear hfz67_2
    try clear hfz67_3
    try clear hfz67_4
    try clear hfz67_5
    try clear hfz68_0
    try clear hfz68_1
    try clear hfz68_2
    try clear hfz68_3
    try clear hfz68_4
    try clear hfz68_5
    try clear hfz71_0
    try clear hfz71_1
    try clear hfz71_2
    try clear hfz71_3
    try clear hfz71_4
    try clear hfz71_5
    try clear hfz73_0
    try clear hfz73_1
    try clear hfz73_2
    try clear hfz73_3
    try clear hfz73_4
    try clear hfz73_5
    try clear hfz74_0
    try clear hfz74_1
    try clear hfz74_2
    try clear hfz74_3
    try clear hfz74_4
    try clear hfz74_5
    try clear hfz75_0
    try clear hfz75_1
    try clear hfz75_2
    try clear hfz75_3
    try clear hfz75_4
    try clear hfz75_5
    try clear hfz78_0
    try clear hfz78_1
    try clear hfz78_2
    try clear hfz78_3
    try clear hfz78_4
    try clear hfz78_5
    try clear hfz81_0
    try clear hfz81_1
    try clear hfz81_2
    try clear hfz81_3
    try clear hfz81_4
    try clear hfz81_5
    try clear hfz83_0
    try clear hfz83_1
    try clear hfz83_2
    try clear hfz83_3
    try clear hfz83_4
    try clear hfz83_5
    try clear hfz85_0
    try clear hfz85_1
    try clear hfz85_2
    try clear hfz85_3
    try clear hfz85_4
    try clear hfz85_5
    try clear hfz86_0
    try clear hfz86_1
    try clear hfz86_2
    try clear hfz86_3
    try clear hfz86_4
    try clear hfz86_5
    try clear hfz89_0
    try clear hfz89_1
    try clear hfz89_2
    try clear hfz89_3
    try clear hfz89_4
    try clear hfz89_5
    try clear hfz90_0
    try clear hfz90_1
    try clear hfz90_2
    try clear hfz90_3
    try clear hfz90_4
    try clear hfz90_5
    try clear hfz93_0
    try clear hfz93_1
    try clear hfz93_2
    try clear hfz93_3
    try clear hfz93_4
    try clear hfz93_5
    try clear hfz95_0
    try clear hfz95_1
    try clear hfz95_2
    try clear hfz95_3
    try clear hfz95_4
    try clear hfz95_5
    try clear hfz96_0
    try clear hfz96_1
    try clear hfz96_2
    try clear hfz96_3
    try clear hfz96_4
    try clear hfz96_5
    try clear hfz97_0
    try clear hfz97_1
    try clear hfz97_2
    try clear hfz97_3
    try clear hfz97_4
    try clear hfz97_5
    try clear hfz98_0
    try clear hfz98_1
    try clear hfz98_2
    try clear hfz98_3
    try clear hfz98_4
    try clear hfz98_5
    obtain ⟨kq, x78_7, rfl, HA, HJ7, BK135, HB⟩ := hcut
    cases kq with
    | zero => exact absurd HA.out (by simp [shibbolethref06_Right.j1])
    | succ kj7 =>
     have H := HA.out
     clear HA
     simp only [shibbolethref06_Right.j1] at H
     by_cases c99 : x78_7 = true
     ·subst c99
      have H1 : (some false) = some r := by rw [if_pos rfl] at H; exact H
      clear H
      have H := H1
      clear H1
      obtain rfl := Option.some.inj H
      go_wp2
      repeat (go_quiet (fail); try go_wp2)
      go_ret
      ll110_
     ·replace c99 := Bool.eq_false_iff.mpr c99
      subst c99
      have H1 : (if a0_0 = 0 then (if a0_1 ≥ 1 then (some (decide (a0_1 ≤ 1200))) else (some false)) else (if a0_0 = 1 then (shibbolethref06_Right.j2 kj7 x3_1 (decide (t136 > 0)) a0_0 (a0_0 == 1) a0_0 a0_1 l0_2 a0_3 l0_4 a0_5) else (shibbolethref06_Right.j2 kj7 x3_1 (decide (t136 > 0)) a0_0 (a0_0 == 30) a0_0 a0_1 l0_2 a0_3 l0_4 a0_5))) = some r := by rw [if_neg (show ¬ (false = true) by decide)] at H; exact H
      clear H
      have H := H1
      clear H1
      by_cases c100 : a0_0 = 0
      ·exfalso; omega
      ·rw [if_neg c100] at H
       have c100b0 : (a0_0 == 0) = false := beq_eq_false_iff_ne.mpr c100
       have c100b1 : (a0_0 != 0) = true := bne_iff_ne.mpr c100
       have HC104 := Aside0.mk H
       clear H
       have hcz105_0 : wc.cell? ⟨gb135, 0, none⟩ = some (.int .i64 a0_0) := (blk_cell BK135.out 0).trans rfl
       have hcz105_1 : wc.cell? ⟨gb135, 1, none⟩ = some (.int .i64 a0_1) := (blk_cell BK135.out 1).trans rfl
       have hcz105_2 : wc.cell? ⟨gb135, 2, none⟩ = some (.slice A0_2 l0_2.length c0_2) := (blk_cell BK135.out 2).trans rfl
       have hcz105_3 : wc.cell? ⟨gb135, 3, none⟩ = some (.int .i64 a0_3) := (blk_cell BK135.out 3).trans rfl
       have hcz105_4 : wc.cell? ⟨gb135, 4, none⟩ = some (.slice A0_4 l0_4.length c0_4) := (blk_cell BK135.out 4).trans rfl
       have hcz105_5 : wc.cell? ⟨gb135, 5, none⟩ = some (.int .i64 a0_5) := (blk_cell BK135.out 5).trans rfl
       have hfz105_0 := blk_frozen BK135.out 0
       have hfz105_1 := blk_frozen BK135.out 1
       have hfz105_2 := blk_frozen BK135.out 2
       have hfz105_3 := blk_frozen BK135.out 3
       have hfz105_4 := blk_frozen BK135.out 4
       have hfz105_5 := blk_frozen BK135.out 5
       go_upto_if 91 with (fail)
       repeat (go_quiet (fail); go_upto_if 91 with (fail))
       go_cut [91] (fun v91 wc => ∃ (kq : Nat) (x91_103 : Bool), v91 = .bool x91_103 ∧ Aside0 (shibbolethref06_Right.j2 kq x3_1 (decide (t136 > 0)) a0_0 x91_103 a0_0 a0_1 l0_2 a0_3 l0_4 a0_5 = some r) ∧ Aside0 (kq ≤ kj7) ∧ Aside0 (wc.heap[gb135]? = some (.cells #[.int .i64 a0_0, .int .i64 a0_1, (.slice A0_2 l0_2.length c0_2), .int .i64 a0_3, (.slice A0_4 l0_4.length c0_4), .int .i64 a0_5] 62 (0, 0))) ∧ Aside0 (Below w.heap.size w wc))
       case first =>
        have H := HC104.out
        clear HC104
        by_cases c106 : a0_0 = 1
        ·exfalso; omega
        ·rw [if_neg c106] at H
         have c106b0 : (a0_0 == 1) = false := beq_eq_false_iff_ne.mpr c106
         have c106b1 : (a0_0 != 1) = true := bne_iff_ne.mpr c106
         (first | rw [c106b0] | (simp only [i64_w, i32_w]; rw [c106b0]) | skip)
         have H' := Aside0.mk H
         clear H
         go_wp2
         repeat (go_quiet (fail); try go_wp2)
         go_meet
         case rel => exact ⟨_, ((a0_0 == 30)), (pl113_), H', ⟨by have := HJ1.out; have := HJ7.out; first | omega | exact Nat.le_refl _⟩, ⟨by qk_; exact BK135.out⟩, ⟨by qb1_ GE135⟩⟩
       case rest =>
        clear HC104
        try clear c1
        try clear p2
        try clear c5
        try clear c6
        try clear c7
        try clear c8
        try clear c9
        try clear c10
        try clear c10b0
        try clear c10b1
        try clear c54
        try clear c54b0
        try clear c54b1
        try clear c56
        try clear c56b0
        try clear c56b1
        try clear c57
        try clear c57b0
        try clear c57b1
        try clear c58
        try clear c58b0
        try clear c58b1
        try clear c60
        try clear c60b0
        try clear c60b1
        try clear c62
        try clear c62b0
        try clear c62b1
        try clear c65
        try clear c65b0
        try clear c65b1
        try clear c66
        try clear c66b0
        try clear c66b1
        try clear c69
        try clear c69b0
        try clear c69b1
        try clear c70
        try clear c70b0
        try clear c70b1
        try clear c72
        try clear c72b0
        try clear c72b1
        try clear c76
        try clear c76b0
        try clear c76b1
        try clear c77
        try clear c77b0
        try clear c77b1
        try clear c79
        try clear c79b0
        try clear c79b1
        try clear c80
        try clear c80b0
        try clear c80b1
        try clear c82
        try clear c82b0
        try clear c82b1
        try clear c84
        try clear c84b0
        try clear c84b1
        try clear c87
        try clear c87b0
        try clear c87b1
        try clear c88
        try clear c88b0
        try clear c88b1
        try clear c91
        try clear c91b0
        try clear c91b1
        try clear c92
        try clear c92b0
        try clear c92b1
        try clear c94
        try clear c94b0
        try clear c94b1
        try clear c99
        try clear c100
        try clear c100b0
        try clear c100b1
        try clear c101
        try clear c101b0
        try clear c106
        try clear c106b0
        try clear c106b1
        try clear hcz102_0
        try clear hcz102_1
        try clear hcz102_2
        try clear hcz102_3
        try clear hcz102_4
        try clear hcz102_5
        try clear hcz103_0
        try clear hcz103_1
        try clear hcz103_2
        try clear hcz103_3
        try clear hcz103_4
        try clear hcz103_5
        try clear hcz105_0
        try clear hcz105_1
        try clear hcz105_2
        try clear hcz105_3
        try clear hcz105_4
        try clear hcz105_5
        try clear hcz55_0
        try clear hcz55_1
        try clear hcz55_2
        try clear hcz55_3
        try clear hcz55_4
        try clear hcz55_5
        try clear hcz59_0
        try clear hcz59_1
        try clear hcz59_2
        try clear hcz59_3
        try clear hcz59_4
        try clear hcz59_5
        try clear hcz61_0
        try clear hcz61_1
        try clear hcz61_2
        try clear hcz61_3
        try clear hcz61_4
        try clear hcz61_5
        try clear hcz63_0
        try clear hcz63_1
        try clear hcz63_2
        try clear hcz63_3
        try clear hcz63_4
        try clear hcz63_5
        try clear hcz64_0
        try clear hcz64_1
        try clear hcz64_2
        try clear hcz64_3
        try clear hcz64_4
        try clear hcz64_5
        try clear hcz67_0
        try clear hcz67_1
        try clear hcz67_2
        try clear hcz67_3
        try clear hcz67_4
        try clear hcz67_5
        try clear hcz68_0
        try clear hcz68_1
        try clear hcz68_2
        try clear hcz68_3
        try clear hcz68_4
        try clear hcz68_5
        try clear hcz71_0
        try clear hcz71_1
        try clear hcz71_2
        try clear hcz71_3
        try clear hcz71_4
        try clear hcz71_5
        try clear hcz73_0
        try clear hcz73_1
        try clear hcz73_2
        try clear hcz73_3
        try clear hcz73_4
        try clear hcz73_5
        try clear hcz74_0
        try clear hcz74_1
        try clear hcz74_2
        try clear hcz74_3
        try clear hcz74_4
        try clear hcz74_5
        try clear hcz75_0
        try clear hcz75_1
        try clear hcz75_2
        try clear hcz75_3
        try clear hcz75_4
        try clear hcz75_5
        try clear hcz78_0
        try clear hcz78_1
        try clear hcz78_2
        try clear hcz78_3
        try clear hcz78_4
        try clear hcz78_5
        try clear hcz81_0
        try clear hcz81_1
        try clear hcz81_2
        try clear hcz81_3
        try clear hcz81_4
        try clear hcz81_5
        try clear hcz83_0
        try clear hcz83_1
        try clear hcz83_2
        try clear hcz83_3
        try clear hcz83_4
        try clear hcz83_5
        try clear hcz85_0
        try clear hcz85_1
        try clear hcz85_2
        try clear hcz85_3
        try clear hcz85_4
        try clear hcz85_5
        try clear hcz86_0
        try clear hcz86_1
        try clear hcz86_2
        try clear hcz86_3
        try clear hcz86_4
        try clear hcz86_5
        try clear hcz89_0
        try clear hcz89_1
        try clear hcz89_2
        try clear hcz89_3
        try clear hcz89_4
        try clear hcz89_5
        try clear hcz90_0
        try clear hcz90_1
        try clear hcz90_2
        try clear hcz90_3
        try clear hcz90_4
        try clear hcz90_5
        try clear hcz93_0
        try clear hcz93_1
        try clear hcz93_2
        try clear hcz93_3
        try clear hcz93_4
        try clear hcz93_5
        try clear hcz95_0
        try clear hcz95_1
        try clear hcz95_2
        try clear hcz95_3
        try clear hcz95_4
        try clear hcz95_5
        try clear hcz96_0
        try clear hcz96_1
        try clear hcz96_2
        try clear hcz96_3
        try clear hcz96_4
        try clear hcz96_5
        try clear hcz97_0
        try clear hcz97_1
        try clear hcz97_2
        try clear hcz97_3
        try clear hcz97_4
        try clear hcz97_5
        try clear hcz98_0
        try clear hcz98_1
        try clear hcz98_2
        try clear hcz98_3
        try clear hcz98_4
        try clear hcz98_5
        try clear hfz102_0
        try clear hfz102_1
        try clear hfz102_2
        try clear hfz102_3
        try clear hfz102_4
        try clear hfz102_5
        try clear hfz103_0
        try clear hfz103_1
        try clear hfz103_2
        try clear hfz103_3
        try clear hfz103_4
        try clear hfz103_5
        try clear hfz105_0
        try clear hfz105_1
        try clear hfz105_2
        try clear hfz105_3
        try clear hfz105_4
        try clear hfz105_5
        try clear hfz55_0
        try clear hfz55_1
        try clear hfz55_2
        try clear hfz55_3
        try clear hfz55_4
        try clear hfz55_5
        try clear hfz59_0
        try clear hfz59_1
        try clear hfz59_2
        try clear hfz59_3
        try clear hfz59_4
        try clear hfz59_5
        try clear hfz61_0
        try clear hfz61_1
        try clear hfz61_2
        try clear hfz61_3
        try clear hfz61_4
        try clear hfz61_5
        try clear hfz63_0
        try clear hfz63_1
        try clear hfz63_2
        try clear hfz63_3
        try clear hfz63_4
        try clear hfz63_5
        try clear hfz64_0
        try clear hfz64_1
        try clear hfz64_2
        try clear hfz64_3
        try clear hfz64_4
        try clear hfz64_5
        try clear hfz67_0
        try clear hfz67_1
        try clear hfz67_2
        try clear hfz67_3
        try clear hfz67_4
        try clear hfz67_5
        try clear hfz68_0
        try clear hfz68_1
        try clear hfz68_2
        try clear hfz68_3
        try clear hfz68_4
        try clear hfz68_5
        try clear hfz71_0
        try clear hfz71_1
        try clear hfz71_2
        try clear hfz71_3
        try clear hfz71_4
        try clear hfz71_5
        try clear hfz73_0
        try clear hfz73_1
        try clear hfz73_2
        try clear hfz73_3
        try clear hfz73_4
        try clear hfz73_5
        try clear hfz74_0
        try clear hfz74_1
        try clear hfz74_2
        try clear hfz74_3
        try clear hfz74_4
        try clear hfz74_5
        try clear hfz75_0
        try clear hfz75_1
        try clear hfz75_2
        try clear hfz75_3
        try clear hfz75_4
        try clear hfz75_5
        try clear hfz78_0
        try clear hfz78_1
        try clear hfz78_2
        try clear hfz78_3
        try clear hfz78_4
        try clear hfz78_5
        try clear hfz81_0
        try clear hfz81_1
        try clear hfz81_2
        try clear hfz81_3
        try clear hfz81_4
        try clear hfz81_5
        try clear hfz83_0
        try clear hfz83_1
        try clear hfz83_2
        try clear hfz83_3
        try clear hfz83_4
        try clear hfz83_5
        try clear hfz85_0
        try clear hfz85_1
        try clear hfz85_2
        try clear hfz85_3
        try clear hfz85_4
        try clear hfz85_5
        try clear hfz86_0
        try clear hfz86_1
        try clear hfz86_2
        try clear hfz86_3
        try clear hfz86_4
        try clear hfz86_5
        try clear hfz89_0
        try clear hfz89_1
        try clear hfz89_2
        try clear hfz89_3
        try clear hfz89_4
        try clear hfz89_5
        try clear hfz90_0
        try clear hfz90_1
        try clear hfz90_2
        try clear hfz90_3
        try clear hfz90_4
        try clear hfz90_5
        try clear hfz93_0
        try clear hfz93_1
        try clear hfz93_2
        try clear hfz93_3
        try clear hfz93_4
        try clear hfz93_5
        try clear hfz95_0
        try clear hfz95_1
        try clear hfz95_2
        try clear hfz95_3
        try clear hfz95_4
        try clear hfz95_5
        try clear hfz96_0
        try clear hfz96_1
        try clear hfz96_2
        try clear hfz96_3
        try clear hfz96_4
        try clear hfz96_5
        try clear hfz97_0
        try clear hfz97_1
        try clear hfz97_2
        try clear hfz97_3
        try clear hfz97_4
        try clear hfz97_5
        try clear hfz98_0
        try clear hfz98_1
        try clear hfz98_2
        try clear hfz98_3
        try clear hfz98_4
        try clear hfz98_5
        try clear p2
        obtain ⟨kq, x91_103, rfl, HA, HJ103, BK135, HB⟩ := hcut
        cases kq with
        | zero => exact absurd HA.out (by simp [shibbolethref06_Right.j2])
        | succ kj103 =>
         have H := HA.out
         clear HA
         simp only [shibbolethref06_Right.j2] at H
         by_cases c107 : x91_103 = true
         ·subst c107
          have H1 : (some true) = some r := by rw [if_pos rfl] at H; exact H
          clear H
          have H := H1
          clear H1
          obtain rfl := Option.some.inj H
          go_wp2
          repeat (go_quiet (fail); try go_wp2)
          go_ret
          ll110_
         ·replace c107 := Bool.eq_false_iff.mpr c107
          subst c107
          have H1 : (if a0_0 = 2 then (shibbolethref06_Right.l0 kj103 0 a0_0 a0_1 l0_2 a0_3 l0_4 a0_5) else (if a0_0 = 6 then (if a0_3 ≥ 0 then (if a0_3 ≤ 1048576 then (if (l0_4.length : Int) ≥ 1 then (some (decide ((l0_4.length : Int) ≤ 1000))) else (some false)) else (some false)) else (some false)) else (if a0_0 = 7 then (some x3_1) else (if a0_0 = 8 then (if x3_1 = true then (some (decide (t136 > 0))) else (some false)) else (if a0_0 = 28 then (some (decide (t136 > 0))) else (some false)))))) = some r := by rw [if_neg (show ¬ (false = true) by decide)] at H; exact H
          clear H
          have H := H1
          clear H1
          by_cases c108 : a0_0 = 2
          ·exfalso; omega
          ·rw [if_neg c108] at H
           have c108b0 : (a0_0 == 2) = false := beq_eq_false_iff_ne.mpr c108
           have c108b1 : (a0_0 != 2) = true := bne_iff_ne.mpr c108
           by_cases c143 : a0_0 = 6
           ·rw [if_pos c143] at H
            have c143b0 : (a0_0 == 6) = true := beq_iff_eq.mpr c143
            have c143b1 : (a0_0 != 6) = false := bne_eq_false_iff_eq.mpr c143
            clear c143
            by_cases c144 : a0_3 ≥ 0
            ·rw [if_pos c144] at H
             have c144b0 : decide (0 ≤ a0_3) = true := decide_eq_true c144
             clear c144
             by_cases c145 : a0_3 ≤ 1048576
             ·rw [if_pos c145] at H
              have c145b0 : decide (a0_3 ≤ 1048576) = true := decide_eq_true c145
              clear c145
              by_cases c146 : (l0_4.length : Int) ≥ 1
              ·rw [if_pos c146] at H
               have c146b0 : decide (1 ≤ (l0_4.length : Int)) = true := decide_eq_true c146
               have c146b1 : decide (1 ≤ l0_4.length) = true := decide_eq_true (by omega)
               clear c146
               obtain rfl := Option.some.inj H
               have hcz147_0 : wc.cell? ⟨gb135, 0, none⟩ = some (.int .i64 a0_0) := (blk_cell BK135.out 0).trans rfl
               have hcz147_1 : wc.cell? ⟨gb135, 1, none⟩ = some (.int .i64 a0_1) := (blk_cell BK135.out 1).trans rfl
               have hcz147_2 : wc.cell? ⟨gb135, 2, none⟩ = some (.slice A0_2 l0_2.length c0_2) := (blk_cell BK135.out 2).trans rfl
               have hcz147_3 : wc.cell? ⟨gb135, 3, none⟩ = some (.int .i64 a0_3) := (blk_cell BK135.out 3).trans rfl
               have hcz147_4 : wc.cell? ⟨gb135, 4, none⟩ = some (.slice A0_4 l0_4.length c0_4) := (blk_cell BK135.out 4).trans rfl
               have hcz147_5 : wc.cell? ⟨gb135, 5, none⟩ = some (.int .i64 a0_5) := (blk_cell BK135.out 5).trans rfl
               have hfz147_0 := blk_frozen BK135.out 0
               have hfz147_1 := blk_frozen BK135.out 1
               have hfz147_2 := blk_frozen BK135.out 2
               have hfz147_3 := blk_frozen BK135.out 3
               have hfz147_4 := blk_frozen BK135.out 4
               have hfz147_5 := blk_frozen BK135.out 5
               go_wp2
               repeat (go_quiet (fail); try go_wp2)
               go_ret
               ll110_
              ·rw [if_neg c146] at H
               have c146b0 : decide (1 ≤ (l0_4.length : Int)) = false := decide_eq_false c146
               have c146b1 : decide (1 ≤ l0_4.length) = false := decide_eq_false (by omega)
               clear c146
               obtain rfl := Option.some.inj H
               have hcz148_0 : wc.cell? ⟨gb135, 0, none⟩ = some (.int .i64 a0_0) := (blk_cell BK135.out 0).trans rfl
               have hcz148_1 : wc.cell? ⟨gb135, 1, none⟩ = some (.int .i64 a0_1) := (blk_cell BK135.out 1).trans rfl
               have hcz148_2 : wc.cell? ⟨gb135, 2, none⟩ = some (.slice A0_2 l0_2.length c0_2) := (blk_cell BK135.out 2).trans rfl
               have hcz148_3 : wc.cell? ⟨gb135, 3, none⟩ = some (.int .i64 a0_3) := (blk_cell BK135.out 3).trans rfl
               have hcz148_4 : wc.cell? ⟨gb135, 4, none⟩ = some (.slice A0_4 l0_4.length c0_4) := (blk_cell BK135.out 4).trans rfl
               have hcz148_5 : wc.cell? ⟨gb135, 5, none⟩ = some (.int .i64 a0_5) := (blk_cell BK135.out 5).trans rfl
               have hfz148_0 := blk_frozen BK135.out 0
               have hfz148_1 := blk_frozen BK135.out 1
               have hfz148_2 := blk_frozen BK135.out 2
               have hfz148_3 := blk_frozen BK135.out 3
               have hfz148_4 := blk_frozen BK135.out 4
               have hfz148_5 := blk_frozen BK135.out 5
               go_wp2
               repeat (go_quiet (fail); try go_wp2)
               go_ret
               ll110_
             ·rw [if_neg c145] at H
              have c145b0 : decide (a0_3 ≤ 1048576) = false := decide_eq_false c145
              clear c145
              obtain rfl := Option.some.inj H
              have hcz149_0 : wc.cell? ⟨gb135, 0, none⟩ = some (.int .i64 a0_0) := (blk_cell BK135.out 0).trans rfl
              have hcz149_1 : wc.cell? ⟨gb135, 1, none⟩ = some (.int .i64 a0_1) := (blk_cell BK135.out 1).trans rfl
              have hcz149_2 : wc.cell? ⟨gb135, 2, none⟩ = some (.slice A0_2 l0_2.length c0_2) := (blk_cell BK135.out 2).trans rfl
              have hcz149_3 : wc.cell? ⟨gb135, 3, none⟩ = some (.int .i64 a0_3) := (blk_cell BK135.out 3).trans rfl
              have hcz149_4 : wc.cell? ⟨gb135, 4, none⟩ = some (.slice A0_4 l0_4.length c0_4) := (blk_cell BK135.out 4).trans rfl
              have hcz149_5 : wc.cell? ⟨gb135, 5, none⟩ = some (.int .i64 a0_5) := (blk_cell BK135.out 5).trans rfl
              have hfz149_0 := blk_frozen BK135.out 0
              have hfz149_1 := blk_frozen BK135.out 1
              have hfz149_2 := blk_frozen BK135.out 2
              have hfz149_3 := blk_frozen BK135.out 3
              have hfz149_4 := blk_frozen BK135.out 4
              have hfz149_5 := blk_frozen BK135.out 5
              go_wp2
              repeat (go_quiet (fail); try go_wp2)
              go_ret
              ll110_
            ·rw [if_neg c144] at H
             have c144b0 : decide (0 ≤ a0_3) = false := decide_eq_false c144
             clear c144
             obtain rfl := Option.some.inj H
             have hcz150_0 : wc.cell? ⟨gb135, 0, none⟩ = some (.int .i64 a0_0) := (blk_cell BK135.out 0).trans rfl
             have hcz150_1 : wc.cell? ⟨gb135, 1, none⟩ = some (.int .i64 a0_1) := (blk_cell BK135.out 1).trans rfl
             have hcz150_2 : wc.cell? ⟨gb135, 2, none⟩ = some (.slice A0_2 l0_2.length c0_2) := (blk_cell BK135.out 2).trans rfl
             have hcz150_3 : wc.cell? ⟨gb135, 3, none⟩ = some (.int .i64 a0_3) := (blk_cell BK135.out 3).trans rfl
             have hcz150_4 : wc.cell? ⟨gb135, 4, none⟩ = some (.slice A0_4 l0_4.length c0_4) := (blk_cell BK135.out 4).trans rfl
             have hcz150_5 : wc.cell? ⟨gb135, 5, none⟩ = some (.int .i64 a0_5) := (blk_cell BK135.out 5).trans rfl
             have hfz150_0 := blk_frozen BK135.out 0
             have hfz150_1 := blk_frozen BK135.out 1
             have hfz150_2 := blk_frozen BK135.out 2
             have hfz150_3 := blk_frozen BK135.out 3
             have hfz150_4 := blk_frozen BK135.out 4
             have hfz150_5 := blk_frozen BK135.out 5
             go_wp2
             repeat (go_quiet (fail); try go_wp2)
             go_ret
             ll110_
           ·exfalso; omega
end Go.Proofs.YtbcleckapamicaaDoor.QFr
namespace Go.Proofs.YtbcleckapamicaaDoor.QFr
open Go.RowKit Go.Proofs.YtbcleckapamicaaDoorW.PrintWords Go.Proofs.YtbcleckapamicaaDoorW.PrintLast Go.Proofs.YtbcleckapamicaaDoorW.PrintMore
attribute [local go_sem] max2_int min2_int max_two min_two max_three min_three max_four min_four
set_option linter.unusedVariables false
set_option linter.unusedSimpArgs false
open Go.Proofs.YtbcleckapamicaaDoor.QVa (shibbolethref01_Size.f shibbolethref01_Size.calls shibbolethref01_Size.mono)
set_option hygiene false
local macro "pm120_" : term => `((if a0_0 = 7 then (if a0_0 = 0 then (shibbolethref06_Right.j1 kj1 x3_1 (decide (t136 > 0)) false a0_0 a0_1 l0_2 a0_3 l0_4 a0_5) else (if a0_0 = 8 then (shibbolethref06_Right.j1 kj1 x3_1 (decide (t136 > 0)) false a0_0 a0_1 l0_2 a0_3 l0_4 a0_5) else (if a0_0 = 28 then (shibbolethref06_Right.j1 kj1 x3_1 (decide (t136 > 0)) false a0_0 a0_1 l0_2 a0_3 l0_4 a0_5) else (shibbolethref06_Right.j1 kj1 x3_1 (decide (t136 > 0)) (a0_1 != 0) a0_0 a0_1 l0_2 a0_3 l0_4 a0_5)))) else (if a0_0 = 8 then (if a0_0 = 0 then (shibbolethref06_Right.j1 kj1 x3_1 (decide (t136 > 0)) false a0_0 a0_1 l0_2 a0_3 l0_4 a0_5) else (shibbolethref06_Right.j1 kj1 x3_1 (decide (t136 > 0)) false a0_0 a0_1 l0_2 a0_3 l0_4 a0_5)) else (if a0_5 = 0 then (if a0_0 = 0 then (shibbolethref06_Right.j1 kj1 x3_1 (decide (t136 > 0)) false a0_0 a0_1 l0_2 a0_3 l0_4 a0_5) else (if a0_0 = 28 then (shibbolethref06_Right.j1 kj1 x3_1 (decide (t136 > 0)) false a0_0 a0_1 l0_2 a0_3 l0_4 a0_5) else (shibbolethref06_Right.j1 kj1 x3_1 (decide (t136 > 0)) (a0_1 != 0) a0_0 a0_1 l0_2 a0_3 l0_4 a0_5))) else (shibbolethref06_Right.j1 kj1 x3_1 (decide (t136 > 0)) true a0_0 a0_1 l0_2 a0_3 l0_4 a0_5)))))
local macro "pm121_" : term => `((shibbolethref06_Right.j1 kj1 x3_1 (decide (t136 > 0)) true a0_0 a0_1 l0_2 a0_3 l0_4 a0_5))
local macro "pm122_" : term => `((by rw [hg]; exact (below_size (by qc0_)) : w.heap.size ≤ gb135))
local macro "pm123_" : term => `((by first | rfl | (simp; done) | (simp [*]; done)))
local macro "lm120_" : tactic => `(tactic| (exact ⟨by first | rfl | (simp [errW_none, errW_some] <;> rfl) | (simp [*, errW_none, errW_some] <;> rfl), by qb1_ GE135⟩))
set_option hygiene true
set_option maxHeartbeats 8000000 in
set_option maxRecDepth 100000 in
theorem shibbolethref06_Right.callsc (k : Nat) (a0_0 : Int) (a0_1 : Int) (A0_2 : Option Addr) (c0_2 : Nat) (l0_2 : List (S102)) (a0_3 : Int) (A0_4 : Option Addr) (c0_4 : Nat) (l0_4 : List Int) (a0_5 : Int) (r : Bool) (w : World) (hA : a0_0 = 7) (hr0_2 : Kd.C k102 w A0_2 l0_2.length l0_2) (hc0_2 : l0_2.length ≤ c0_2) (hr0_4 : Kd.C (Kd.int .u8) w A0_4 l0_4.length l0_4) (hc0_4 : l0_4.length ≤ c0_4) (h : shibbolethref06_Right.f k a0_0 a0_1 l0_2 a0_3 l0_4 a0_5 = some r) :
  Calls Tryd.prog 44 #[.agg #[.int .i64 a0_0, .int .i64 a0_1, .slice A0_2 l0_2.length c0_2, .int .i64 a0_3, .slice A0_4 l0_4.length c0_4, .int .i64 a0_5]] w fun e w' => e = .returned (.bool r) ∧ Below w.heap.size w w' := by
 have hu62 := Tryd.underlying62
 have hu102 := Tryd.underlying102
 have HR0_2 := Aside0.mk hr0_2
 have HC0_2 := Aside0.mk hc0_2
 clear hr0_2 hc0_2
 have HR0_4 := Aside0.mk hr0_4
 have HC0_4 := Aside0.mk hc0_4
 clear hr0_4 hc0_4
 have HB := Aside0.mk (Below.refl w.heap.size w)
 have H : (if a0_5 ≥ 1 then (shibbolethref06_Right.j0 k (decide (a0_5 ≤ 65536)) a0_0 a0_1 l0_2 a0_3 l0_4 a0_5) else (shibbolethref06_Right.j0 k false a0_0 a0_1 l0_2 a0_3 l0_4 a0_5)) = some r := h
 clear h
 have HC2 := Aside0.mk H
 clear H
 go_enter Tryd.func44, Tryd.ntmps44
 go_upto_region 1 with (first | ((with_reducible refine gate_dst (N := 1) rfl ?_); (try (refine gate_guard (by rfl) ?_; dsimp only)); refine box_event ?hg (N := 1) ?hd (cs := #[.int .i64 a0_0, .int .i64 a0_1, .slice A0_2 l0_2.length c0_2, .int .i64 a0_3, .slice A0_4 l0_4.length c0_4, .int .i64 a0_5]) (t := 62) ?hr ?_; (case hd => rfl); (case hg => rfl); (case hr => first | (go_simp; done) | (go_simp; rfl)); intro gb135 hg w3 hbox hb; have n0_ := Aside0.mk (below_step (by qc0_) hb); have n1_ := Aside0.mk (hbox); have n2_ := Aside0.mk ((pm122_)); have n3_ := Aside0.mk ((pm122_)); clear HB; have HB := n0_; have BK135 := n1_; have GW135 := n2_; have GE135 := n3_; clear n0_ n1_ n2_ n3_; clear hb hbox hg))
 repeat (go_quiet (first | ((with_reducible refine gate_dst (N := 1) rfl ?_); (try (refine gate_guard (by rfl) ?_; dsimp only)); refine box_event ?hg (N := 1) ?hd (cs := #[.int .i64 a0_0, .int .i64 a0_1, .slice A0_2 l0_2.length c0_2, .int .i64 a0_3, .slice A0_4 l0_4.length c0_4, .int .i64 a0_5]) (t := 62) ?hr ?_; (case hd => rfl); (case hg => rfl); (case hr => first | (go_simp; done) | (go_simp; rfl)); intro gb135 hg w3 hbox hb; have n0_ := Aside0.mk (below_step (by qc0_) hb); have n1_ := Aside0.mk (hbox); have n2_ := Aside0.mk ((pm122_)); have n3_ := Aside0.mk ((pm122_)); clear HB; have HB := n0_; have BK135 := n1_; have GW135 := n2_; have GE135 := n3_; clear n0_ n1_ n2_ n3_; clear hb hbox hg)); go_upto_region 1 with (first | ((with_reducible refine gate_dst (N := 1) rfl ?_); (try (refine gate_guard (by rfl) ?_; dsimp only)); refine box_event ?hg (N := 1) ?hd (cs := #[.int .i64 a0_0, .int .i64 a0_1, .slice A0_2 l0_2.length c0_2, .int .i64 a0_3, .slice A0_4 l0_4.length c0_4, .int .i64 a0_5]) (t := 62) ?hr ?_; (case hd => rfl); (case hg => rfl); (case hr => first | (go_simp; done) | (go_simp; rfl)); intro gb135 hg w3 hbox hb; have n0_ := Aside0.mk (below_step (by qc0_) hb); have n1_ := Aside0.mk (hbox); have n2_ := Aside0.mk ((pm122_)); have n3_ := Aside0.mk ((pm122_)); clear HB; have HB := n0_; have BK135 := n1_; have GW135 := n2_; have GE135 := n3_; clear n0_ n1_ n2_ n3_; clear hb hbox hg)))
 (try simp only [Act.put, List.setIfInBounds_toArray, List.set_cons_zero, List.set_cons_succ])
 go_cut [3] (fun v3 wc => ∃ (kq : Nat) (x3_1 : Bool), v3 = .bool x3_1 ∧ Aside0 (shibbolethref06_Right.j0 kq x3_1 a0_0 a0_1 l0_2 a0_3 l0_4 a0_5 = some r) ∧ Aside0 (kq ≤ k) ∧ Aside0 (wc.heap[gb135]? = some (.cells #[.int .i64 a0_0, .int .i64 a0_1, (.slice A0_2 l0_2.length c0_2), .int .i64 a0_3, (.slice A0_4 l0_4.length c0_4), .int .i64 a0_5] 62 (0, 0))) ∧ Aside0 (Below w.heap.size w wc))
 case first =>
  have H := HC2.out
  clear HC2
  by_cases c4 : a0_5 ≥ 1
  ·rw [if_pos c4] at H
   have c4b0 : decide (1 ≤ a0_5) = true := decide_eq_true c4
   clear c4
   (first | rw [c4b0] | (simp only [i64_w, i32_w]; rw [c4b0]) | skip)
   have H' := Aside0.mk H
   clear H
   have hcz5_0 : w3.cell? ⟨gb135, 0, none⟩ = some (.int .i64 a0_0) := (blk_cell BK135.out 0).trans rfl
   have hcz5_1 : w3.cell? ⟨gb135, 1, none⟩ = some (.int .i64 a0_1) := (blk_cell BK135.out 1).trans rfl
   have hcz5_2 : w3.cell? ⟨gb135, 2, none⟩ = some (.slice A0_2 l0_2.length c0_2) := (blk_cell BK135.out 2).trans rfl
   have hcz5_3 : w3.cell? ⟨gb135, 3, none⟩ = some (.int .i64 a0_3) := (blk_cell BK135.out 3).trans rfl
   have hcz5_4 : w3.cell? ⟨gb135, 4, none⟩ = some (.slice A0_4 l0_4.length c0_4) := (blk_cell BK135.out 4).trans rfl
   have hcz5_5 : w3.cell? ⟨gb135, 5, none⟩ = some (.int .i64 a0_5) := (blk_cell BK135.out 5).trans rfl
   have hfz5_0 := blk_frozen BK135.out 0
   have hfz5_1 := blk_frozen BK135.out 1
   have hfz5_2 := blk_frozen BK135.out 2
   have hfz5_3 := blk_frozen BK135.out 3
   have hfz5_4 := blk_frozen BK135.out 4
   have hfz5_5 := blk_frozen BK135.out 5
   go_wp2
   repeat (go_quiet (fail); try go_wp2)
   go_meet
   case rel => exact ⟨_, (decide (a0_5 ≤ 65536)), (pm123_), H', ⟨by first | omega | exact Nat.le_refl _⟩, ⟨by qk_; exact BK135.out⟩, ⟨by qb1_ GE135⟩⟩
  ·rw [if_neg c4] at H
   have c4b0 : decide (1 ≤ a0_5) = false := decide_eq_false c4
   clear c4
   (first | rw [c4b0] | (simp only [i64_w, i32_w]; rw [c4b0]) | skip)
   have H' := Aside0.mk H
   clear H
   have hcz6_0 : w3.cell? ⟨gb135, 0, none⟩ = some (.int .i64 a0_0) := (blk_cell BK135.out 0).trans rfl
   have hcz6_1 : w3.cell? ⟨gb135, 1, none⟩ = some (.int .i64 a0_1) := (blk_cell BK135.out 1).trans rfl
   have hcz6_2 : w3.cell? ⟨gb135, 2, none⟩ = some (.slice A0_2 l0_2.length c0_2) := (blk_cell BK135.out 2).trans rfl
   have hcz6_3 : w3.cell? ⟨gb135, 3, none⟩ = some (.int .i64 a0_3) := (blk_cell BK135.out 3).trans rfl
   have hcz6_4 : w3.cell? ⟨gb135, 4, none⟩ = some (.slice A0_4 l0_4.length c0_4) := (blk_cell BK135.out 4).trans rfl
   have hcz6_5 : w3.cell? ⟨gb135, 5, none⟩ = some (.int .i64 a0_5) := (blk_cell BK135.out 5).trans rfl
   have hfz6_0 := blk_frozen BK135.out 0
   have hfz6_1 := blk_frozen BK135.out 1
   have hfz6_2 := blk_frozen BK135.out 2
   have hfz6_3 := blk_frozen BK135.out 3
   have hfz6_4 := blk_frozen BK135.out 4
   have hfz6_5 := blk_frozen BK135.out 5
   go_wp2
   repeat (go_quiet (fail); try go_wp2)
   go_meet
   case rel => exact ⟨_, (false), (pm123_), H', ⟨by first | omega | exact Nat.le_refl _⟩, ⟨by qk_; exact BK135.out⟩, ⟨by qb1_ GE135⟩⟩
 case rest =>
  clear HC2
  try clear p2
  try clear c4
  try clear c4b0
  try clear hcz5_0
  try clear hcz5_1
  try clear hcz5_2
  try clear hcz5_3
  try clear hcz5_4
  try clear hcz5_5
  try clear hcz6_0
  try clear hcz6_1
  try clear hcz6_2
  try clear hcz6_3
  try clear hcz6_4
  try clear hcz6_5
  try clear hfz5_0
  try clear hfz5_1
  try clear hfz5_2
  try clear hfz5_3
  try clear hfz5_4
  try clear hfz5_5
  try clear hfz6_0
  try clear hfz6_1
  try clear hfz6_2
  try clear hfz6_3
  try clear hfz6_4
  try clear hfz6_5
  obtain ⟨kq, x3_1, rfl, HA, HJ1, BK135, HB⟩ := hcut
  cases kq with
  | zero => exact absurd HA.out (by simp [shibbolethref06_Right.j0])
  | succ kj1 =>
   have H := HA.out
   clear HA
   simp only [shibbolethref06_Right.j0] at H
   replace H := Option.bind_eq_some_iff.mp H
   obtain ⟨t136, A70, H⟩ := H
   replace H : (if a0_0 = 2 then (if a0_0 = 6 then (pm120_) else (if a0_3 = 0 then (if (l0_4.length : Int) > 0 then (pm121_) else (pm120_)) else (pm121_))) else (if (l0_2.length : Int) > 0 then (pm121_) else (if a0_0 = 6 then (pm120_) else (if a0_3 = 0 then (if (l0_4.length : Int) > 0 then (pm121_) else (pm120_)) else (pm121_))))) = some r := H
   have A7 := Aside0.mk A70
   clear A70
   have HC8 := Aside0.mk H
   clear H
   have hcz9_0 : wc.cell? ⟨gb135, 0, none⟩ = some (.int .i64 a0_0) := (blk_cell BK135.out 0).trans rfl
   have hcz9_1 : wc.cell? ⟨gb135, 1, none⟩ = some (.int .i64 a0_1) := (blk_cell BK135.out 1).trans rfl
   have hcz9_2 : wc.cell? ⟨gb135, 2, none⟩ = some (.slice A0_2 l0_2.length c0_2) := (blk_cell BK135.out 2).trans rfl
   have hcz9_3 : wc.cell? ⟨gb135, 3, none⟩ = some (.int .i64 a0_3) := (blk_cell BK135.out 3).trans rfl
   have hcz9_4 : wc.cell? ⟨gb135, 4, none⟩ = some (.slice A0_4 l0_4.length c0_4) := (blk_cell BK135.out 4).trans rfl
   have hcz9_5 : wc.cell? ⟨gb135, 5, none⟩ = some (.int .i64 a0_5) := (blk_cell BK135.out 5).trans rfl
   have hfz9_0 := blk_frozen BK135.out 0
   have hfz9_1 := blk_frozen BK135.out 1
   have hfz9_2 := blk_frozen BK135.out 2
   have hfz9_3 := blk_frozen BK135.out 3
   have hfz9_4 := blk_frozen BK135.out 4
   have hfz9_5 := blk_frozen BK135.out 5
   go_upto_region 3 with (first | (go_at_call 25; (with_reducible refine (shibbolethref01_Size.calls kj1 a0_1 t136 _ A7.out).mono ?_); rintro e w' ⟨rfl, ⟨nd, rfl⟩⟩; (try first | exact ⟨rfl, _, World.drewN_drewN _ _ _⟩ | exact ⟨rfl, _, Eq.trans (World.drewN_drewN _ _ _) (congrArg (World.drewN _) (Nat.add_assoc _ _ _))⟩)))
   repeat (go_quiet (first | (go_at_call 25; (with_reducible refine (shibbolethref01_Size.calls kj1 a0_1 t136 _ A7.out).mono ?_); rintro e w' ⟨rfl, ⟨nd, rfl⟩⟩; (try first | exact ⟨rfl, _, World.drewN_drewN _ _ _⟩ | exact ⟨rfl, _, Eq.trans (World.drewN_drewN _ _ _) (congrArg (World.drewN _) (Nat.add_assoc _ _ _))⟩))); go_upto_region 3 with (first | (go_at_call 25; (with_reducible refine (shibbolethref01_Size.calls kj1 a0_1 t136 _ A7.out).mono ?_); rintro e w' ⟨rfl, ⟨nd, rfl⟩⟩; (try first | exact ⟨rfl, _, World.drewN_drewN _ _ _⟩ | exact ⟨rfl, _, Eq.trans (World.drewN_drewN _ _ _) (congrArg (World.drewN _) (Nat.add_assoc _ _ _))⟩))))
   (try simp only [Act.put, List.setIfInBounds_toArray, List.set_cons_zero, List.set_cons_succ])
   go_cut [78] (fun v78 wc => ∃ (kq : Nat) (x78_7 : Bool), v78 = .bool x78_7 ∧ Aside0 (shibbolethref06_Right.j1 kq x3_1 (decide (t136 > 0)) x78_7 a0_0 a0_1 l0_2 a0_3 l0_4 a0_5 = some r) ∧ Aside0 (kq ≤ kj1) ∧ Aside0 (wc.heap[gb135]? = some (.cells #[.int .i64 a0_0, .int .i64 a0_1, (.slice A0_2 l0_2.length c0_2), .int .i64 a0_3, (.slice A0_4 l0_4.length c0_4), .int .i64 a0_5] 62 (0, 0))) ∧ Aside0 (Below w.heap.size w wc))
   case first =>
    have H := HC8.out
    clear HC8
    by_cases c10 : a0_0 = 2
    ·exfalso; omega
    ·rw [if_neg c10] at H
     have c10b0 : (a0_0 == 2) = false := beq_eq_false_iff_ne.mpr c10
     have c10b1 : (a0_0 != 2) = true := bne_iff_ne.mpr c10
     (first | rw [c10b0] | (simp only [i64_w, i32_w]; rw [c10b0]) | skip)
     by_cases c54 : (l0_2.length : Int) > 0
     ·rw [if_pos c54] at H
      have c54b0 : decide (0 < (l0_2.length : Int)) = true := decide_eq_true c54
      have c54b1 : decide (0 < l0_2.length) = true := decide_eq_true (by omega)
      clear c54
      have H' := Aside0.mk H
      clear H
      have hcz55_0 : wc.cell? ⟨gb135, 0, none⟩ = some (.int .i64 a0_0) := (blk_cell BK135.out 0).trans rfl
      have hcz55_1 : wc.cell? ⟨gb135, 1, none⟩ = some (.int .i64 a0_1) := (blk_cell BK135.out 1).trans rfl
      have hcz55_2 : wc.cell? ⟨gb135, 2, none⟩ = some (.slice A0_2 l0_2.length c0_2) := (blk_cell BK135.out 2).trans rfl
      have hcz55_3 : wc.cell? ⟨gb135, 3, none⟩ = some (.int .i64 a0_3) := (blk_cell BK135.out 3).trans rfl
      have hcz55_4 : wc.cell? ⟨gb135, 4, none⟩ = some (.slice A0_4 l0_4.length c0_4) := (blk_cell BK135.out 4).trans rfl
      have hcz55_5 : wc.cell? ⟨gb135, 5, none⟩ = some (.int .i64 a0_5) := (blk_cell BK135.out 5).trans rfl
      have hfz55_0 := blk_frozen BK135.out 0
      have hfz55_1 := blk_frozen BK135.out 1
      have hfz55_2 := blk_frozen BK135.out 2
      have hfz55_3 := blk_frozen BK135.out 3
      have hfz55_4 := blk_frozen BK135.out 4
      have hfz55_5 := blk_frozen BK135.out 5
      go_wp2
      repeat (go_quiet (fail); try go_wp2)
      go_meet
      case rel => exact ⟨_, (true), (pm123_), H', ⟨by have := HJ1.out; first | omega | exact Nat.le_refl _⟩, ⟨by qk_; exact BK135.out⟩, ⟨by qb1_ GE135⟩⟩
     ·rw [if_neg c54] at H
      have c54b0 : decide (0 < (l0_2.length : Int)) = false := decide_eq_false c54
      have c54b1 : decide (0 < l0_2.length) = false := decide_eq_false (by omega)
      clear c54
      by_cases c56 : a0_0 = 6
      ·exfalso; omega
      ·rw [if_neg c56] at H
       have c56b0 : (a0_0 == 6) = false := beq_eq_false_iff_ne.mpr c56
       have c56b1 : (a0_0 != 6) = true := bne_iff_ne.mpr c56
       by_cases c76 : a0_3 = 0
       ·rw [if_pos c76] at H
        have c76b0 : (a0_3 == 0) = true := beq_iff_eq.mpr c76
        have c76b1 : (a0_3 != 0) = false := bne_eq_false_iff_eq.mpr c76
        clear c76
        by_cases c77 : (l0_4.length : Int) > 0
        ·rw [if_pos c77] at H
         have c77b0 : decide (0 < (l0_4.length : Int)) = true := decide_eq_true c77
         have c77b1 : decide (0 < l0_4.length) = true := decide_eq_true (by omega)
         clear c77
         have H' := Aside0.mk H
         clear H
         have hcz78_0 : wc.cell? ⟨gb135, 0, none⟩ = some (.int .i64 a0_0) := (blk_cell BK135.out 0).trans rfl
         have hcz78_1 : wc.cell? ⟨gb135, 1, none⟩ = some (.int .i64 a0_1) := (blk_cell BK135.out 1).trans rfl
         have hcz78_2 : wc.cell? ⟨gb135, 2, none⟩ = some (.slice A0_2 l0_2.length c0_2) := (blk_cell BK135.out 2).trans rfl
         have hcz78_3 : wc.cell? ⟨gb135, 3, none⟩ = some (.int .i64 a0_3) := (blk_cell BK135.out 3).trans rfl
         have hcz78_4 : wc.cell? ⟨gb135, 4, none⟩ = some (.slice A0_4 l0_4.length c0_4) := (blk_cell BK135.out 4).trans rfl
         have hcz78_5 : wc.cell? ⟨gb135, 5, none⟩ = some (.int .i64 a0_5) := (blk_cell BK135.out 5).trans rfl
         have hfz78_0 := blk_frozen BK135.out 0
         have hfz78_1 := blk_frozen BK135.out 1
         have hfz78_2 := blk_frozen BK135.out 2
         have hfz78_3 := blk_frozen BK135.out 3
         have hfz78_4 := blk_frozen BK135.out 4
         have hfz78_5 := blk_frozen BK135.out 5
         go_wp2
         repeat (go_quiet (fail); try go_wp2)
         go_meet
         case rel => exact ⟨_, (true), (pm123_), H', ⟨by have := HJ1.out; first | omega | exact Nat.le_refl _⟩, ⟨by qk_; exact BK135.out⟩, ⟨by qb1_ GE135⟩⟩
        ·rw [if_neg c77] at H
         have c77b0 : decide (0 < (l0_4.length : Int)) = false := decide_eq_false c77
         have c77b1 : decide (0 < l0_4.length) = false := decide_eq_false (by omega)
         clear c77
         by_cases c79 : a0_0 = 7
         ·rw [if_pos c79] at H
          have c79b0 : (a0_0 == 7) = true := beq_iff_eq.mpr c79
          have c79b1 : (a0_0 != 7) = false := bne_eq_false_iff_eq.mpr c79
          clear c79
          by_cases c80 : a0_0 = 0
          ·exfalso; omega
          ·rw [if_neg c80] at H
           have c80b0 : (a0_0 == 0) = false := beq_eq_false_iff_ne.mpr c80
           have c80b1 : (a0_0 != 0) = true := bne_iff_ne.mpr c80
           by_cases c82 : a0_0 = 8
           ·exfalso; omega
           ·rw [if_neg c82] at H
            have c82b0 : (a0_0 == 8) = false := beq_eq_false_iff_ne.mpr c82
            have c82b1 : (a0_0 != 8) = true := bne_iff_ne.mpr c82
            by_cases c84 : a0_0 = 28
            ·exfalso; omega
            ·rw [if_neg c84] at H
             have c84b0 : (a0_0 == 28) = false := beq_eq_false_iff_ne.mpr c84
             have c84b1 : (a0_0 != 28) = true := bne_iff_ne.mpr c84
             have H' := Aside0.mk H
             clear H
             have hcz86_0 : wc.cell? ⟨gb135, 0, none⟩ = some (.int .i64 a0_0) := (blk_cell BK135.out 0).trans rfl
             have hcz86_1 : wc.cell? ⟨gb135, 1, none⟩ = some (.int .i64 a0_1) := (blk_cell BK135.out 1).trans rfl
             have hcz86_2 : wc.cell? ⟨gb135, 2, none⟩ = some (.slice A0_2 l0_2.length c0_2) := (blk_cell BK135.out 2).trans rfl
             have hcz86_3 : wc.cell? ⟨gb135, 3, none⟩ = some (.int .i64 a0_3) := (blk_cell BK135.out 3).trans rfl
             have hcz86_4 : wc.cell? ⟨gb135, 4, none⟩ = some (.slice A0_4 l0_4.length c0_4) := (blk_cell BK135.out 4).trans rfl
             have hcz86_5 : wc.cell? ⟨gb135, 5, none⟩ = some (.int .i64 a0_5) := (blk_cell BK135.out 5).trans rfl
             have hfz86_0 := blk_frozen BK135.out 0
             have hfz86_1 := blk_frozen BK135.out 1
             have hfz86_2 := blk_frozen BK135.out 2
             have hfz86_3 := blk_frozen BK135.out 3
             have hfz86_4 := blk_frozen BK135.out 4
             have hfz86_5 := blk_frozen BK135.out 5
             go_wp2
             repeat (go_quiet (fail); try go_wp2)
             go_meet
             case rel => exact ⟨_, ((a0_1 != 0)), (pm123_), H', ⟨by have := HJ1.out; first | omega | exact Nat.le_refl _⟩, ⟨by qk_; exact BK135.out⟩, ⟨by qb1_ GE135⟩⟩
         ·exfalso; omega
       ·rw [if_neg c76] at H
        have c76b0 : (a0_3 == 0) = false := beq_eq_false_iff_ne.mpr c76
        have c76b1 : (a0_3 != 0) = true := bne_iff_ne.mpr c76
        have H' := Aside0.mk H
        clear H
        have hcz98_0 : wc.cell? ⟨gb135, 0, none⟩ = some (.int .i64 a0_0) := (blk_cell BK135.out 0).trans rfl
        have hcz98_1 : wc.cell? ⟨gb135, 1, none⟩ = some (.int .i64 a0_1) := (blk_cell BK135.out 1).trans rfl
        have hcz98_2 : wc.cell? ⟨gb135, 2, none⟩ = some (.slice A0_2 l0_2.length c0_2) := (blk_cell BK135.out 2).trans rfl
        have hcz98_3 : wc.cell? ⟨gb135, 3, none⟩ = some (.int .i64 a0_3) := (blk_cell BK135.out 3).trans rfl
        have hcz98_4 : wc.cell? ⟨gb135, 4, none⟩ = some (.slice A0_4 l0_4.length c0_4) := (blk_cell BK135.out 4).trans rfl
        have hcz98_5 : wc.cell? ⟨gb135, 5, none⟩ = some (.int .i64 a0_5) := (blk_cell BK135.out 5).trans rfl
        have hfz98_0 := blk_frozen BK135.out 0
        have hfz98_1 := blk_frozen BK135.out 1
        have hfz98_2 := blk_frozen BK135.out 2
        have hfz98_3 := blk_frozen BK135.out 3
        have hfz98_4 := blk_frozen BK135.out 4
        have hfz98_5 := blk_frozen BK135.out 5
        go_wp2
        repeat (go_quiet (fail); try go_wp2)
        go_meet
        case rel => exact ⟨_, (true), (pm123_), H', ⟨by have := HJ1.out; first | omega | exact Nat.le_refl _⟩, ⟨by qk_; exact BK135.out⟩, ⟨by qb1_ GE135⟩⟩
   case rest =>
    clear HC8
    try clear c1
    try clear p2
    try clear c5
    try clear c6
    try clear c7
    try clear c8
    try clear c9
    try clear c10
    try clear c10b0
    try clear c10b1
    try clear c54
    try clear c54b0
    try clear c54b1
    try clear c56
    try clear c56b0
    try clear c56b1
    try clear c57
    try clear c57b0
    try clear c57b1
    try clear c58
    try clear c58b0
    try clear c58b1
    try clear c60
    try clear c60b0
    try clear c60b1
    try clear c62
    try clear c62b0
    try clear c62b1
    try clear c65
    try clear c65b0
    try clear c65b1
    try clear c66
    try clear c66b0
    try clear c66b1
    try clear c69
    try clear c69b0
    try clear c69b1
    try clear c70
    try clear c70b0
    try clear c70b1
    try clear c72
    try clear c72b0
    try clear c72b1
    try clear c76
    try clear c76b0
    try clear c76b1
    try clear c77
    try clear c77b0
    try clear c77b1
    try clear c79
    try clear c79b0
    try clear c79b1
    try clear c80
    try clear c80b0
    try clear c80b1
    try clear c82
    try clear c82b0
    try clear c82b1
    try clear c84
    try clear c84b0
    try clear c84b1
    try clear c87
    try clear c87b0
    try clear c87b1
    try clear c88
    try clear c88b0
    try clear c88b1
    try clear c91
    try clear c91b0
    try clear c91b1
    try clear c92
    try clear c92b0
    try clear c92b1
    try clear c94
    try clear c94b0
    try clear c94b1
    try clear hcz55_0
    try clear hcz55_1
    try clear hcz55_2
    try clear hcz55_3
    try clear hcz55_4
    try clear hcz55_5
    try clear hcz59_0
    try clear hcz59_1
    try clear hcz59_2
    try clear hcz59_3
    try clear hcz59_4
    try clear hcz59_5
    try clear hcz61_0
    try clear hcz61_1
    try clear hcz61_2
    try clear hcz61_3
    try clear hcz61_4
    try clear hcz61_5
    try clear hcz63_0
    try clear hcz63_1
    try clear hcz63_2
    try clear hcz63_3
    try clear hcz63_4
    try clear hcz63_5
    try clear hcz64_0
    try clear hcz64_1
    try clear hcz64_2
    try clear hcz64_3
    try clear hcz64_4
    try clear hcz64_5
    try clear hcz67_0
    try clear hcz67_1
    try clear hcz67_2
    try clear hcz67_3
    try clear hcz67_4
    try clear hcz67_5
    try clear hcz68_0
    try clear hcz68_1
    try clear hcz68_2
    try clear hcz68_3
    try clear hcz68_4
    try clear hcz68_5
    try clear hcz71_0
    try clear hcz71_1
    try clear hcz71_2
    try clear hcz71_3
    try clear hcz71_4
    try clear hcz71_5
    try clear hcz73_0
    try clear hcz73_1
    try clear hcz73_2
    try clear hcz73_3
    try clear hcz73_4
    try clear hcz73_5
    try clear hcz74_0
    try clear hcz74_1
    try clear hcz74_2
    try clear hcz74_3
    try clear hcz74_4
    try clear hcz74_5
    try clear hcz75_0
    try clear hcz75_1
    try clear hcz75_2
    try clear hcz75_3
    try clear hcz75_4
    try clear hcz75_5
    try clear hcz78_0
    try clear hcz78_1
    try clear hcz78_2
    try clear hcz78_3
    try clear hcz78_4
    try clear hcz78_5
    try clear hcz81_0
    try clear hcz81_1
    try clear hcz81_2
    try clear hcz81_3
    try clear hcz81_4
    try clear hcz81_5
    try clear hcz83_0
    try clear hcz83_1
    try clear hcz83_2
    try clear hcz83_3
    try clear hcz83_4
    try clear hcz83_5
    try clear hcz85_0
    try clear hcz85_1
    try clear hcz85_2
    try clear hcz85_3
    try clear hcz85_4
    try clear hcz85_5
    try clear hcz86_0
    try clear hcz86_1
    try clear hcz86_2
    try clear hcz86_3
    try clear hcz86_4
    try clear hcz86_5
    try clear hcz89_0
    try clear hcz89_1
    try clear hcz89_2
    try clear hcz89_3
    try clear hcz89_4
    try clear hcz89_5
    try clear hcz90_0
    try clear hcz90_1
    try clear hcz90_2
    try clear hcz90_3
    try clear hcz90_4
    try clear hcz90_5
    try clear hcz93_0
    try clear hcz93_1
    try clear hcz93_2
    try clear hcz93_3
    try clear hcz93_4
    try clear hcz93_5
    try clear hcz95_0
    try clear hcz95_1
    try clear hcz95_2
    try clear hcz95_3
    try clear hcz95_4
    try clear hcz95_5
    try clear hcz96_0
    try clear hcz96_1
    try clear hcz96_2
    try clear hcz96_3
    try clear hcz96_4
    try clear hcz96_5
    try clear hcz97_0
    try clear hcz97_1
    try clear hcz97_2
    try clear hcz97_3
    try clear hcz97_4
    try clear hcz97_5
    try clear hcz98_0
    try clear hcz98_1
    try clear hcz98_2
    try clear hcz98_3
    try clear hcz98_4
    try clear hcz98_5
    try clear hfz55_0
    try clear hfz55_1
    try clear hfz55_2
    try clear hfz55_3
    try clear hfz55_4
    try clear hfz55_5
    try clear hfz59_0
    try clear hfz59_1
    try clear hfz59_2
    try clear hfz59_3
    try clear hfz59_4
    try clear hfz59_5
    try clear hfz61_0
    try clear hfz61_1
    try clear hfz61_2
    try clear hfz61_3
    try clear hfz61_4
    try clear hfz61_5
    try clear hfz63_0
    try clear hfz63_1
    try clear hfz63_2
    try clear hfz63_3
    try clear hfz63_4
    try clear hfz63_5
    try clear hfz64_0
    try clear hfz64_1
    try clear hfz64_2
    try clear hfz64_3
    try clear hfz64_4
    try clear hfz64_5
    try clear hfz67_0
    try clear hfz67_1
    try clear hfz67_2
    try clear hfz67_3
    try clear hfz67_4
    try clear hfz67_5
    try clear hfz68_0
    try clear hfz68_1
    try clear hfz68_2
    try clear hfz68_3
    try clear hfz68_4
    try clear hfz68_5
    try clear hfz71_0
    try clear hfz71_1
    try clear hfz71_2
    try clear hfz71_3
    try clear hfz71_4
    try clear hfz71_5
    try clear hfz73_0
    try clear hfz73_1
    try clear hfz73_2
    try clear hfz73_3
    try clear hfz73_4
    try clear hfz73_5
    try clear hfz74_0
    try clear hfz74_1
    try clear hfz74_2
    try clear hfz74_3
    try clear hfz74_4
    try clear hfz74_5
    try clear hfz75_0
    try clear hfz75_1
    try clear hfz75_2
    try clear hfz75_3
    try clear hfz75_4
    try clear hfz75_5
    try clear hfz78_0
    try clear hfz78_1
    try clear hfz78_2
    try clear hfz78_3
    try clear hfz78_4
    try clear hfz78_5
    try clear hfz81_0
    try clear hfz81_1
    try clear hfz81_2
    try clear hfz81_3
    try clear hfz81_4
    try clear hfz81_5
    try clear hfz83_0
    try clear hfz83_1
    try clear hfz83_2
    try clear hfz83_3
    try clear hfz83_4
    try clear hfz83_5
    try clear hfz85_0
    try clear hfz85_1
    try clear hfz85_2
    try clear hfz85_3
    try clear hfz85_4
    try clear hfz85_5
    try clear hfz86_0
    try clear hfz86_1
    try clear hfz86_2
    try clear hfz86_3
    try clear hfz86_4
    try clear hfz86_5
    try clear hfz89_0
    try clear hfz89_1
    try clear hfz89_2
    try clear hfz89_3
    try clear hfz89_4
    try clear hfz89_5
    try clear hfz90_0
    try clear hfz90_1
    try clear hfz90_2
    try clear hfz90_3
    try clear hfz90_4
    try clear hfz90_5
    try clear hfz93_0
    try clear hfz93_1
    try clear hfz93_2
    try clear hfz93_3
    try clear hfz93_4
    try clear hfz93_5
    try clear hfz95_0
    try clear hfz95_1
    try clear hfz95_2
    try clear hfz95_3
    try clear hfz95_4
    try clear hfz95_5
    try clear hfz96_0
    try clear hfz96_1
    try clear hfz96_2
    try clear hfz96_3
    try clear hfz96_4
    try clear hfz96_5
    try clear hfz97_0
    try clear hfz97_1
    try clear hfz97_2
    try clear hfz97_3
    try clear hfz97_4
    try clear hfz97_5
    try clear hfz98_0
    try clear hfz98_1
    try clear hfz98_2
    try clear hfz98_3
    try clear hfz98_4
    try clear hfz98_5
    obtain ⟨kq, x78_7, rfl, HA, HJ7, BK135, HB⟩ := hcut
    cases kq with
    | zero => exact absurd HA.out (by simp [shibbolethref06_Right.j1])
    | succ kj7 =>
     have H := HA.out
     clear HA
     simp only [shibbolethref06_Right.j1] at H
     by_cases c99 : x78_7 = true
     ·subst c99
      have H1 : (some false) = some r := by rw [if_pos rfl] at H; exact H
      clear H
      have H := H1
      clear H1
      obtain rfl := Option.some.inj H
      go_wp2
      repeat (go_quiet (fail); try go_wp2)
      go_ret
      lm120_
     ·replace c99 := Bool.eq_false_iff.mpr c99
      subst c99
      have H1 : (if a0_0 = 0 then (if a0_1 ≥ 1 then (some (decide (a0_1 ≤ 1200))) else (some false)) else (if a0_0 = 1 then (shibbolethref06_Right.j2 kj7 x3_1 (decide (t136 > 0)) a0_0 (a0_0 == 1) a0_0 a0_1 l0_2 a0_3 l0_4 a0_5) else (shibbolethref06_Right.j2 kj7 x3_1 (decide (t136 > 0)) a0_0 (a0_0 == 30) a0_0 a0_1 l0_2 a0_3 l0_4 a0_5))) = some r := by rw [if_neg (show ¬ (false = true) by decide)] at H; exact H
      clear H
      have H := H1
      clear H1
      by_cases c100 : a0_0 = 0
      ·exfalso; omega
      ·rw [if_neg c100] at H
       have c100b0 : (a0_0 == 0) = false := beq_eq_false_iff_ne.mpr c100
       have c100b1 : (a0_0 != 0) = true := bne_iff_ne.mpr c100
       have HC104 := Aside0.mk H
       clear H
       have hcz105_0 : wc.cell? ⟨gb135, 0, none⟩ = some (.int .i64 a0_0) := (blk_cell BK135.out 0).trans rfl
       have hcz105_1 : wc.cell? ⟨gb135, 1, none⟩ = some (.int .i64 a0_1) := (blk_cell BK135.out 1).trans rfl
       have hcz105_2 : wc.cell? ⟨gb135, 2, none⟩ = some (.slice A0_2 l0_2.length c0_2) := (blk_cell BK135.out 2).trans rfl
       have hcz105_3 : wc.cell? ⟨gb135, 3, none⟩ = some (.int .i64 a0_3) := (blk_cell BK135.out 3).trans rfl
       have hcz105_4 : wc.cell? ⟨gb135, 4, none⟩ = some (.slice A0_4 l0_4.length c0_4) := (blk_cell BK135.out 4).trans rfl
       have hcz105_5 : wc.cell? ⟨gb135, 5, none⟩ = some (.int .i64 a0_5) := (blk_cell BK135.out 5).trans rfl
       have hfz105_0 := blk_frozen BK135.out 0
       have hfz105_1 := blk_frozen BK135.out 1
       have hfz105_2 := blk_frozen BK135.out 2
       have hfz105_3 := blk_frozen BK135.out 3
       have hfz105_4 := blk_frozen BK135.out 4
       have hfz105_5 := blk_frozen BK135.out 5
       go_upto_if 91 with (fail)
       repeat (go_quiet (fail); go_upto_if 91 with (fail))
       go_cut [91] (fun v91 wc => ∃ (kq : Nat) (x91_103 : Bool), v91 = .bool x91_103 ∧ Aside0 (shibbolethref06_Right.j2 kq x3_1 (decide (t136 > 0)) a0_0 x91_103 a0_0 a0_1 l0_2 a0_3 l0_4 a0_5 = some r) ∧ Aside0 (kq ≤ kj7) ∧ Aside0 (wc.heap[gb135]? = some (.cells #[.int .i64 a0_0, .int .i64 a0_1, (.slice A0_2 l0_2.length c0_2), .int .i64 a0_3, (.slice A0_4 l0_4.length c0_4), .int .i64 a0_5] 62 (0, 0))) ∧ Aside0 (Below w.heap.size w wc))
       case first =>
        have H := HC104.out
        clear HC104
        by_cases c106 : a0_0 = 1
        ·exfalso; omega
        ·rw [if_neg c106] at H
         have c106b0 : (a0_0 == 1) = false := beq_eq_false_iff_ne.mpr c106
         have c106b1 : (a0_0 != 1) = true := bne_iff_ne.mpr c106
         (first | rw [c106b0] | (simp only [i64_w, i32_w]; rw [c106b0]) | skip)
         have H' := Aside0.mk H
         clear H
         go_wp2
         repeat (go_quiet (fail); try go_wp2)
         go_meet
         case rel => exact ⟨_, ((a0_0 == 30)), (pm123_), H', ⟨by have := HJ1.out; have := HJ7.out; first | omega | exact Nat.le_refl _⟩, ⟨by qk_; exact BK135.out⟩, ⟨by qb1_ GE135⟩⟩
       case rest =>
        clear HC104
        try clear c1
        try clear p2
        try clear c5
        try clear c6
        try clear c7
        try clear c8
        try clear c9
        try clear c10
        try clear c10b0
        try clear c10b1
        try clear c54
        try clear c54b0
        try clear c54b1
        try clear c56
        try clear c56b0
        try clear c56b1
        try clear c57
        try clear c57b0
        try clear c57b1
        try clear c58
        try clear c58b0
        try clear c58b1
        try clear c60
        try clear c60b0
        try clear c60b1
        try clear c62
        try clear c62b0
        try clear c62b1
        try clear c65
        try clear c65b0
        try clear c65b1
        try clear c66
        try clear c66b0
        try clear c66b1
        try clear c69
        try clear c69b0
        try clear c69b1
        try clear c70
        try clear c70b0
        try clear c70b1
        try clear c72
        try clear c72b0
        try clear c72b1
        try clear c76
        try clear c76b0
        try clear c76b1
        try clear c77
        try clear c77b0
        try clear c77b1
        try clear c79
        try clear c79b0
        try clear c79b1
        try clear c80
        try clear c80b0
        try clear c80b1
        try clear c82
        try clear c82b0
        try clear c82b1
        try clear c84
        try clear c84b0
        try clear c84b1
        try clear c87
        try clear c87b0
        try clear c87b1
        try clear c88
        try clear c88b0
        try clear c88b1
        try clear c91
        try clear c91b0
        try clear c91b1
        try clear c92
        try clear c92b0
        try clear c92b1
        try clear c94
        try clear c94b0
        try clear c94b1
        try clear c99
        try clear c100
        try clear c100b0
        try clear c100b1
        try clear c101
        try clear c101b0
        try clear c106
        try clear c106b0
        try clear c106b1
        try clear hcz102_0
        try clear hcz102_1
        try clear hcz102_2
        try clear hcz102_3
        try clear hcz102_4
        try clear hcz102_5
        try clear hcz103_0
        try clear hcz103_1
        try clear hcz103_2
        try clear hcz103_3
        try clear hcz103_4
        try clear hcz103_5
        try clear hcz105_0
        try clear hcz105_1
        try clear hcz105_2
        try clear hcz105_3
        try clear hcz105_4
        try clear hcz105_5
        try clear hcz55_0
        try clear hcz55_1
        try clear hcz55_2
        try clear hcz55_3
        try clear hcz55_4
        try clear hcz55_5
        try clear hcz59_0
        try clear hcz59_1
        try clear hcz59_2
        try clear hcz59_3
        try clear hcz59_4
        try clear hcz59_5
        try clear hcz61_0
        try clear hcz61_1
        try clear hcz61_2
        try clear hcz61_3
        try clear hcz61_4
        try clear hcz61_5
        try clear hcz63_0
        try clear hcz63_1
        try clear hcz63_2
        try clear hcz63_3
        try clear hcz63_4
        try clear hcz63_5
        try clear hcz64_0
        try clear hcz64_1
        try clear hcz64_2
        try clear hcz64_3
        try clear hcz64_4
        try clear hcz64_5
        try clear hcz67_0
        try clear hcz67_1
        try clear hcz67_2
        try clear hcz67_3
        try clear hcz67_4
        try clear hcz67_5
        try clear hcz68_0
        try clear hcz68_1
        try clear hcz68_2
        try clear hcz68_3
        try clear hcz68_4
        try clear hcz68_5
        try clear hcz71_0
        try clear hcz71_1
        try clear hcz71_2
        try clear hcz71_3
        try clear hcz71_4
        try clear hcz71_5
        try clear hcz73_0
        try clear hcz73_1
        try clear hcz73_2
        try clear hcz73_3
        try clear hcz73_4
        try clear hcz73_5
        try clear hcz74_0
        try clear hcz74_1
        try clear hcz74_2
        try clear hcz74_3
        try clear hcz74_4
        try clear hcz74_5
        try clear hcz75_0
        try clear hcz75_1
        try clear hcz75_2
        try clear hcz75_3
        try clear hcz75_4
        try clear hcz75_5
        try clear hcz78_0
        try clear hcz78_1
        try clear hcz78_2
        try clear hcz78_3
        try clear hcz78_4
        try clear hcz78_5
        try clear hcz81_0
        try clear hcz81_1
        try clear hcz81_2
        try clear hcz81_3
        try clear hcz81_4
        try clear hcz81_5
        try clear hcz83_0
        try clear hcz83_1
        try clear hcz83_2
        try clear hcz83_3
        try clear hcz83_4
        try clear hcz83_5
        try clear hcz85_0
        try clear hcz85_1
        try clear hcz85_2
        try clear hcz85_3
        try clear hcz85_4
        try clear hcz85_5
        try clear hcz86_0
        try clear hcz86_1
        try clear hcz86_2
        try clear hcz86_3
        try clear hcz86_4
        try clear hcz86_5
        try clear hcz89_0
        try clear hcz89_1
        try clear hcz89_2
        try clear hcz89_3
        try clear hcz89_4
        try clear hcz89_5
        try clear hcz90_0
        try clear hcz90_1
        try clear hcz90_2
        try clear hcz90_3
        try clear hcz90_4
        try clear hcz90_5
        try clear hcz93_0
        try clear hcz93_1
        try clear hcz93_2
        try clear hcz93_3
        try clear hcz93_4
        try clear hcz93_5
        try clear hcz95_0
        try clear hcz95_1
        try clear hcz95_2
        try clear hcz95_3
        try clear hcz95_4
        try clear hcz95_5
        try clear hcz96_0
        try clear hcz96_1
        try clear hcz96_2
        try clear hcz96_3
        try clear hcz96_4
        try clear hcz96_5
        try clear hcz97_0
        try clear hcz97_1
        try clear hcz97_2
        try clear hcz97_3
        try clear hcz97_4
        try clear hcz97_5
        try clear hcz98_0
        try clear hcz98_1
        try clear hcz98_2
        try clear hcz98_3
        try clear hcz98_4
        try clear hcz98_5
        try clear hfz102_0
        try clear hfz102_1
        try clear hfz102_2
        try clear hfz102_3
        try clear hfz102_4
        try clear hfz102_5
        try clear hfz103_0
        try clear hfz103_1
        try clear hfz103_2
        try clear hfz103_3
        try clear hfz103_4
        try clear hfz103_5
        try clear hfz105_0
        try clear hfz105_1
        try clear hfz105_2
        try clear hfz105_3
        try clear hfz105_4
        try clear hfz105_5
        try clear hfz55_0
        try clear hfz55_1
        try clear hfz55_2
        try clear hfz55_3
        try clear hfz55_4
        try clear hfz55_5
        try clear hfz59_0
        try clear hfz59_1
        try clear hfz59_2
        try clear hfz59_3
        try clear hfz59_4
        try clear hfz59_5
        try clear hfz61_0
        try clear hfz61_1
        try clear hfz61_2
        try clear hfz61_3
        try clear hfz61_4
        try clear hfz61_5
        try clear hfz63_0
        try clear hfz63_1
        try clear hfz63_2
        try clear hfz63_3
        try clear hfz63_4
        try clear hfz63_5
        try clear hfz64_0
        try clear hfz64_1
        try clear hfz64_2
        try clear hfz64_3
        try clear hfz64_4
        try clear hfz64_5
        try clear hfz67_0
        try clear hfz67_1
        try clear hfz67_2
        try clear hfz67_3
        try clear hfz67_4
        try clear hfz67_5
        try clear hfz68_0
        try clear hfz68_1
        try clear hfz68_2
        try clear hfz68_3
        try clear hfz68_4
        try clear hfz68_5
        try clear hfz71_0
        try clear hfz71_1
        try clear hfz71_2
        try clear hfz71_3
        try clear hfz71_4
        try clear hfz71_5
        try clear hfz73_0
        try clear hfz73_1
        try clear hfz73_2
        try clear hfz73_3
        try clear hfz73_4
        try clear hfz73_5
        try clear hfz74_0
        try clear hfz74_1
        try clear hfz74_2
        try clear hfz74_3
        try clear hfz74_4
        try clear hfz74_5
        try clear hfz75_0
        try clear hfz75_1
        try clear hfz75_2
        try clear hfz75_3
        try clear hfz75_4
        try clear hfz75_5
        try clear hfz78_0
        try clear hfz78_1
        try clear hfz78_2
        try clear hfz78_3
        try clear hfz78_4
        try clear hfz78_5
        try clear hfz81_0
        try clear hfz81_1
        try clear hfz81_2
        try clear hfz81_3
        try clear hfz81_4
        try clear hfz81_5
        try clear hfz83_0
        try clear hfz83_1
        try clear hfz83_2
        try clear hfz83_3
        try clear hfz83_4
        try clear hfz83_5
        try clear hfz85_0
        try clear hfz85_1
        try clear hfz85_2
        try clear hfz85_3
        try clear hfz85_4
        try clear hfz85_5
        try clear hfz86_0
        try clear hfz86_1
        try clear hfz86_2
        try clear hfz86_3
        try clear hfz86_4
        try clear hfz86_5
        try clear hfz89_0
        try clear hfz89_1
        try clear hfz89_2
        try clear hfz89_3
        try clear hfz89_4
        try clear hfz89_5
        try clear hfz90_0
        try clear hfz90_1
        try clear hfz90_2
        try clear hfz90_3
        try clear hfz90_4
        try clear hfz90_5
        try clear hfz93_0
        try clear hfz93_1
        try clear hfz93_2
        try clear hfz93_3
        try clear hfz93_4
        try clear hfz93_5
        try clear hfz95_0
        try clear hfz95_1
        try clear hfz95_2
        try clear hfz95_3
        try clear hfz95_4
        try clear hfz95_5
        try clear hfz96_0
        try clear hfz96_1
        try clear hfz96_2
        try clear hfz96_3
        try clear hfz96_4
        try clear hfz96_5
        try clear hfz97_0
        try clear hfz97_1
        try clear hfz97_2
        try clear hfz97_3
        try clear hfz97_4
        try clear hfz97_5
        try clear hfz98_0
        try clear hfz98_1
        try clear hfz98_2
        try clear hfz98_3
        try clear hfz98_4
        try clear hfz98_5
        try clear p2
        obtain ⟨kq, x91_103, rfl, HA, HJ103, BK135, HB⟩ := hcut
        cases kq with
        | zero => exact absurd HA.out (by simp [shibbolethref06_Right.j2])
        | succ kj103 =>
         have H := HA.out
         clear HA
         simp only [shibbolethref06_Right.j2] at H
         by_cases c107 : x91_103 = true
         ·subst c107
          have H1 : (some true) = some r := by rw [if_pos rfl] at H; exact H
          clear H
          have H := H1
          clear H1
          obtain rfl := Option.some.inj H
          go_wp2
          repeat (go_quiet (fail); try go_wp2)
          go_ret
          lm120_
         ·replace c107 := Bool.eq_false_iff.mpr c107
          subst c107
          have H1 : (if a0_0 = 2 then (shibbolethref06_Right.l0 kj103 0 a0_0 a0_1 l0_2 a0_3 l0_4 a0_5) else (if a0_0 = 6 then (if a0_3 ≥ 0 then (if a0_3 ≤ 1048576 then (if (l0_4.length : Int) ≥ 1 then (some (decide ((l0_4.length : Int) ≤ 1000))) else (some false)) else (some false)) else (some false)) else (if a0_0 = 7 then (some x3_1) else (if a0_0 = 8 then (if x3_1 = true then (some (decide (t136 > 0))) else (some false)) else (if a0_0 = 28 then (some (decide (t136 > 0))) else (some false)))))) = some r := by rw [if_neg (show ¬ (false = true) by decide)] at H; exact H
          clear H
          have H := H1
          clear H1
          by_cases c108 : a0_0 = 2
          ·exfalso; omega
          ·rw [if_neg c108] at H
           have c108b0 : (a0_0 == 2) = false := beq_eq_false_iff_ne.mpr c108
           have c108b1 : (a0_0 != 2) = true := bne_iff_ne.mpr c108
           by_cases c143 : a0_0 = 6
           ·exfalso; omega
           ·rw [if_neg c143] at H
            have c143b0 : (a0_0 == 6) = false := beq_eq_false_iff_ne.mpr c143
            have c143b1 : (a0_0 != 6) = true := bne_iff_ne.mpr c143
            by_cases c151 : a0_0 = 7
            ·rw [if_pos c151] at H
             have c151b0 : (a0_0 == 7) = true := beq_iff_eq.mpr c151
             have c151b1 : (a0_0 != 7) = false := bne_eq_false_iff_eq.mpr c151
             clear c151
             obtain rfl := Option.some.inj H
             go_wp2
             repeat (go_quiet (fail); try go_wp2)
             go_ret
             lm120_
            ·exfalso; omega
end Go.Proofs.YtbcleckapamicaaDoor.QFr
