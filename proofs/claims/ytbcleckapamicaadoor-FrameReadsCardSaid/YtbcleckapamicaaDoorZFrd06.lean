/- A part of the proof of the law FrameReads: QFrx5a. -/
import Derived.Test.YtbcleckapamicaaDoorZFrd05
namespace Go.Proofs.YtbcleckapamicaaDoor.QFr
open Go.RowKit Go.Proofs.YtbcleckapamicaaDoorW.PrintWords Go.Proofs.YtbcleckapamicaaDoorW.PrintLast Go.Proofs.YtbcleckapamicaaDoorW.PrintMore
attribute [local go_sem] max2_int min2_int max_two min_two max_three min_three max_four min_four
set_option linter.unusedVariables false
set_option linter.unusedSimpArgs false
open Go.Proofs.YtbcleckapamicaaDoor.QVa (shibbolethref01_Size.f shibbolethref01_Size.calls shibbolethref01_Size.mono)
set_option hygiene false
local macro "ol110_" : term => `(.cells #[.int .i64 a0_0, .int .i64 a0_1, (.slice A0_2 l0_2.length c0_2), .int .i64 a0_3, (.slice A0_4 l0_4.length c0_4), .int .i64 a0_5] 62 (0, 0))
local macro "ol111_" : term => `(.cells #[.int .i64 a0_0, .int .i64 a0_1, .slice (some ad137) l0_2.length c0_2, .int .i64 a0_3, .slice A0_4 l0_4.length c0_4, .int .i64 a0_5] 62 (0, 0))
local macro "pl110_" : term => `((if a0_0 = 7 then (if a0_0 = 0 then (shibbolethref06_Right.j1 kj1 x3_1 (decide (t136 > 0)) false a0_0 a0_1 l0_2 a0_3 l0_4 a0_5) else (if a0_0 = 8 then (shibbolethref06_Right.j1 kj1 x3_1 (decide (t136 > 0)) false a0_0 a0_1 l0_2 a0_3 l0_4 a0_5) else (if a0_0 = 28 then (shibbolethref06_Right.j1 kj1 x3_1 (decide (t136 > 0)) false a0_0 a0_1 l0_2 a0_3 l0_4 a0_5) else (shibbolethref06_Right.j1 kj1 x3_1 (decide (t136 > 0)) (a0_1 != 0) a0_0 a0_1 l0_2 a0_3 l0_4 a0_5)))) else (if a0_0 = 8 then (if a0_0 = 0 then (shibbolethref06_Right.j1 kj1 x3_1 (decide (t136 > 0)) false a0_0 a0_1 l0_2 a0_3 l0_4 a0_5) else (shibbolethref06_Right.j1 kj1 x3_1 (decide (t136 > 0)) false a0_0 a0_1 l0_2 a0_3 l0_4 a0_5)) else (if a0_5 = 0 then (if a0_0 = 0 then (shibbolethref06_Right.j1 kj1 x3_1 (decide (t136 > 0)) false a0_0 a0_1 l0_2 a0_3 l0_4 a0_5) else (if a0_0 = 28 then (shibbolethref06_Right.j1 kj1 x3_1 (decide (t136 > 0)) false a0_0 a0_1 l0_2 a0_3 l0_4 a0_5) else (shibbolethref06_Right.j1 kj1 x3_1 (decide (t136 > 0)) (a0_1 != 0) a0_0 a0_1 l0_2 a0_3 l0_4 a0_5))) else (shibbolethref06_Right.j1 kj1 x3_1 (decide (t136 > 0)) true a0_0 a0_1 l0_2 a0_3 l0_4 a0_5)))))
local macro "pl111_" : term => `((by first | rfl | (simp; done) | (simp [*]; done)))
local macro "pl112_" : term => `((by first | (with_reducible assumption) | assumption))
local macro "pl113_" : term => `((shibbolethref06_Right.j1 kj1 x3_1 (decide (t136 > 0)) true a0_0 a0_1 l0_2 a0_3 l0_4 a0_5))
local macro "pl114_" : term => `((by rw [hg]; exact (below_size (by qb1_ GE135)) : w.heap.size ≤ gb138))
local macro "pl115_" : term => `((by rw [hg]; exact (below_size (by qc0_)) : w.heap.size ≤ gb135))
local macro "pl116_" : term => `((by rw [hg]; exact Nat.ne_of_lt (blk_lt (g := gb135) (o := (ol111_)) (by qk_; exact BK135.out)) : gb135 ≠ gb138))
local macro "pl117_" : term => `((by rw [hg]; exact Nat.ne_of_gt (blk_lt (g := gb135) (o := (ol111_)) (by qk_; exact BK135.out)) : gb138 ≠ gb135))
local macro "ll110_" : tactic => `(tactic| ((try simp only [Act.put, List.setIfInBounds_toArray, List.set_cons_zero, List.set_cons_succ])))
local macro "ll111_" : tactic => `(tactic| (exact ⟨by first | rfl | (simp [errW_none, errW_some] <;> rfl) | (simp [*, errW_none, errW_some] <;> rfl), by qb1_ GE135⟩))
local macro "ll112_" : tactic => `(tactic| (obtain ⟨ad140, e140, hx140_0, hx140_1⟩ := at_T102 HR0_2.out (ji127) p140 q140))
local macro "ll113_" : tactic => `(tactic| (replace hx140_0 := (HB.out.cell (World.block_lt_of_cell? w _ hx140_0)).trans hx140_0))
local macro "ll114_" : tactic => `(tactic| (replace hx140_1 := (HB.out.cell (World.block_lt_of_cell? w _ hx140_1)).trans hx140_1))
local macro "ll115_" : tactic => `(tactic| (exact ⟨by first | rfl | (simp [errW_none, errW_some] <;> rfl) | (simp only [← hji127]; first | rfl | (simp [errW_none, errW_some] <;> rfl)) | (simp [*, errW_none, errW_some] <;> rfl), by qb2_ GE135 GE138⟩))
set_option hygiene true
set_option maxHeartbeats 8000000 in
set_option maxRecDepth 100000 in
theorem shibbolethref06_Right.callsa (k : Nat) (a0_0 : Int) (a0_1 : Int) (A0_2 : Option Addr) (c0_2 : Nat) (l0_2 : List (S102)) (a0_3 : Int) (A0_4 : Option Addr) (c0_4 : Nat) (l0_4 : List Int) (a0_5 : Int) (r : Bool) (w : World) (hA : a0_0 = 2) (hr0_2 : Kd.C k102 w A0_2 l0_2.length l0_2) (hc0_2 : l0_2.length ≤ c0_2) (hr0_4 : Kd.C (Kd.int .u8) w A0_4 l0_4.length l0_4) (hc0_4 : l0_4.length ≤ c0_4) (h : shibbolethref06_Right.f k a0_0 a0_1 l0_2 a0_3 l0_4 a0_5 = some r) :
  Calls Tryd.prog 44 #[.agg #[.int .i64 a0_0, .int .i64 a0_1, .slice A0_2 l0_2.length c0_2, .int .i64 a0_3, .slice A0_4 l0_4.length c0_4, .int .i64 a0_5]] w fun e w' => e = .returned (.bool r) ∧ Below w.heap.size w w' := by
 have hu62 := Tryd.underlying62
 have hu102 := Tryd.underlying102
 have HR0_2 := Aside0.mk hr0_2
 have HC0_2 := Aside0.mk hc0_2
 clear hr0_2 hc0_2
 have HR0_4 := Aside0.mk hr0_4
 have HC0_4 := Aside0.mk hc0_4
 clear hr0_4 hc0_4
 have HB := Aside0.mk (Below.refl w.heap.size w)
 have H : (if a0_5 ≥ 1 then (shibbolethref06_Right.j0 k (decide (a0_5 ≤ 65536)) a0_0 a0_1 l0_2 a0_3 l0_4 a0_5) else (shibbolethref06_Right.j0 k false a0_0 a0_1 l0_2 a0_3 l0_4 a0_5)) = some r := h
 clear h
 have HC2 := Aside0.mk H
 clear H
 go_enter Tryd.func44, Tryd.ntmps44
 go_upto_region 1 with (first | ((with_reducible refine gate_dst (N := 1) rfl ?_); (try (refine gate_guard (by rfl) ?_; dsimp only)); refine box_event ?hg (N := 1) ?hd (cs := #[.int .i64 a0_0, .int .i64 a0_1, .slice A0_2 l0_2.length c0_2, .int .i64 a0_3, .slice A0_4 l0_4.length c0_4, .int .i64 a0_5]) (t := 62) ?hr ?_; (case hd => rfl); (case hg => rfl); (case hr => first | (go_simp; done) | (go_simp; rfl)); intro gb135 hg w3 hbox hb; have n0_ := Aside0.mk (below_step (by qc0_) hb); have n1_ := Aside0.mk (hbox); have n2_ := Aside0.mk ((pl115_)); have n3_ := Aside0.mk ((pl115_)); clear HB; have HB := n0_; have BK135 := n1_; have GW135 := n2_; have GE135 := n3_; clear n0_ n1_ n2_ n3_; clear hb hbox hg))
 repeat (go_quiet (first | ((with_reducible refine gate_dst (N := 1) rfl ?_); (try (refine gate_guard (by rfl) ?_; dsimp only)); refine box_event ?hg (N := 1) ?hd (cs := #[.int .i64 a0_0, .int .i64 a0_1, .slice A0_2 l0_2.length c0_2, .int .i64 a0_3, .slice A0_4 l0_4.length c0_4, .int .i64 a0_5]) (t := 62) ?hr ?_; (case hd => rfl); (case hg => rfl); (case hr => first | (go_simp; done) | (go_simp; rfl)); intro gb135 hg w3 hbox hb; have n0_ := Aside0.mk (below_step (by qc0_) hb); have n1_ := Aside0.mk (hbox); have n2_ := Aside0.mk ((pl115_)); have n3_ := Aside0.mk ((pl115_)); clear HB; have HB := n0_; have BK135 := n1_; have GW135 := n2_; have GE135 := n3_; clear n0_ n1_ n2_ n3_; clear hb hbox hg)); go_upto_region 1 with (first | ((with_reducible refine gate_dst (N := 1) rfl ?_); (try (refine gate_guard (by rfl) ?_; dsimp only)); refine box_event ?hg (N := 1) ?hd (cs := #[.int .i64 a0_0, .int .i64 a0_1, .slice A0_2 l0_2.length c0_2, .int .i64 a0_3, .slice A0_4 l0_4.length c0_4, .int .i64 a0_5]) (t := 62) ?hr ?_; (case hd => rfl); (case hg => rfl); (case hr => first | (go_simp; done) | (go_simp; rfl)); intro gb135 hg w3 hbox hb; have n0_ := Aside0.mk (below_step (by qc0_) hb); have n1_ := Aside0.mk (hbox); have n2_ := Aside0.mk ((pl115_)); have n3_ := Aside0.mk ((pl115_)); clear HB; have HB := n0_; have BK135 := n1_; have GW135 := n2_; have GE135 := n3_; clear n0_ n1_ n2_ n3_; clear hb hbox hg)))
 ll110_
 go_cut [3] (fun v3 wc => ∃ (kq : Nat) (x3_1 : Bool), v3 = .bool x3_1 ∧ Aside0 (shibbolethref06_Right.j0 kq x3_1 a0_0 a0_1 l0_2 a0_3 l0_4 a0_5 = some r) ∧ Aside0 (kq ≤ k) ∧ Aside0 (wc.heap[gb135]? = some ((ol110_))) ∧ Aside0 (Below w.heap.size w wc))
 case first =>
  have H := HC2.out
  clear HC2
  by_cases c4 : a0_5 ≥ 1
  ·rw [if_pos c4] at H
   have c4b0 : decide (1 ≤ a0_5) = true := decide_eq_true c4
   clear c4
   (first | rw [c4b0] | (simp only [i64_w, i32_w]; rw [c4b0]) | skip)
   have H' := Aside0.mk H
   clear H
   have hcz5_0 : w3.cell? ⟨gb135, 0, none⟩ = some (.int .i64 a0_0) := (blk_cell BK135.out 0).trans rfl
   have hcz5_1 : w3.cell? ⟨gb135, 1, none⟩ = some (.int .i64 a0_1) := (blk_cell BK135.out 1).trans rfl
   have hcz5_2 : w3.cell? ⟨gb135, 2, none⟩ = some (.slice A0_2 l0_2.length c0_2) := (blk_cell BK135.out 2).trans rfl
   have hcz5_3 : w3.cell? ⟨gb135, 3, none⟩ = some (.int .i64 a0_3) := (blk_cell BK135.out 3).trans rfl
   have hcz5_4 : w3.cell? ⟨gb135, 4, none⟩ = some (.slice A0_4 l0_4.length c0_4) := (blk_cell BK135.out 4).trans rfl
   have hcz5_5 : w3.cell? ⟨gb135, 5, none⟩ = some (.int .i64 a0_5) := (blk_cell BK135.out 5).trans rfl
   have hfz5_0 := blk_frozen BK135.out 0
   have hfz5_1 := blk_frozen BK135.out 1
   have hfz5_2 := blk_frozen BK135.out 2
   have hfz5_3 := blk_frozen BK135.out 3
   have hfz5_4 := blk_frozen BK135.out 4
   have hfz5_5 := blk_frozen BK135.out 5
   go_wp2
   repeat (go_quiet (fail); try go_wp2)
   go_meet
   case rel => exact ⟨_, (decide (a0_5 ≤ 65536)), (pl111_), H', ⟨by first | omega | exact Nat.le_refl _⟩, ⟨by qk_; exact BK135.out⟩, ⟨by qb1_ GE135⟩⟩
  ·rw [if_neg c4] at H
   have c4b0 : decide (1 ≤ a0_5) = false := decide_eq_false c4
   clear c4
   (first | rw [c4b0] | (simp only [i64_w, i32_w]; rw [c4b0]) | skip)
   have H' := Aside0.mk H
   clear H
   have hcz6_0 : w3.cell? ⟨gb135, 0, none⟩ = some (.int .i64 a0_0) := (blk_cell BK135.out 0).trans rfl
   have hcz6_1 : w3.cell? ⟨gb135, 1, none⟩ = some (.int .i64 a0_1) := (blk_cell BK135.out 1).trans rfl
   have hcz6_2 : w3.cell? ⟨gb135, 2, none⟩ = some (.slice A0_2 l0_2.length c0_2) := (blk_cell BK135.out 2).trans rfl
   have hcz6_3 : w3.cell? ⟨gb135, 3, none⟩ = some (.int .i64 a0_3) := (blk_cell BK135.out 3).trans rfl
   have hcz6_4 : w3.cell? ⟨gb135, 4, none⟩ = some (.slice A0_4 l0_4.length c0_4) := (blk_cell BK135.out 4).trans rfl
   have hcz6_5 : w3.cell? ⟨gb135, 5, none⟩ = some (.int .i64 a0_5) := (blk_cell BK135.out 5).trans rfl
   have hfz6_0 := blk_frozen BK135.out 0
   have hfz6_1 := blk_frozen BK135.out 1
   have hfz6_2 := blk_frozen BK135.out 2
   have hfz6_3 := blk_frozen BK135.out 3
   have hfz6_4 := blk_frozen BK135.out 4
   have hfz6_5 := blk_frozen BK135.out 5
   go_wp2
   repeat (go_quiet (fail); try go_wp2)
   go_meet
   case rel => exact ⟨_, (false), (pl111_), H', ⟨by first | omega | exact Nat.le_refl _⟩, ⟨by qk_; exact BK135.out⟩, ⟨by qb1_ GE135⟩⟩
 case rest =>
  clear HC2
  try clear p2
  try clear c4
  try clear c4b0
  try clear hcz5_0
  try clear hcz5_1
  try clear hcz5_2
  try clear hcz5_3
  try clear hcz5_4
  try clear hcz5_5
  try clear hcz6_0
  try clear hcz6_1
  try clear hcz6_2
  try clear hcz6_3
  try clear hcz6_4
  try clear hcz6_5
  try clear hfz5_0
  try clear hfz5_1
  try clear hfz5_2
  try clear hfz5_3
  try clear hfz5_4
  try clear hfz5_5
  try clear hfz6_0
  try clear hfz6_1
  try clear hfz6_2
  try clear hfz6_3
  try clear hfz6_4
  try clear hfz6_5
  obtain ⟨kq, x3_1, rfl, HA, HJ1, BK135, HB⟩ := hcut
  cases kq with
  | zero => exact absurd HA.out (by simp [shibbolethref06_Right.j0])
  | succ kj1 =>
   have H := HA.out
   clear HA
   simp only [shibbolethref06_Right.j0] at H
   replace H := Option.bind_eq_some_iff.mp H
   obtain ⟨t136, A70, H⟩ := H
   replace H : (if a0_0 = 2 then (if a0_0 = 6 then (pl110_) else (if a0_3 = 0 then (if (l0_4.length : Int) > 0 then (pl113_) else (pl110_)) else (pl113_))) else (if (l0_2.length : Int) > 0 then (pl113_) else (if a0_0 = 6 then (pl110_) else (if a0_3 = 0 then (if (l0_4.length : Int) > 0 then (pl113_) else (pl110_)) else (pl113_))))) = some r := H
   have A7 := Aside0.mk A70
   clear A70
   have HC8 := Aside0.mk H
   clear H
   have hcz9_0 : wc.cell? ⟨gb135, 0, none⟩ = some (.int .i64 a0_0) := (blk_cell BK135.out 0).trans rfl
   have hcz9_1 : wc.cell? ⟨gb135, 1, none⟩ = some (.int .i64 a0_1) := (blk_cell BK135.out 1).trans rfl
   have hcz9_2 : wc.cell? ⟨gb135, 2, none⟩ = some (.slice A0_2 l0_2.length c0_2) := (blk_cell BK135.out 2).trans rfl
   have hcz9_3 : wc.cell? ⟨gb135, 3, none⟩ = some (.int .i64 a0_3) := (blk_cell BK135.out 3).trans rfl
   have hcz9_4 : wc.cell? ⟨gb135, 4, none⟩ = some (.slice A0_4 l0_4.length c0_4) := (blk_cell BK135.out 4).trans rfl
   have hcz9_5 : wc.cell? ⟨gb135, 5, none⟩ = some (.int .i64 a0_5) := (blk_cell BK135.out 5).trans rfl
   have hfz9_0 := blk_frozen BK135.out 0
   have hfz9_1 := blk_frozen BK135.out 1
   have hfz9_2 := blk_frozen BK135.out 2
   have hfz9_3 := blk_frozen BK135.out 3
   have hfz9_4 := blk_frozen BK135.out 4
   have hfz9_5 := blk_frozen BK135.out 5
   go_upto_region 3 with (first | (go_at_call 25; (with_reducible refine (shibbolethref01_Size.calls kj1 a0_1 t136 _ A7.out).mono ?_); rintro e w' ⟨rfl, ⟨nd, rfl⟩⟩; (try first | exact ⟨rfl, _, World.drewN_drewN _ _ _⟩ | exact ⟨rfl, _, Eq.trans (World.drewN_drewN _ _ _) (congrArg (World.drewN _) (Nat.add_assoc _ _ _))⟩)))
   repeat (go_quiet (first | (go_at_call 25; (with_reducible refine (shibbolethref01_Size.calls kj1 a0_1 t136 _ A7.out).mono ?_); rintro e w' ⟨rfl, ⟨nd, rfl⟩⟩; (try first | exact ⟨rfl, _, World.drewN_drewN _ _ _⟩ | exact ⟨rfl, _, Eq.trans (World.drewN_drewN _ _ _) (congrArg (World.drewN _) (Nat.add_assoc _ _ _))⟩))); go_upto_region 3 with (first | (go_at_call 25; (with_reducible refine (shibbolethref01_Size.calls kj1 a0_1 t136 _ A7.out).mono ?_); rintro e w' ⟨rfl, ⟨nd, rfl⟩⟩; (try first | exact ⟨rfl, _, World.drewN_drewN _ _ _⟩ | exact ⟨rfl, _, Eq.trans (World.drewN_drewN _ _ _) (congrArg (World.drewN _) (Nat.add_assoc _ _ _))⟩))))
   ll110_
   go_cut [78] (fun v78 wc => ∃ (kq : Nat) (x78_7 : Bool), v78 = .bool x78_7 ∧ Aside0 (shibbolethref06_Right.j1 kq x3_1 (decide (t136 > 0)) x78_7 a0_0 a0_1 l0_2 a0_3 l0_4 a0_5 = some r) ∧ Aside0 (kq ≤ kj1) ∧ Aside0 (wc.heap[gb135]? = some ((ol110_))) ∧ Aside0 (Below w.heap.size w wc))
   case first =>
    have H := HC8.out
    clear HC8
    by_cases c10 : a0_0 = 2
    ·rw [if_pos c10] at H
     have c10b0 : (a0_0 == 2) = true := beq_iff_eq.mpr c10
     have c10b1 : (a0_0 != 2) = false := bne_eq_false_iff_eq.mpr c10
     clear c10
     (first | rw [c10b0] | (simp only [i64_w, i32_w]; rw [c10b0]) | skip)
     by_cases c11 : a0_0 = 6
     ·exfalso; omega
     ·rw [if_neg c11] at H
      have c11b0 : (a0_0 == 6) = false := beq_eq_false_iff_ne.mpr c11
      have c11b1 : (a0_0 != 6) = true := bne_iff_ne.mpr c11
      by_cases c31 : a0_3 = 0
      ·rw [if_pos c31] at H
       have c31b0 : (a0_3 == 0) = true := beq_iff_eq.mpr c31
       have c31b1 : (a0_3 != 0) = false := bne_eq_false_iff_eq.mpr c31
       clear c31
       by_cases c32 : (l0_4.length : Int) > 0
       ·rw [if_pos c32] at H
        have c32b0 : decide (0 < (l0_4.length : Int)) = true := decide_eq_true c32
        have c32b1 : decide (0 < l0_4.length) = true := decide_eq_true (by omega)
        clear c32
        have H' := Aside0.mk H
        clear H
        have hcz33_0 : wc.cell? ⟨gb135, 0, none⟩ = some (.int .i64 a0_0) := (blk_cell BK135.out 0).trans rfl
        have hcz33_1 : wc.cell? ⟨gb135, 1, none⟩ = some (.int .i64 a0_1) := (blk_cell BK135.out 1).trans rfl
        have hcz33_2 : wc.cell? ⟨gb135, 2, none⟩ = some (.slice A0_2 l0_2.length c0_2) := (blk_cell BK135.out 2).trans rfl
        have hcz33_3 : wc.cell? ⟨gb135, 3, none⟩ = some (.int .i64 a0_3) := (blk_cell BK135.out 3).trans rfl
        have hcz33_4 : wc.cell? ⟨gb135, 4, none⟩ = some (.slice A0_4 l0_4.length c0_4) := (blk_cell BK135.out 4).trans rfl
        have hcz33_5 : wc.cell? ⟨gb135, 5, none⟩ = some (.int .i64 a0_5) := (blk_cell BK135.out 5).trans rfl
        have hfz33_0 := blk_frozen BK135.out 0
        have hfz33_1 := blk_frozen BK135.out 1
        have hfz33_2 := blk_frozen BK135.out 2
        have hfz33_3 := blk_frozen BK135.out 3
        have hfz33_4 := blk_frozen BK135.out 4
        have hfz33_5 := blk_frozen BK135.out 5
        go_wp2
        repeat (go_quiet (fail); try go_wp2)
        go_meet
        case rel => exact ⟨_, (true), (pl111_), H', ⟨by have := HJ1.out; first | omega | exact Nat.le_refl _⟩, ⟨by qk_; exact BK135.out⟩, ⟨by qb1_ GE135⟩⟩
       ·rw [if_neg c32] at H
        have c32b0 : decide (0 < (l0_4.length : Int)) = false := decide_eq_false c32
        have c32b1 : decide (0 < l0_4.length) = false := decide_eq_false (by omega)
        clear c32
        by_cases c34 : a0_0 = 7
        ·exfalso; omega
        ·rw [if_neg c34] at H
         have c34b0 : (a0_0 == 7) = false := beq_eq_false_iff_ne.mpr c34
         have c34b1 : (a0_0 != 7) = true := bne_iff_ne.mpr c34
         by_cases c42 : a0_0 = 8
         ·exfalso; omega
         ·rw [if_neg c42] at H
          have c42b0 : (a0_0 == 8) = false := beq_eq_false_iff_ne.mpr c42
          have c42b1 : (a0_0 != 8) = true := bne_iff_ne.mpr c42
          by_cases c46 : a0_5 = 0
          ·rw [if_pos c46] at H
           have c46b0 : (a0_5 == 0) = true := beq_iff_eq.mpr c46
           have c46b1 : (a0_5 != 0) = false := bne_eq_false_iff_eq.mpr c46
           clear c46
           by_cases c47 : a0_0 = 0
           ·exfalso; omega
           ·rw [if_neg c47] at H
            have c47b0 : (a0_0 == 0) = false := beq_eq_false_iff_ne.mpr c47
            have c47b1 : (a0_0 != 0) = true := bne_iff_ne.mpr c47
            by_cases c49 : a0_0 = 28
            ·exfalso; omega
            ·rw [if_neg c49] at H
             have c49b0 : (a0_0 == 28) = false := beq_eq_false_iff_ne.mpr c49
             have c49b1 : (a0_0 != 28) = true := bne_iff_ne.mpr c49
             have H' := Aside0.mk H
             clear H
             have hcz51_0 : wc.cell? ⟨gb135, 0, none⟩ = some (.int .i64 a0_0) := (blk_cell BK135.out 0).trans rfl
             have hcz51_1 : wc.cell? ⟨gb135, 1, none⟩ = some (.int .i64 a0_1) := (blk_cell BK135.out 1).trans rfl
             have hcz51_2 : wc.cell? ⟨gb135, 2, none⟩ = some (.slice A0_2 l0_2.length c0_2) := (blk_cell BK135.out 2).trans rfl
             have hcz51_3 : wc.cell? ⟨gb135, 3, none⟩ = some (.int .i64 a0_3) := (blk_cell BK135.out 3).trans rfl
             have hcz51_4 : wc.cell? ⟨gb135, 4, none⟩ = some (.slice A0_4 l0_4.length c0_4) := (blk_cell BK135.out 4).trans rfl
             have hcz51_5 : wc.cell? ⟨gb135, 5, none⟩ = some (.int .i64 a0_5) := (blk_cell BK135.out 5).trans rfl
             have hfz51_0 := blk_frozen BK135.out 0
             have hfz51_1 := blk_frozen BK135.out 1
             have hfz51_2 := blk_frozen BK135.out 2
             have hfz51_3 := blk_frozen BK135.out 3
             have hfz51_4 := blk_frozen BK135.out 4
             have hfz51_5 := blk_frozen BK135.out 5
             go_wp2
             repeat (go_quiet (fail); try go_wp2)
             go_meet
             case rel => exact ⟨_, ((a0_1 != 0)), (pl111_), H', ⟨by have := HJ1.out; first | omega | exact Nat.le_refl _⟩, ⟨by qk_; exact BK135.out⟩, ⟨by qb1_ GE135⟩⟩
          ·rw [if_neg c46] at H
           have c46b0 : (a0_5 == 0) = false := beq_eq_false_iff_ne.mpr c46
           have c46b1 : (a0_5 != 0) = true := bne_iff_ne.mpr c46
           have H' := Aside0.mk H
           clear H
           have hcz52_0 : wc.cell? ⟨gb135, 0, none⟩ = some (.int .i64 a0_0) := (blk_cell BK135.out 0).trans rfl
           have hcz52_1 : wc.cell? ⟨gb135, 1, none⟩ = some (.int .i64 a0_1) := (blk_cell BK135.out 1).trans rfl
           have hcz52_2 : wc.cell? ⟨gb135, 2, none⟩ = some (.slice A0_2 l0_2.length c0_2) := (blk_cell BK135.out 2).trans rfl
           have hcz52_3 : wc.cell? ⟨gb135, 3, none⟩ = some (.int .i64 a0_3) := (blk_cell BK135.out 3).trans rfl
           have hcz52_4 : wc.cell? ⟨gb135, 4, none⟩ = some (.slice A0_4 l0_4.length c0_4) := (blk_cell BK135.out 4).trans rfl
           have hcz52_5 : wc.cell? ⟨gb135, 5, none⟩ = some (.int .i64 a0_5) := (blk_cell BK135.out 5).trans rfl
           have hfz52_0 := blk_frozen BK135.out 0
           have hfz52_1 := blk_frozen BK135.out 1
           have hfz52_2 := blk_frozen BK135.out 2
           have hfz52_3 := blk_frozen BK135.out 3
           have hfz52_4 := blk_frozen BK135.out 4
           have hfz52_5 := blk_frozen BK135.out 5
           go_wp2
           repeat (go_quiet (fail); try go_wp2)
           go_meet
           case rel => exact ⟨_, (true), (pl111_), H', ⟨by have := HJ1.out; first | omega | exact Nat.le_refl _⟩, ⟨by qk_; exact BK135.out⟩, ⟨by qb1_ GE135⟩⟩
      ·rw [if_neg c31] at H
       have c31b0 : (a0_3 == 0) = false := beq_eq_false_iff_ne.mpr c31
       have c31b1 : (a0_3 != 0) = true := bne_iff_ne.mpr c31
       have H' := Aside0.mk H
       clear H
       have hcz53_0 : wc.cell? ⟨gb135, 0, none⟩ = some (.int .i64 a0_0) := (blk_cell BK135.out 0).trans rfl
       have hcz53_1 : wc.cell? ⟨gb135, 1, none⟩ = some (.int .i64 a0_1) := (blk_cell BK135.out 1).trans rfl
       have hcz53_2 : wc.cell? ⟨gb135, 2, none⟩ = some (.slice A0_2 l0_2.length c0_2) := (blk_cell BK135.out 2).trans rfl
       have hcz53_3 : wc.cell? ⟨gb135, 3, none⟩ = some (.int .i64 a0_3) := (blk_cell BK135.out 3).trans rfl
       have hcz53_4 : wc.cell? ⟨gb135, 4, none⟩ = some (.slice A0_4 l0_4.length c0_4) := (blk_cell BK135.out 4).trans rfl
       have hcz53_5 : wc.cell? ⟨gb135, 5, none⟩ = some (.int .i64 a0_5) := (blk_cell BK135.out 5).trans rfl
       have hfz53_0 := blk_frozen BK135.out 0
       have hfz53_1 := blk_frozen BK135.out 1
       have hfz53_2 := blk_frozen BK135.out 2
       have hfz53_3 := blk_frozen BK135.out 3
       have hfz53_4 := blk_frozen BK135.out 4
       have hfz53_5 := blk_frozen BK135.out 5
       go_wp2
       repeat (go_quiet (fail); try go_wp2)
       go_meet
       case rel => exact ⟨_, (true), (pl111_), H', ⟨by have := HJ1.out; first | omega | exact Nat.le_refl _⟩, ⟨by qk_; exact BK135.out⟩, ⟨by qb1_ GE135⟩⟩
    ·exfalso; omega
   case rest =>
    clear HC8
    try clear c1
    try clear p2
    try clear c5
    try clear c6
    try clear c7
    try clear c8
    try clear c9
    try clear c10
    try clear c10b0
    try clear c10b1
    try clear c54
    try clear c54b0
    try clear c54b1
    try clear c56
    try clear c56b0
    try clear c56b1
    try clear c57
    try clear c57b0
    try clear c57b1
    try clear c58
    try clear c58b0
    try clear c58b1
    try clear c60
    try clear c60b0
    try clear c60b1
    try clear c62
    try clear c62b0
    try clear c62b1
    try clear c65
    try clear c65b0
    try clear c65b1
    try clear c66
    try clear c66b0
    try clear c66b1
    try clear c69
    try clear c69b0
    try clear c69b1
    try clear c70
    try clear c70b0
    try clear c70b1
    try clear c72
    try clear c72b0
    try clear c72b1
    try clear c76
    try clear c76b0
    try clear c76b1
    try clear c77
    try clear c77b0
    try clear c77b1
    try clear c79
    try clear c79b0
    try clear c79b1
    try clear c80
    try clear c80b0
    try clear c80b1
    try clear c82
    try clear c82b0
    try clear c82b1
    try clear c84
    try clear c84b0
    try clear c84b1
    try clear c87
    try clear c87b0
    try clear c87b1
    try clear c88
    try clear c88b0
    try clear c88b1
    try clear c91
    try clear c91b0
    try clear c91b1
    try clear c92
    try clear c92b0
    try clear c92b1
    try clear c94
    try clear c94b0
    try clear c94b1
    try clear hcz55_0
    try clear hcz55_1
    try clear hcz55_2
    try clear hcz55_3
    try clear hcz55_4
    try clear hcz55_5
    try clear hcz59_0
    try clear hcz59_1
    try clear hcz59_2
    try clear hcz59_3
    try clear hcz59_4
    try clear hcz59_5
    try clear hcz61_0
    try clear hcz61_1
    try clear hcz61_2
    try clear hcz61_3
    try clear hcz61_4
    try clear hcz61_5
    try clear hcz63_0
    try clear hcz63_1
    try clear hcz63_2
    try clear hcz63_3
    try clear hcz63_4
    try clear hcz63_5
    try clear hcz64_0
    try clear hcz64_1
    try clear hcz64_2
    try clear hcz64_3
    try clear hcz64_4
    try clear hcz64_5
    try clear hcz67_0
    try clear hcz67_1
    try clear hcz67_2
    try clear hcz67_3
    try clear hcz67_4
    try clear hcz67_5
    try clear hcz68_0
    try clear hcz68_1
    try clear hcz68_2
    try clear hcz68_3
    try clear hcz68_4
    try clear hcz68_5
    try clear hcz71_0
    try clear hcz71_1
    try clear hcz71_2
    try clear hcz71_3
    try clear hcz71_4
    try clear hcz71_5
    try clear hcz73_0
    try clear hcz73_1
    try clear hcz73_2
    try clear hcz73_3
    try clear hcz73_4
    try clear hcz73_5
    try clear hcz74_0
    try clear hcz74_1
    try clear hcz74_2
    try clear hcz74_3
    try clear hcz74_4
    try clear hcz74_5
    try clear hcz75_0
    try clear hcz75_1
    try clear hcz75_2
    try clear hcz75_3
    try clear hcz75_4
    try clear hcz75_5
    try clear hcz78_0
    try clear hcz78_1
    try clear hcz78_2
    try clear hcz78_3
    try clear hcz78_4
    try clear hcz78_5
    try clear hcz81_0
    try clear hcz81_1
    try clear hcz81_2
    try clear hcz81_3
    try clear hcz81_4
    try clear hcz81_5
    try clear hcz83_0
    try clear hcz83_1
    try clear hcz83_2
    try clear hcz83_3
    try clear hcz83_4
    try clear hcz83_5
    try clear hcz85_0
    try clear hcz85_1
    try clear hcz85_2
    try clear hcz85_3
    try clear hcz85_4
    try clear hcz85_5
    try clear hcz86_0
    try clear hcz86_1
    try clear hcz86_2
    try clear hcz86_3
    try clear hcz86_4
    try clear hcz86_5
    try clear hcz89_0
    try clear hcz89_1
    try clear hcz89_2
    try clear hcz89_3
    try clear hcz89_4
    try clear hcz89_5
    try clear hcz90_0
    try clear hcz90_1
    try clear hcz90_2
    try clear hcz90_3
    try clear hcz90_4
    try clear hcz90_5
    try clear hcz93_0
    try clear hcz93_1
    try clear hcz93_2
    try clear hcz93_3
    try clear hcz93_4
    try clear hcz93_5
    try clear hcz95_0
    try clear hcz95_1
    try clear hcz95_2
    try clear hcz95_3
    try clear hcz95_4
    try clear hcz95_5
    try clear hcz96_0
    try clear hcz96_1
    try clear hcz96_2
    try clear hcz96_3
    try clear hcz96_4
    try clear hcz96_5
    try clear hcz97_0
    try clear hcz97_1
    try clear hcz97_2
    try clear hcz97_3
    try clear hcz97_4
    try clear hcz97_5
    try clear hcz98_0
    try clear hcz98_1
    try clear hcz98_2
    try clear hcz98_3
    try clear hcz98_4
    try clear hcz98_5
    try clear hfz55_0
    try clear hfz55_1
    try clear hfz55_2
    try clear hfz55_3
    try clear hfz55_4
    try clear hfz55_5
    try clear hfz59_0
    try clear hfz59_1
    try clear hfz59_2
    try clear hfz59_3
    try clear hfz59_4
    try clear hfz59_5
    try clear hfz61_0
    try clear hfz61_1
    try clear hfz61_2
    try clear hfz61_3
    try clear hfz61_4
    try clear hfz61_5
    try clear hfz63_0
    try clear hfz63_1
    try clear hfz63_2
    try clear hfz63_3
    try clear hfz63_4
    try clear hfz63_5
    try clear hfz64_0
    try clear hfz64_1
    try clear hfz64_2
    try clear hfz64_3
    try clear hfz64_4
    try clear hfz64_5
    try clear hfz67_0
    try clear hfz67_1
    try clear hfz67_2
    try clear hfz67_3
    try clear hfz67_4
    try clear hfz67_5
    try clear hfz68_0
    try clear hfz68_1
    try clear hfz68_2
    try clear hfz68_3
    try clear hfz68_4
    try clear hfz68_5
    try clear hfz71_0
    try clear hfz71_1
    try clear hfz71_2
    try clear hfz71_3
    try clear hfz71_4
    try clear hfz71_5
    try clear hfz73_0
    try clear hfz73_1
    try clear hfz73_2
    try clear hfz73_3
    try clear hfz73_4
    try clear hfz73_5
    try clear hfz74_0
    try clear hfz74_1
    try clear hfz74_2
    try clear hfz74_3
    try clear hfz74_4
    try clear hfz74_5
    try clear hfz75_0
    try clear hfz75_1
    try clear hfz75_2
    try clear hfz75_3
    try clear hfz75_4
    try clear hfz75_5
    try clear hfz78_0
    try clear hfz78_1
    try clear hfz78_2
    try clear hfz78_3
    try clear hfz78_4
    try clear hfz78_5
    try clear hfz81_0
    try clear hfz81_1
    try clear hfz81_2
    try clear hfz81_3
    try clear hfz81_4
    try clear hfz81_5
    try clear hfz83_0
    try clear hfz83_1
    try clear hfz83_2
    try clear hfz83_3
    try clear hfz83_4
    try clear hfz83_5
    try clear hfz85_0
    try clear hfz85_1
    try clear hfz85_2
    try clear hfz85_3
    try clear hfz85_4
    try clear hfz85_5
    try clear hfz86_0
    try clear hfz86_1
    try clear hfz86_2
    try clear hfz86_3
    try clear hfz86_4
    try clear hfz86_5
    try clear hfz89_0
    try clear hfz89_1
    try clear hfz89_2
    try clear hfz89_3
    try clear hfz89_4
    try clear hfz89_5
    try clear hfz90_0
    try clear hfz90_1
    try clear hfz90_2
    try clear hfz90_3
    try clear hfz90_4
    try clear hfz90_5
    try clear hfz93_0
    try clear hfz93_1
    try clear hfz93_2
    try clear hfz93_3
    try clear hfz93_4
    try clear hfz93_5
    try clear hfz95_0
    try clear hfz95_1
    try clear hfz95_2
    try clear hfz95_3
    try clear hfz95_4
    try clear hfz95_5
    try clear hfz96_0
    try clear hfz96_1
    try clear hfz96_2
    try clear hfz96_3
    try clear hfz96_4
    try clear hfz96_5
    try clear hfz97_0
    try clear hfz97_1
    try clear hfz97_2
    try clear hfz97_3
    try clear hfz97_4
    try clear hfz97_5
    try clear hfz98_0
    try clear hfz98_1
    try clear hfz98_2
    try clear hfz98_3
    try clear hfz98_4
    try clear hfz98_5
    obtain ⟨kq, x78_7, rfl, HA, HJ7, BK135, HB⟩ := hcut
    cases kq with
    | zero => exact absurd HA.out (by simp [shibbolethref06_Right.j1])
    | succ kj7 =>
     have H := HA.out
     clear HA
     simp only [shibbolethref06_Right.j1] at H
     by_cases c99 : x78_7 = true
     ·subst c99
      have H1 : (some false) = some r := by rw [if_pos rfl] at H; exact H
      clear H
      have H := H1
      clear H1
      obtain rfl := Option.some.inj H
      go_wp2
      repeat (go_quiet (fail); try go_wp2)
      go_ret
      ll111_
     ·replace c99 := Bool.eq_false_iff.mpr c99
      subst c99
      have H1 : (if a0_0 = 0 then (if a0_1 ≥ 1 then (some (decide (a0_1 ≤ 1200))) else (some false)) else (if a0_0 = 1 then (shibbolethref06_Right.j2 kj7 x3_1 (decide (t136 > 0)) a0_0 (a0_0 == 1) a0_0 a0_1 l0_2 a0_3 l0_4 a0_5) else (shibbolethref06_Right.j2 kj7 x3_1 (decide (t136 > 0)) a0_0 (a0_0 == 30) a0_0 a0_1 l0_2 a0_3 l0_4 a0_5))) = some r := by rw [if_neg (show ¬ (false = true) by decide)] at H; exact H
      clear H
      have H := H1
      clear H1
      by_cases c100 : a0_0 = 0
      ·exfalso; omega
      ·rw [if_neg c100] at H
       have c100b0 : (a0_0 == 0) = false := beq_eq_false_iff_ne.mpr c100
       have c100b1 : (a0_0 != 0) = true := bne_iff_ne.mpr c100
       have HC104 := Aside0.mk H
       clear H
       have hcz105_0 : wc.cell? ⟨gb135, 0, none⟩ = some (.int .i64 a0_0) := (blk_cell BK135.out 0).trans rfl
       have hcz105_1 : wc.cell? ⟨gb135, 1, none⟩ = some (.int .i64 a0_1) := (blk_cell BK135.out 1).trans rfl
       have hcz105_2 : wc.cell? ⟨gb135, 2, none⟩ = some (.slice A0_2 l0_2.length c0_2) := (blk_cell BK135.out 2).trans rfl
       have hcz105_3 : wc.cell? ⟨gb135, 3, none⟩ = some (.int .i64 a0_3) := (blk_cell BK135.out 3).trans rfl
       have hcz105_4 : wc.cell? ⟨gb135, 4, none⟩ = some (.slice A0_4 l0_4.length c0_4) := (blk_cell BK135.out 4).trans rfl
       have hcz105_5 : wc.cell? ⟨gb135, 5, none⟩ = some (.int .i64 a0_5) := (blk_cell BK135.out 5).trans rfl
       have hfz105_0 := blk_frozen BK135.out 0
       have hfz105_1 := blk_frozen BK135.out 1
       have hfz105_2 := blk_frozen BK135.out 2
       have hfz105_3 := blk_frozen BK135.out 3
       have hfz105_4 := blk_frozen BK135.out 4
       have hfz105_5 := blk_frozen BK135.out 5
       go_upto_if 91 with (fail)
       repeat (go_quiet (fail); go_upto_if 91 with (fail))
       go_cut [91] (fun v91 wc => ∃ (kq : Nat) (x91_103 : Bool), v91 = .bool x91_103 ∧ Aside0 (shibbolethref06_Right.j2 kq x3_1 (decide (t136 > 0)) a0_0 x91_103 a0_0 a0_1 l0_2 a0_3 l0_4 a0_5 = some r) ∧ Aside0 (kq ≤ kj7) ∧ Aside0 (wc.heap[gb135]? = some ((ol110_))) ∧ Aside0 (Below w.heap.size w wc))
       case first =>
        have H := HC104.out
        clear HC104
        by_cases c106 : a0_0 = 1
        ·exfalso; omega
        ·rw [if_neg c106] at H
         have c106b0 : (a0_0 == 1) = false := beq_eq_false_iff_ne.mpr c106
         have c106b1 : (a0_0 != 1) = true := bne_iff_ne.mpr c106
         (first | rw [c106b0] | (simp only [i64_w, i32_w]; rw [c106b0]) | skip)
         have H' := Aside0.mk H
         clear H
         go_wp2
         repeat (go_quiet (fail); try go_wp2)
         go_meet
         case rel => exact ⟨_, ((a0_0 == 30)), (pl111_), H', ⟨by have := HJ1.out; have := HJ7.out; first | omega | exact Nat.le_refl _⟩, ⟨by qk_; exact BK135.out⟩, ⟨by qb1_ GE135⟩⟩
       case rest =>
        clear HC104
        try clear c1
        try clear p2
        try clear c5
        try clear c6
        try clear c7
        try clear c8
        try clear c9
        try clear c10
        try clear c10b0
        try clear c10b1
        try clear c54
        try clear c54b0
        try clear c54b1
        try clear c56
        try clear c56b0
        try clear c56b1
        try clear c57
        try clear c57b0
        try clear c57b1
        try clear c58
        try clear c58b0
        try clear c58b1
        try clear c60
        try clear c60b0
        try clear c60b1
        try clear c62
        try clear c62b0
        try clear c62b1
        try clear c65
        try clear c65b0
        try clear c65b1
        try clear c66
        try clear c66b0
        try clear c66b1
        try clear c69
        try clear c69b0
        try clear c69b1
        try clear c70
        try clear c70b0
        try clear c70b1
        try clear c72
        try clear c72b0
        try clear c72b1
        try clear c76
        try clear c76b0
        try clear c76b1
        try clear c77
        try clear c77b0
        try clear c77b1
        try clear c79
        try clear c79b0
        try clear c79b1
        try clear c80
        try clear c80b0
        try clear c80b1
        try clear c82
        try clear c82b0
        try clear c82b1
        try clear c84
        try clear c84b0
        try clear c84b1
        try clear c87
        try clear c87b0
        try clear c87b1
        try clear c88
        try clear c88b0
        try clear c88b1
        try clear c91
        try clear c91b0
        try clear c91b1
        try clear c92
        try clear c92b0
        try clear c92b1
        try clear c94
        try clear c94b0
        try clear c94b1
        try clear c99
        try clear c100
        try clear c100b0
        try clear c100b1
        try clear c101
        try clear c101b0
        try clear c106
        try clear c106b0
        try clear c106b1
        try clear hcz102_0
        try clear hcz102_1
        try clear hcz102_2
        try clear hcz102_3
        try clear hcz102_4
        try clear hcz102_5
        try clear hcz103_0
        try clear hcz103_1
        try clear hcz103_2
        try clear hcz103_3
        try clear hcz103_4
        try clear hcz103_5
        try clear hcz105_0
        try clear hcz105_1
        try clear hcz105_2
        try clear hcz105_3
        try clear hcz105_4
        try clear hcz105_5
        try clear hcz55_0
        try clear hcz55_1
        try clear hcz55_2
        try clear hcz55_3
        try clear hcz55_4
        try clear hcz55_5
        try clear hcz59_0
        try clear hcz59_1
        try clear hcz59_2
        try clear hcz59_3
        try clear hcz59_4
        try clear hcz59_5
        try clear hcz61_0
        try clear hcz61_1
        try clear hcz61_2
        try clear hcz61_3
        try clear hcz61_4
        try clear hcz61_5
        try clear hcz63_0
        try clear hcz63_1
        try clear hcz63_2
        try clear hcz63_3
        try clear hcz63_4
        try clear hcz63_5
        try clear hcz64_0
        try clear hcz64_1
        try clear hcz64_2
        try clear hcz64_3
        try clear hcz64_4
        try clear hcz64_5
        try clear hcz67_0
        try clear hcz67_1
        try clear hcz67_2
        try clear hcz67_3
        try clear hcz67_4
        try clear hcz67_5
        try clear hcz68_0
        try clear hcz68_1
        try clear hcz68_2
        try clear hcz68_3
        try clear hcz68_4
        try clear hcz68_5
        try clear hcz71_0
        try clear hcz71_1
        try clear hcz71_2
        try clear hcz71_3
        try clear hcz71_4
        try clear hcz71_5
        try clear hcz73_0
        try clear hcz73_1
        try clear hcz73_2
        try clear hcz73_3
        try clear hcz73_4
        try clear hcz73_5
        try clear hcz74_0
        try clear hcz74_1
        try clear hcz74_2
        try clear hcz74_3
        try clear hcz74_4
        try clear hcz74_5
        try clear hcz75_0
        try clear hcz75_1
        try clear hcz75_2
        try clear hcz75_3
        try clear hcz75_4
        try clear hcz75_5
        try clear hcz78_0
        try clear hcz78_1
        try clear hcz78_2
        try clear hcz78_3
        try clear hcz78_4
        try clear hcz78_5
        try clear hcz81_0
        try clear hcz81_1
        try clear hcz81_2
        try clear hcz81_3
        try clear hcz81_4
        try clear hcz81_5
        try clear hcz83_0
        try clear hcz83_1
        try clear hcz83_2
        try clear hcz83_3
        try clear hcz83_4
        try clear hcz83_5
        try clear hcz85_0
        try clear hcz85_1
        try clear hcz85_2
        try clear hcz85_3
        try clear hcz85_4
        try clear hcz85_5
        try clear hcz86_0
        try clear hcz86_1
        try clear hcz86_2
        try clear hcz86_3
        try clear hcz86_4
        try clear hcz86_5
        try clear hcz89_0
        try clear hcz89_1
        try clear hcz89_2
        try clear hcz89_3
        try clear hcz89_4
        try clear hcz89_5
        try clear hcz90_0
        try clear hcz90_1
        try clear hcz90_2
        try clear hcz90_3
        try clear hcz90_4
        try clear hcz90_5
        try clear hcz93_0
        try clear hcz93_1
        try clear hcz93_2
        try clear hcz93_3
        try clear hcz93_4
        try clear hcz93_5
        try clear hcz95_0
        try clear hcz95_1
        try clear hcz95_2
        try clear hcz95_3
        try clear hcz95_4
        try clear hcz95_5
        try clear hcz96_0
        try clear hcz96_1
        try clear hcz96_2
        try clear hcz96_3
        try clear hcz96_4
        try clear hcz96_5
        try clear hcz97_0
        try clear hcz97_1
        try clear hcz97_2
        try clear hcz97_3
        try clear hcz97_4
        try clear hcz97_5
        try clear hcz98_0
        try clear hcz98_1
        try clear hcz98_2
        try clear hcz98_3
        try clear hcz98_4
        try clear hcz98_5
        try clear hfz102_0
        try clear hfz102_1
        try clear hfz102_2
        try clear hfz102_3
        try clear hfz102_4
        try clear hfz102_5
        try clear hfz103_0
        try clear hfz103_1
        try clear hfz103_2
        try clear hfz103_3
        try clear hfz103_4
        try clear hfz103_5
        try clear hfz105_0
        try clear hfz105_1
        try clear hfz105_2
        try clear hfz105_3
        try clear hfz105_4
        try clear hfz105_5
        try clear hfz55_0
        try clear hfz55_1
        try clear hfz55_2
        try clear hfz55_3
        try clear hfz55_4
        try clear hfz55_5
        try clear hfz59_0
        try clear hfz59_1
        try clear hfz59_2
        try clear hfz59_3
        try clear hfz59_4
        try clear hfz59_5
        try clear hfz61_0
        try clear hfz61_1
        try clear hfz61_2
        try clear hfz61_3
        try clear hfz61_4
        try clear hfz61_5
        try clear hfz63_0
        try clear hfz63_1
        try clear hfz63_2
        try clear hfz63_3
        try clear hfz63_4
        try clear hfz63_5
        try clear hfz64_0
        try clear hfz64_1
        try clear hfz64_2
        try clear hfz64_3
        try clear hfz64_4
        try clear hfz64_5
        try clear hfz67_0
        try clear hfz67_1
        try clear hfz67_2
        try clear hfz67_3
        try clear hfz67_4
        try clear hfz67_5
        try clear hfz68_0
        try clear hfz68_1
        try clear hfz68_2
        try clear hfz68_3
        try clear hfz68_4
        try clear hfz68_5
        try clear hfz71_0
        try clear hfz71_1
        try clear hfz71_2
        try clear hfz71_3
        try clear hfz71_4
        try clear hfz71_5
        try clear hfz73_0
        try clear hfz73_1
        try clear hfz73_2
        try clear hfz73_3
        try clear hfz73_4
        try clear hfz73_5
        try clear hfz74_0
        try clear hfz74_1
        try clear hfz74_2
        try clear hfz74_3
        try clear hfz74_4
        try clear hfz74_5
        try clear hfz75_0
        try clear hfz75_1
        try clear hfz75_2
        try clear hfz75_3
        try clear hfz75_4
        try clear hfz75_5
        try clear hfz78_0
        try clear hfz78_1
        try clear hfz78_2
        try clear hfz78_3
        try clear hfz78_4
        try clear hfz78_5
        try clear hfz81_0
        try clear hfz81_1
        try clear hfz81_2
        try clear hfz81_3
        try clear hfz81_4
        try clear hfz81_5
        try clear hfz83_0
        try clear hfz83_1
        try clear hfz83_2
        try clear hfz83_3
        try clear hfz83_4
        try clear hfz83_5
        try clear hfz85_0
        try clear hfz85_1
        try clear hfz85_2
        try clear hfz85_3
        try clear hfz85_4
        try clear hfz85_5
        try clear hfz86_0
        try clear hfz86_1
        try clear hfz86_2
        try clear hfz86_3
        try clear hfz86_4
        try clear hfz86_5
        try clear hfz89_0
        try clear hfz89_1
        try clear hfz89_2
        try clear hfz89_3
        try clear hfz89_4
        try clear hfz89_5
        try clear hfz90_0
        try clear hfz90_1
        try clear hfz90_2
        try clear hfz90_3
        try clear hfz90_4
        try clear hfz90_5
        try clear hfz93_0
        try clear hfz93_1
        try clear hfz93_2
        try clear hfz93_3
        try clear hfz93_4
        try clear hfz93_5
        try clear hfz95_0
        try clear hfz95_1
        try clear hfz95_2
        try clear hfz95_3
        try clear hfz95_4
        try clear hfz95_5
        try clear hfz96_0
        try clear hfz96_1
        try clear hfz96_2
        try clear hfz96_3
        try clear hfz96_4
        try clear hfz96_5
        try clear hfz97_0
        try clear hfz97_1
        try clear hfz97_2
        try clear hfz97_3
        try clear hfz97_4
        try clear hfz97_5
        try clear hfz98_0
        try clear hfz98_1
        try clear hfz98_2
        try clear hfz98_3
        try clear hfz98_4
        try clear hfz98_5
        try clear p2
        obtain ⟨kq, x91_103, rfl, HA, HJ103, BK135, HB⟩ := hcut
        cases kq with
        | zero => exact absurd HA.out (by simp [shibbolethref06_Right.j2])
        | succ kj103 =>
         have H := HA.out
         clear HA
         simp only [shibbolethref06_Right.j2] at H
         by_cases c107 : x91_103 = true
         ·subst c107
          have H1 : (some true) = some r := by rw [if_pos rfl] at H; exact H
          clear H
          have H := H1
          clear H1
          obtain rfl := Option.some.inj H
          go_wp2
          repeat (go_quiet (fail); try go_wp2)
          go_ret
          ll111_
         ·replace c107 := Bool.eq_false_iff.mpr c107
          subst c107
          have H1 : (if a0_0 = 2 then (shibbolethref06_Right.l0 kj103 0 a0_0 a0_1 l0_2 a0_3 l0_4 a0_5) else (if a0_0 = 6 then (if a0_3 ≥ 0 then (if a0_3 ≤ 1048576 then (if (l0_4.length : Int) ≥ 1 then (some (decide ((l0_4.length : Int) ≤ 1000))) else (some false)) else (some false)) else (some false)) else (if a0_0 = 7 then (some x3_1) else (if a0_0 = 8 then (if x3_1 = true then (some (decide (t136 > 0))) else (some false)) else (if a0_0 = 28 then (some (decide (t136 > 0))) else (some false)))))) = some r := by rw [if_neg (show ¬ (false = true) by decide)] at H; exact H
          clear H
          have H := H1
          clear H1
          by_cases c108 : a0_0 = 2
          ·rw [if_pos c108] at H
           have c108b0 : (a0_0 == 2) = true := beq_iff_eq.mpr c108
           have c108b1 : (a0_0 != 2) = false := bne_eq_false_iff_eq.mpr c108
           clear c108
           have H' := Aside0.mk H
           clear H
           go_wp2
           repeat (go_quiet (fail); try go_wp2)
           go_loopg [5] kj103 (fun kq v5 w' => ∃ (x5_4 : Int), v5 = .int .i64 x5_4 ∧ Aside0 (shibbolethref06_Right.l0 kq x5_4 a0_0 a0_1 l0_2 a0_3 l0_4 a0_5 = some r) ∧ Aside0 (kq ≤ kj103) ∧ Aside0 (w'.heap[gb135]? = some ((ol110_))) ∧ Aside0 (Below w.heap.size w w'))
           case atStart => exact ⟨(0), (pl111_), H', ⟨Nat.le_refl _⟩, ⟨by qk_; exact BK135.out⟩, ⟨by qb1_ GE135⟩⟩
           case round =>
            clear H'
            try clear c1
            try clear p2
            try clear c5
            try clear c6
            try clear c7
            try clear c8
            try clear c9
            try clear c10
            try clear c10b0
            try clear c10b1
            try clear c54
            try clear c54b0
            try clear c54b1
            try clear c56
            try clear c56b0
            try clear c56b1
            try clear c57
            try clear c57b0
            try clear c57b1
            try clear c58
            try clear c58b0
            try clear c58b1
            try clear c60
            try clear c60b0
            try clear c60b1
            try clear c62
            try clear c62b0
            try clear c62b1
            try clear c65
            try clear c65b0
            try clear c65b1
            try clear c66
            try clear c66b0
            try clear c66b1
            try clear c69
            try clear c69b0
            try clear c69b1
            try clear c70
            try clear c70b0
            try clear c70b1
            try clear c72
            try clear c72b0
            try clear c72b1
            try clear c76
            try clear c76b0
            try clear c76b1
            try clear c77
            try clear c77b0
            try clear c77b1
            try clear c79
            try clear c79b0
            try clear c79b1
            try clear c80
            try clear c80b0
            try clear c80b1
            try clear c82
            try clear c82b0
            try clear c82b1
            try clear c84
            try clear c84b0
            try clear c84b1
            try clear c87
            try clear c87b0
            try clear c87b1
            try clear c88
            try clear c88b0
            try clear c88b1
            try clear c91
            try clear c91b0
            try clear c91b1
            try clear c92
            try clear c92b0
            try clear c92b1
            try clear c94
            try clear c94b0
            try clear c94b1
            try clear c99
            try clear c100
            try clear c100b0
            try clear c100b1
            try clear c101
            try clear c101b0
            try clear c106
            try clear c106b0
            try clear c106b1
            try clear c107
            try clear c108
            try clear c108b0
            try clear c108b1
            try clear hcz102_0
            try clear hcz102_1
            try clear hcz102_2
            try clear hcz102_3
            try clear hcz102_4
            try clear hcz102_5
            try clear hcz103_0
            try clear hcz103_1
            try clear hcz103_2
            try clear hcz103_3
            try clear hcz103_4
            try clear hcz103_5
            try clear hcz105_0
            try clear hcz105_1
            try clear hcz105_2
            try clear hcz105_3
            try clear hcz105_4
            try clear hcz105_5
            try clear hcz55_0
            try clear hcz55_1
            try clear hcz55_2
            try clear hcz55_3
            try clear hcz55_4
            try clear hcz55_5
            try clear hcz59_0
            try clear hcz59_1
            try clear hcz59_2
            try clear hcz59_3
            try clear hcz59_4
            try clear hcz59_5
            try clear hcz61_0
            try clear hcz61_1
            try clear hcz61_2
            try clear hcz61_3
            try clear hcz61_4
            try clear hcz61_5
            try clear hcz63_0
            try clear hcz63_1
            try clear hcz63_2
            try clear hcz63_3
            try clear hcz63_4
            try clear hcz63_5
            try clear hcz64_0
            try clear hcz64_1
            try clear hcz64_2
            try clear hcz64_3
            try clear hcz64_4
            try clear hcz64_5
            try clear hcz67_0
            try clear hcz67_1
            try clear hcz67_2
            try clear hcz67_3
            try clear hcz67_4
            try clear hcz67_5
            try clear hcz68_0
            try clear hcz68_1
            try clear hcz68_2
            try clear hcz68_3
            try clear hcz68_4
            try clear hcz68_5
            try clear hcz71_0
            try clear hcz71_1
            try clear hcz71_2
            try clear hcz71_3
            try clear hcz71_4
            try clear hcz71_5
            try clear hcz73_0
            try clear hcz73_1
            try clear hcz73_2
            try clear hcz73_3
            try clear hcz73_4
            try clear hcz73_5
            try clear hcz74_0
            try clear hcz74_1
            try clear hcz74_2
            try clear hcz74_3
            try clear hcz74_4
            try clear hcz74_5
            try clear hcz75_0
            try clear hcz75_1
            try clear hcz75_2
            try clear hcz75_3
            try clear hcz75_4
            try clear hcz75_5
            try clear hcz78_0
            try clear hcz78_1
            try clear hcz78_2
            try clear hcz78_3
            try clear hcz78_4
            try clear hcz78_5
            try clear hcz81_0
            try clear hcz81_1
            try clear hcz81_2
            try clear hcz81_3
            try clear hcz81_4
            try clear hcz81_5
            try clear hcz83_0
            try clear hcz83_1
            try clear hcz83_2
            try clear hcz83_3
            try clear hcz83_4
            try clear hcz83_5
            try clear hcz85_0
            try clear hcz85_1
            try clear hcz85_2
            try clear hcz85_3
            try clear hcz85_4
            try clear hcz85_5
            try clear hcz86_0
            try clear hcz86_1
            try clear hcz86_2
            try clear hcz86_3
            try clear hcz86_4
            try clear hcz86_5
            try clear hcz89_0
            try clear hcz89_1
            try clear hcz89_2
            try clear hcz89_3
            try clear hcz89_4
            try clear hcz89_5
            try clear hcz90_0
            try clear hcz90_1
            try clear hcz90_2
            try clear hcz90_3
            try clear hcz90_4
            try clear hcz90_5
            try clear hcz93_0
            try clear hcz93_1
            try clear hcz93_2
            try clear hcz93_3
            try clear hcz93_4
            try clear hcz93_5
            try clear hcz95_0
            try clear hcz95_1
            try clear hcz95_2
            try clear hcz95_3
            try clear hcz95_4
            try clear hcz95_5
            try clear hcz96_0
            try clear hcz96_1
            try clear hcz96_2
            try clear hcz96_3
            try clear hcz96_4
            try clear hcz96_5
            try clear hcz97_0
            try clear hcz97_1
            try clear hcz97_2
            try clear hcz97_3
            try clear hcz97_4
            try clear hcz97_5
            try clear hcz98_0
            try clear hcz98_1
            try clear hcz98_2
            try clear hcz98_3
            try clear hcz98_4
            try clear hcz98_5
            try clear hfz102_0
            try clear hfz102_1
            try clear hfz102_2
            try clear hfz102_3
            try clear hfz102_4
            try clear hfz102_5
            try clear hfz103_0
            try clear hfz103_1
            try clear hfz103_2
            try clear hfz103_3
            try clear hfz103_4
            try clear hfz103_5
            try clear hfz105_0
            try clear hfz105_1
            try clear hfz105_2
            try clear hfz105_3
            try clear hfz105_4
            try clear hfz105_5
            try clear hfz55_0
            try clear hfz55_1
            try clear hfz55_2
            try clear hfz55_3
            try clear hfz55_4
            try clear hfz55_5
            try clear hfz59_0
            try clear hfz59_1
            try clear hfz59_2
            try clear hfz59_3
            try clear hfz59_4
            try clear hfz59_5
            try clear hfz61_0
            try clear hfz61_1
            try clear hfz61_2
            try clear hfz61_3
            try clear hfz61_4
            try clear hfz61_5
            try clear hfz63_0
            try clear hfz63_1
            try clear hfz63_2
            try clear hfz63_3
            try clear hfz63_4
            try clear hfz63_5
            try clear hfz64_0
            try clear hfz64_1
            try clear hfz64_2
            try clear hfz64_3
            try clear hfz64_4
            try clear hfz64_5
            try clear hfz67_0
            try clear hfz67_1
            try clear hfz67_2
            try clear hfz67_3
            try clear hfz67_4
            try clear hfz67_5
            try clear hfz68_0
            try clear hfz68_1
            try clear hfz68_2
            try clear hfz68_3
            try clear hfz68_4
            try clear hfz68_5
            try clear hfz71_0
            try clear hfz71_1
            try clear hfz71_2
            try clear hfz71_3
            try clear hfz71_4
            try clear hfz71_5
            try clear hfz73_0
            try clear hfz73_1
            try clear hfz73_2
            try clear hfz73_3
            try clear hfz73_4
            try clear hfz73_5
            try clear hfz74_0
            try clear hfz74_1
            try clear hfz74_2
            try clear hfz74_3
            try clear hfz74_4
            try clear hfz74_5
            try clear hfz75_0
            try clear hfz75_1
            try clear hfz75_2
            try clear hfz75_3
            try clear hfz75_4
            try clear hfz75_5
            try clear hfz78_0
            try clear hfz78_1
            try clear hfz78_2
            try clear hfz78_3
            try clear hfz78_4
            try clear hfz78_5
            try clear hfz81_0
            try clear hfz81_1
            try clear hfz81_2
            try clear hfz81_3
            try clear hfz81_4
            try clear hfz81_5
            try clear hfz83_0
            try clear hfz83_1
            try clear hfz83_2
            try clear hfz83_3
            try clear hfz83_4
            try clear hfz83_5
            try clear hfz85_0
            try clear hfz85_1
            try clear hfz85_2
            try clear hfz85_3
            try clear hfz85_4
            try clear hfz85_5
            try clear hfz86_0
            try clear hfz86_1
            try clear hfz86_2
            try clear hfz86_3
            try clear hfz86_4
            try clear hfz86_5
            try clear hfz89_0
            try clear hfz89_1
            try clear hfz89_2
            try clear hfz89_3
            try clear hfz89_4
            try clear hfz89_5
            try clear hfz90_0
            try clear hfz90_1
            try clear hfz90_2
            try clear hfz90_3
            try clear hfz90_4
            try clear hfz90_5
            try clear hfz93_0
            try clear hfz93_1
            try clear hfz93_2
            try clear hfz93_3
            try clear hfz93_4
            try clear hfz93_5
            try clear hfz95_0
            try clear hfz95_1
            try clear hfz95_2
            try clear hfz95_3
            try clear hfz95_4
            try clear hfz95_5
            try clear hfz96_0
            try clear hfz96_1
            try clear hfz96_2
            try clear hfz96_3
            try clear hfz96_4
            try clear hfz96_5
            try clear hfz97_0
            try clear hfz97_1
            try clear hfz97_2
            try clear hfz97_3
            try clear hfz97_4
            try clear hfz97_5
            try clear hfz98_0
            try clear hfz98_1
            try clear hfz98_2
            try clear hfz98_3
            try clear hfz98_4
            try clear hfz98_5
            try clear p2
            obtain ⟨x5_4, rfl, HA, HK4, BK135, HB⟩ := hrel
            cases gk with
            | zero => exact absurd HA.out (by simp [shibbolethref06_Right.l0])
            | succ k4 =>
             have H := HA.out
             clear HA
             simp only [shibbolethref06_Right.l0] at H
             by_cases c109 : x5_4 < (l0_2.length : Int)
             ·rw [if_pos c109] at H
              have c109b0 : decide (x5_4 < (l0_2.length : Int)) = true := decide_eq_true c109
              clear c109
              by_cases c110 : 0 ≤ x5_4
              ·rw [if_pos c110] at H
               have c110b0 : decide (0 ≤ x5_4) = true := decide_eq_true c110
               clear c110
               have HC111 := Aside0.mk H
               clear H
               have hcz112_0 : wr.cell? ⟨gb135, 0, none⟩ = some (.int .i64 a0_0) := (blk_cell BK135.out 0).trans rfl
               have hcz112_1 : wr.cell? ⟨gb135, 1, none⟩ = some (.int .i64 a0_1) := (blk_cell BK135.out 1).trans rfl
               have hcz112_2 : wr.cell? ⟨gb135, 2, none⟩ = some (.slice A0_2 l0_2.length c0_2) := (blk_cell BK135.out 2).trans rfl
               have hcz112_3 : wr.cell? ⟨gb135, 3, none⟩ = some (.int .i64 a0_3) := (blk_cell BK135.out 3).trans rfl
               have hcz112_4 : wr.cell? ⟨gb135, 4, none⟩ = some (.slice A0_4 l0_4.length c0_4) := (blk_cell BK135.out 4).trans rfl
               have hcz112_5 : wr.cell? ⟨gb135, 5, none⟩ = some (.int .i64 a0_5) := (blk_cell BK135.out 5).trans rfl
               have hfz112_0 := blk_frozen BK135.out 0
               have hfz112_1 := blk_frozen BK135.out 1
               have hfz112_2 := blk_frozen BK135.out 2
               have hfz112_3 := blk_frozen BK135.out 3
               have hfz112_4 := blk_frozen BK135.out 4
               have hfz112_5 := blk_frozen BK135.out 5
               have p137 : 0 ≤ (x5_4 : Int) := of_decide_eq_true (pl112_)
               have q137 : x5_4 < (l0_2.length : Int) := of_decide_eq_true (pl112_)
               obtain ⟨ad137, e137, hx137_0, hx137_1⟩ := at_T102 HR0_2.out x5_4 p137 q137
               cases e137
               replace hx137_0 := (HB.out.cell (World.block_lt_of_cell? w _ hx137_0)).trans hx137_0
               replace hx137_1 := (HB.out.cell (World.block_lt_of_cell? w _ hx137_1)).trans hx137_1
               replace p137 := eq_true p137
               replace q137 := eq_true q137
               go_upto_region 16 with (first | ((with_reducible refine gate_dst (N := 6) rfl ?_); (try (refine gate_guard (by rfl) ?_; dsimp only)); refine box_event ?hg (N := 6) ?hd (cs := #[.int .i64 0, .int .i64 0]) (t := 102) ?hr ?_; (case hd => rfl); (case hg => rfl); (case hr => first | (go_simp; done) | (go_simp; rfl)); intro gb138 hg w113 hbox hb; have n0_ := Aside0.mk (blk_below (g := gb135) (o := (ol111_)) (by qk_; exact BK135.out) hb); have n1_ := Aside0.mk (below_step (by qb1_ GE135) hb); have n2_ := Aside0.mk (hbox); have n3_ := Aside0.mk ((pl114_)); have n4_ := Aside0.mk ((pl114_)); have n5_ := Aside0.mk ((pl116_)); have n6_ := Aside0.mk ((pl117_)); clear BK135; clear HB; have BK135 := n0_; have HB := n1_; have BK138 := n2_; have GW138 := n3_; have GE138 := n4_; have NB135_138 := n5_; have NB138_135 := n6_; clear n0_ n1_ n2_ n3_ n4_ n5_ n6_; clear hb hbox hg; have hnb114 := NB138_135.out; have hnc114 := NB135_138.out; have hcz115_0 : w113.cell? ⟨gb138, 0, none⟩ = some (.int .i64 0) := (blk_cell BK138.out 0).trans rfl; have hcz115_1 : w113.cell? ⟨gb138, 1, none⟩ = some (.int .i64 0) := (blk_cell BK138.out 1).trans rfl; have hfz115_0 := blk_frozen BK138.out 0; have hfz115_1 := blk_frozen BK138.out 1))
               repeat (go_quiet (first | ((with_reducible refine gate_dst (N := 6) rfl ?_); (try (refine gate_guard (by rfl) ?_; dsimp only)); refine box_event ?hg (N := 6) ?hd (cs := #[.int .i64 0, .int .i64 0]) (t := 102) ?hr ?_; (case hd => rfl); (case hg => rfl); (case hr => first | (go_simp; done) | (go_simp; rfl)); intro gb138 hg w113 hbox hb; have n0_ := Aside0.mk (blk_below (g := gb135) (o := (ol111_)) (by qk_; exact BK135.out) hb); have n1_ := Aside0.mk (below_step (by qb1_ GE135) hb); have n2_ := Aside0.mk (hbox); have n3_ := Aside0.mk ((pl114_)); have n4_ := Aside0.mk ((pl114_)); have n5_ := Aside0.mk ((pl116_)); have n6_ := Aside0.mk ((pl117_)); clear BK135; clear HB; have BK135 := n0_; have HB := n1_; have BK138 := n2_; have GW138 := n3_; have GE138 := n4_; have NB135_138 := n5_; have NB138_135 := n6_; clear n0_ n1_ n2_ n3_ n4_ n5_ n6_; clear hb hbox hg; have hnb114 := NB138_135.out; have hnc114 := NB135_138.out; have hcz115_0 : w113.cell? ⟨gb138, 0, none⟩ = some (.int .i64 0) := (blk_cell BK138.out 0).trans rfl; have hcz115_1 : w113.cell? ⟨gb138, 1, none⟩ = some (.int .i64 0) := (blk_cell BK138.out 1).trans rfl; have hfz115_0 := blk_frozen BK138.out 0; have hfz115_1 := blk_frozen BK138.out 1)); go_upto_region 16 with (first | ((with_reducible refine gate_dst (N := 6) rfl ?_); (try (refine gate_guard (by rfl) ?_; dsimp only)); refine box_event ?hg (N := 6) ?hd (cs := #[.int .i64 0, .int .i64 0]) (t := 102) ?hr ?_; (case hd => rfl); (case hg => rfl); (case hr => first | (go_simp; done) | (go_simp; rfl)); intro gb138 hg w113 hbox hb; have n0_ := Aside0.mk (blk_below (g := gb135) (o := (ol111_)) (by qk_; exact BK135.out) hb); have n1_ := Aside0.mk (below_step (by qb1_ GE135) hb); have n2_ := Aside0.mk (hbox); have n3_ := Aside0.mk ((pl114_)); have n4_ := Aside0.mk ((pl114_)); have n5_ := Aside0.mk ((pl116_)); have n6_ := Aside0.mk ((pl117_)); clear BK135; clear HB; have BK135 := n0_; have HB := n1_; have BK138 := n2_; have GW138 := n3_; have GE138 := n4_; have NB135_138 := n5_; have NB138_135 := n6_; clear n0_ n1_ n2_ n3_ n4_ n5_ n6_; clear hb hbox hg; have hnb114 := NB138_135.out; have hnc114 := NB135_138.out; have hcz115_0 : w113.cell? ⟨gb138, 0, none⟩ = some (.int .i64 0) := (blk_cell BK138.out 0).trans rfl; have hcz115_1 : w113.cell? ⟨gb138, 1, none⟩ = some (.int .i64 0) := (blk_cell BK138.out 1).trans rfl; have hfz115_0 := blk_frozen BK138.out 0; have hfz115_1 := blk_frozen BK138.out 1)))
               ll110_
               go_cut [123] (fun v123 wc => ∃ (kq : Nat) (x123_110 : Bool), v123 = .bool x123_110 ∧ Aside0 (shibbolethref06_Right.j4 kq x5_4 x123_110 a0_0 a0_1 l0_2 a0_3 l0_4 a0_5 ((rd_T102 l0_2 x5_4).f0) ((rd_T102 l0_2 x5_4).f1) = some r) ∧ Aside0 (kq ≤ k4) ∧ Aside0 (wc.heap[gb135]? = some (.cells #[.int .i64 a0_0, .int .i64 a0_1, (.slice (some ad137) l0_2.length c0_2), .int .i64 a0_3, (.slice A0_4 l0_4.length c0_4), .int .i64 a0_5] 62 (0, 0))) ∧ Aside0 (wc.heap[gb138]? = some (.cells #[.int .i64 ((rd_T102 l0_2 x5_4).f0), .int .i64 ((rd_T102 l0_2 x5_4).f1)] 102 (0, 0))) ∧ Aside0 (Below w.heap.size w wc))
               case first =>
                have H := HC111.out
                clear HC111
                by_cases c116 : ((rd_T102 l0_2 x5_4).f0) < 0
                ·rw [if_pos c116] at H
                 have c116b0 : decide (((rd_T102 l0_2 x5_4).f0) < 0) = true := decide_eq_true c116
                 clear c116
                 (first | rw [c116b0] | (simp only [i64_w, i32_w]; rw [c116b0]) | skip)
                 have H' := Aside0.mk H
                 clear H
                 have hnb117 := NB138_135.out
                 have hnc117 := NB135_138.out
                 have hcz118_0 : w113.cell? ⟨gb138, 0, none⟩ = some (.int .i64 0) := (blk_cell BK138.out 0).trans rfl
                 have hcz118_1 : w113.cell? ⟨gb138, 1, none⟩ = some (.int .i64 0) := (blk_cell BK138.out 1).trans rfl
                 have hfz118_0 := blk_frozen BK138.out 0
                 have hfz118_1 := blk_frozen BK138.out 1
                 go_wp2
                 repeat (go_quiet (fail); try go_wp2)
                 go_meet
                 case rel => exact ⟨_, (true), (pl111_), H', ⟨by have := HJ1.out; have := HJ7.out; have := HJ103.out; have := HK4.out; first | omega | exact Nat.le_refl _⟩, ⟨by qk_; refine blk_far ?_ NB135_138.out _; qk_; refine blk_far ?_ NB135_138.out _; qk_; exact BK135.out⟩, ⟨by qk_; refine blk_put (cs := #[.int .i64 ((rd_T102 l0_2 x5_4).f0), .int .i64 0]) ?_ 1 _ rfl; qk_; refine blk_put (cs := #[.int .i64 0, .int .i64 0]) ?_ 0 _ rfl; qk_; exact BK138.out⟩, ⟨by qb2_ GE135 GE138⟩⟩
                ·rw [if_neg c116] at H
                 have c116b0 : decide (((rd_T102 l0_2 x5_4).f0) < 0) = false := decide_eq_false c116
                 clear c116
                 (first | rw [c116b0] | (simp only [i64_w, i32_w]; rw [c116b0]) | skip)
                 by_cases c119 : ((rd_T102 l0_2 x5_4).f1) < ((rd_T102 l0_2 x5_4).f0)
                 ·rw [if_pos c119] at H
                  have c119b0 : decide (((rd_T102 l0_2 x5_4).f1) < ((rd_T102 l0_2 x5_4).f0)) = true := decide_eq_true c119
                  clear c119
                  have H' := Aside0.mk H
                  clear H
                  have hnb120 := NB138_135.out
                  have hnc120 := NB135_138.out
                  have hcz121_0 : w113.cell? ⟨gb138, 0, none⟩ = some (.int .i64 0) := (blk_cell BK138.out 0).trans rfl
                  have hcz121_1 : w113.cell? ⟨gb138, 1, none⟩ = some (.int .i64 0) := (blk_cell BK138.out 1).trans rfl
                  have hfz121_0 := blk_frozen BK138.out 0
                  have hfz121_1 := blk_frozen BK138.out 1
                  go_wp2
                  repeat (go_quiet (fail); try go_wp2)
                  go_meet
                  case rel => exact ⟨_, (true), (pl111_), H', ⟨by have := HJ1.out; have := HJ7.out; have := HJ103.out; have := HK4.out; first | omega | exact Nat.le_refl _⟩, ⟨by qk_; refine blk_far ?_ NB135_138.out _; qk_; refine blk_far ?_ NB135_138.out _; qk_; exact BK135.out⟩, ⟨by qk_; refine blk_put (cs := #[.int .i64 ((rd_T102 l0_2 x5_4).f0), .int .i64 0]) ?_ 1 _ rfl; qk_; refine blk_put (cs := #[.int .i64 0, .int .i64 0]) ?_ 0 _ rfl; qk_; exact BK138.out⟩, ⟨by qb2_ GE135 GE138⟩⟩
                 ·rw [if_neg c119] at H
                  have c119b0 : decide (((rd_T102 l0_2 x5_4).f1) < ((rd_T102 l0_2 x5_4).f0)) = false := decide_eq_false c119
                  clear c119
                  replace H := Option.bind_eq_some_iff.mp H
                  obtain ⟨t139, A1220, H⟩ := H
                  replace H : (shibbolethref06_Right.j4 k4 x5_4 (t139 == 0) a0_0 a0_1 l0_2 a0_3 l0_4 a0_5 ((rd_T102 l0_2 x5_4).f0) ((rd_T102 l0_2 x5_4).f1)) = some r := H
                  have A122 := Aside0.mk A1220
                  clear A1220
                  have H' := Aside0.mk H
                  clear H
                  have hnb123 := NB138_135.out
                  have hnc123 := NB135_138.out
                  have hcz124_0 : w113.cell? ⟨gb138, 0, none⟩ = some (.int .i64 0) := (blk_cell BK138.out 0).trans rfl
                  have hcz124_1 : w113.cell? ⟨gb138, 1, none⟩ = some (.int .i64 0) := (blk_cell BK138.out 1).trans rfl
                  have hfz124_0 := blk_frozen BK138.out 0
                  have hfz124_1 := blk_frozen BK138.out 1
                  go_wp2_with (first | (go_at_call 25; (with_reducible refine (shibbolethref01_Size.calls k4 ((rd_T102 l0_2 x5_4).f1) t139 _ A122.out).mono ?_); rintro e w' ⟨rfl, ⟨nd, rfl⟩⟩; (try first | exact ⟨rfl, _, World.drewN_drewN _ _ _⟩ | exact ⟨rfl, _, Eq.trans (World.drewN_drewN _ _ _) (congrArg (World.drewN _) (Nat.add_assoc _ _ _))⟩)))
                  repeat (go_quiet (first | (go_at_call 25; (with_reducible refine (shibbolethref01_Size.calls k4 ((rd_T102 l0_2 x5_4).f1) t139 _ A122.out).mono ?_); rintro e w' ⟨rfl, ⟨nd, rfl⟩⟩; (try first | exact ⟨rfl, _, World.drewN_drewN _ _ _⟩ | exact ⟨rfl, _, Eq.trans (World.drewN_drewN _ _ _) (congrArg (World.drewN _) (Nat.add_assoc _ _ _))⟩))); try go_wp2_with (first | (go_at_call 25; (with_reducible refine (shibbolethref01_Size.calls k4 ((rd_T102 l0_2 x5_4).f1) t139 _ A122.out).mono ?_); rintro e w' ⟨rfl, ⟨nd, rfl⟩⟩; (try first | exact ⟨rfl, _, World.drewN_drewN _ _ _⟩ | exact ⟨rfl, _, Eq.trans (World.drewN_drewN _ _ _) (congrArg (World.drewN _) (Nat.add_assoc _ _ _))⟩))))
                  go_meet
                  case rel => exact ⟨_, ((t139 == 0)), (pl111_), H', ⟨by have := HJ1.out; have := HJ7.out; have := HJ103.out; have := HK4.out; first | omega | exact Nat.le_refl _⟩, ⟨by qk_; refine blk_far ?_ NB135_138.out _; qk_; refine blk_far ?_ NB135_138.out _; qk_; exact BK135.out⟩, ⟨by qk_; refine blk_put (cs := #[.int .i64 ((rd_T102 l0_2 x5_4).f0), .int .i64 0]) ?_ 1 _ rfl; qk_; refine blk_put (cs := #[.int .i64 0, .int .i64 0]) ?_ 0 _ rfl; qk_; exact BK138.out⟩, ⟨by qb2_ GE135 GE138⟩⟩
               case rest =>
                clear HC111
                try clear c1
                try clear p1
                try clear q1
                try clear hx1
                try clear p2
                try clear c5
                try clear c6
                try clear c7
                try clear c8
                try clear c9
                try clear c10
                try clear c10b0
                try clear c10b1
                try clear c11
                try clear c12
                try clear p13
                try clear q13
                try clear hx13
                try clear c54
                try clear c54b0
                try clear c54b1
                try clear c56
                try clear c56b0
                try clear c56b1
                try clear c57
                try clear c57b0
                try clear c57b1
                try clear c58
                try clear c58b0
                try clear c58b1
                try clear c60
                try clear c60b0
                try clear c60b1
                try clear c62
                try clear c62b0
                try clear c62b1
                try clear c65
                try clear c65b0
                try clear c65b1
                try clear c66
                try clear c66b0
                try clear c66b1
                try clear c69
                try clear c69b0
                try clear c69b1
                try clear c70
                try clear c70b0
                try clear c70b1
                try clear c72
                try clear c72b0
                try clear c72b1
                try clear c76
                try clear c76b0
                try clear c76b1
                try clear c77
                try clear c77b0
                try clear c77b1
                try clear c79
                try clear c79b0
                try clear c79b1
                try clear c80
                try clear c80b0
                try clear c80b1
                try clear c82
                try clear c82b0
                try clear c82b1
                try clear c84
                try clear c84b0
                try clear c84b1
                try clear c87
                try clear c87b0
                try clear c87b1
                try clear c88
                try clear c88b0
                try clear c88b1
                try clear c91
                try clear c91b0
                try clear c91b1
                try clear c92
                try clear c92b0
                try clear c92b1
                try clear c94
                try clear c94b0
                try clear c94b1
                try clear c99
                try clear c100
                try clear c100b0
                try clear c100b1
                try clear c101
                try clear c101b0
                try clear c106
                try clear c106b0
                try clear c106b1
                try clear c107
                try clear c108
                try clear c108b0
                try clear c108b1
                try clear c109
                try clear c109b0
                try clear c110
                try clear c110b0
                try clear c114
                try clear c116
                try clear c116b0
                try clear c117
                try clear c119
                try clear c119b0
                try clear c120
                try clear c123
                try clear hcz102_0
                try clear hcz102_1
                try clear hcz102_2
                try clear hcz102_3
                try clear hcz102_4
                try clear hcz102_5
                try clear hcz103_0
                try clear hcz103_1
                try clear hcz103_2
                try clear hcz103_3
                try clear hcz103_4
                try clear hcz103_5
                try clear hcz105_0
                try clear hcz105_1
                try clear hcz105_2
                try clear hcz105_3
                try clear hcz105_4
                try clear hcz105_5
                try clear hcz112_0
                try clear hcz112_1
                try clear hcz112_2
                try clear hcz112_3
                try clear hcz112_4
                try clear hcz112_5
                try clear hcz115_0
                try clear hcz115_1
                try clear hcz118_0
                try clear hcz118_1
                try clear hcz121_0
                try clear hcz121_1
                try clear hcz124_0
                try clear hcz124_1
                try clear hcz55_0
                try clear hcz55_1
                try clear hcz55_2
                try clear hcz55_3
                try clear hcz55_4
                try clear hcz55_5
                try clear hcz59_0
                try clear hcz59_1
                try clear hcz59_2
                try clear hcz59_3
                try clear hcz59_4
                try clear hcz59_5
                try clear hcz61_0
                try clear hcz61_1
                try clear hcz61_2
                try clear hcz61_3
                try clear hcz61_4
                try clear hcz61_5
                try clear hcz63_0
                try clear hcz63_1
                try clear hcz63_2
                try clear hcz63_3
                try clear hcz63_4
                try clear hcz63_5
                try clear hcz64_0
                try clear hcz64_1
                try clear hcz64_2
                try clear hcz64_3
                try clear hcz64_4
                try clear hcz64_5
                try clear hcz67_0
                try clear hcz67_1
                try clear hcz67_2
                try clear hcz67_3
                try clear hcz67_4
                try clear hcz67_5
                try clear hcz68_0
                try clear hcz68_1
                try clear hcz68_2
                try clear hcz68_3
                try clear hcz68_4
                try clear hcz68_5
                try clear hcz71_0
                try clear hcz71_1
                try clear hcz71_2
                try clear hcz71_3
                try clear hcz71_4
                try clear hcz71_5
                try clear hcz73_0
                try clear hcz73_1
                try clear hcz73_2
                try clear hcz73_3
                try clear hcz73_4
                try clear hcz73_5
                try clear hcz74_0
                try clear hcz74_1
                try clear hcz74_2
                try clear hcz74_3
                try clear hcz74_4
                try clear hcz74_5
                try clear hcz75_0
                try clear hcz75_1
                try clear hcz75_2
                try clear hcz75_3
                try clear hcz75_4
                try clear hcz75_5
                try clear hcz78_0
                try clear hcz78_1
                try clear hcz78_2
                try clear hcz78_3
                try clear hcz78_4
                try clear hcz78_5
                try clear hcz81_0
                try clear hcz81_1
                try clear hcz81_2
                try clear hcz81_3
                try clear hcz81_4
                try clear hcz81_5
                try clear hcz83_0
                try clear hcz83_1
                try clear hcz83_2
                try clear hcz83_3
                try clear hcz83_4
                try clear hcz83_5
                try clear hcz85_0
                try clear hcz85_1
                try clear hcz85_2
                try clear hcz85_3
                try clear hcz85_4
                try clear hcz85_5
                try clear hcz86_0
                try clear hcz86_1
                try clear hcz86_2
                try clear hcz86_3
                try clear hcz86_4
                try clear hcz86_5
                try clear hcz89_0
                try clear hcz89_1
                try clear hcz89_2
                try clear hcz89_3
                try clear hcz89_4
                try clear hcz89_5
                try clear hcz90_0
                try clear hcz90_1
                try clear hcz90_2
                try clear hcz90_3
                try clear hcz90_4
                try clear hcz90_5
                try clear hcz93_0
                try clear hcz93_1
                try clear hcz93_2
                try clear hcz93_3
                try clear hcz93_4
                try clear hcz93_5
                try clear hcz95_0
                try clear hcz95_1
                try clear hcz95_2
                try clear hcz95_3
                try clear hcz95_4
                try clear hcz95_5
                try clear hcz96_0
                try clear hcz96_1
                try clear hcz96_2
                try clear hcz96_3
                try clear hcz96_4
                try clear hcz96_5
                try clear hcz97_0
                try clear hcz97_1
                try clear hcz97_2
                try clear hcz97_3
                try clear hcz97_4
                try clear hcz97_5
                try clear hcz98_0
                try clear hcz98_1
                try clear hcz98_2
                try clear hcz98_3
                try clear hcz98_4
                try clear hcz98_5
                try clear hfz102_0
                try clear hfz102_1
                try clear hfz102_2
                try clear hfz102_3
                try clear hfz102_4
                try clear hfz102_5
                try clear hfz103_0
                try clear hfz103_1
                try clear hfz103_2
                try clear hfz103_3
                try clear hfz103_4
                try clear hfz103_5
                try clear hfz105_0
                try clear hfz105_1
                try clear hfz105_2
                try clear hfz105_3
                try clear hfz105_4
                try clear hfz105_5
                try clear hfz112_0
                try clear hfz112_1
                try clear hfz112_2
                try clear hfz112_3
                try clear hfz112_4
                try clear hfz112_5
                try clear hfz115_0
                try clear hfz115_1
                try clear hfz118_0
                try clear hfz118_1
                try clear hfz121_0
                try clear hfz121_1
                try clear hfz124_0
                try clear hfz124_1
                try clear hfz55_0
                try clear hfz55_1
                try clear hfz55_2
                try clear hfz55_3
                try clear hfz55_4
                try clear hfz55_5
                try clear hfz59_0
                try clear hfz59_1
                try clear hfz59_2
                try clear hfz59_3
                try clear hfz59_4
                try clear hfz59_5
                try clear hfz61_0
                try clear hfz61_1
                try clear hfz61_2
                try clear hfz61_3
                try clear hfz61_4
                try clear hfz61_5
                try clear hfz63_0
                try clear hfz63_1
                try clear hfz63_2
                try clear hfz63_3
                try clear hfz63_4
                try clear hfz63_5
                try clear hfz64_0
                try clear hfz64_1
                try clear hfz64_2
                try clear hfz64_3
                try clear hfz64_4
                try clear hfz64_5
                try clear hfz67_0
                try clear hfz67_1
                try clear hfz67_2
                try clear hfz67_3
                try clear hfz67_4
                try clear hfz67_5
                try clear hfz68_0
                try clear hfz68_1
                try clear hfz68_2
                try clear hfz68_3
                try clear hfz68_4
                try clear hfz68_5
                try clear hfz71_0
                try clear hfz71_1
                try clear hfz71_2
                try clear hfz71_3
                try clear hfz71_4
                try clear hfz71_5
                try clear hfz73_0
                try clear hfz73_1
                try clear hfz73_2
                try clear hfz73_3
                try clear hfz73_4
                try clear hfz73_5
                try clear hfz74_0
                try clear hfz74_1
                try clear hfz74_2
                try clear hfz74_3
                try clear hfz74_4
                try clear hfz74_5
                try clear hfz75_0
                try clear hfz75_1
                try clear hfz75_2
                try clear hfz75_3
                try clear hfz75_4
                try clear hfz75_5
                try clear hfz78_0
                try clear hfz78_1
                try clear hfz78_2
                try clear hfz78_3
                try clear hfz78_4
                try clear hfz78_5
                try clear hfz81_0
                try clear hfz81_1
                try clear hfz81_2
                try clear hfz81_3
                try clear hfz81_4
                try clear hfz81_5
                try clear hfz83_0
                try clear hfz83_1
                try clear hfz83_2
                try clear hfz83_3
                try clear hfz83_4
                try clear hfz83_5
                try clear hfz85_0
                try clear hfz85_1
                try clear hfz85_2
                try clear hfz85_3
                try clear hfz85_4
                try clear hfz85_5
                try clear hfz86_0
                try clear hfz86_1
                try clear hfz86_2
                try clear hfz86_3
                try clear hfz86_4
                try clear hfz86_5
                try clear hfz89_0
                try clear hfz89_1
                try clear hfz89_2
                try clear hfz89_3
                try clear hfz89_4
                try clear hfz89_5
                try clear hfz90_0
                try clear hfz90_1
                try clear hfz90_2
                try clear hfz90_3
                try clear hfz90_4
                try clear hfz90_5
                try clear hfz93_0
                try clear hfz93_1
                try clear hfz93_2
                try clear hfz93_3
                try clear hfz93_4
                try clear hfz93_5
                try clear hfz95_0
                try clear hfz95_1
                try clear hfz95_2
                try clear hfz95_3
                try clear hfz95_4
                try clear hfz95_5
                try clear hfz96_0
                try clear hfz96_1
                try clear hfz96_2
                try clear hfz96_3
                try clear hfz96_4
                try clear hfz96_5
                try clear hfz97_0
                try clear hfz97_1
                try clear hfz97_2
                try clear hfz97_3
                try clear hfz97_4
                try clear hfz97_5
                try clear hfz98_0
                try clear hfz98_1
                try clear hfz98_2
                try clear hfz98_3
                try clear hfz98_4
                try clear hfz98_5
                try clear hx137_0
                try clear hx137_1
                try clear p137
                try clear p2
                try clear q137
                obtain ⟨kq, x123_110, rfl, HA, HJ110, BK135, BK138, HB⟩ := hcut
                cases kq with
                | zero => exact absurd HA.out (by simp [shibbolethref06_Right.j4])
                | succ kj110 =>
                 have H := HA.out
                 clear HA
                 simp only [shibbolethref06_Right.j4] at H
                 by_cases c125 : x123_110 = true
                 ·subst c125
                  have H1 : (some false) = some r := by rw [if_pos rfl] at H; exact H
                  clear H
                  have H := H1
                  clear H1
                  obtain rfl := Option.some.inj H
                  go_wp2
                  repeat (go_quiet (fail); try go_wp2)
                  go_ret
                  exact ⟨by first | rfl | (simp [errW_none, errW_some] <;> rfl) | (simp [*, errW_none, errW_some] <;> rfl), by qb2_ GE135 GE138⟩
                 ·replace c125 := Bool.eq_false_iff.mpr c125
                  subst c125
                  have H1 : (if x5_4 > 0 then (if 0 ≤ (wrap64 (x5_4 - 1)) then (if (wrap64 (x5_4 - 1)) < (l0_2.length : Int) then (if ((rd_T102 l0_2 (wrap64 (x5_4 - 1))).f0) < 2 then (some false) else (if ((rd_T102 l0_2 x5_4).f1) > (wrap64 (((rd_T102 l0_2 (wrap64 (x5_4 - 1))).f0) - 2)) then (some false) else (shibbolethref06_Right.l0 kj110 (wrap64 (x5_4 + 1)) a0_0 a0_1 l0_2 a0_3 l0_4 a0_5))) else (none)) else (none)) else (shibbolethref06_Right.l0 kj110 (wrap64 (x5_4 + 1)) a0_0 a0_1 l0_2 a0_3 l0_4 a0_5)) = some r := by rw [if_neg (show ¬ (false = true) by decide)] at H; exact H
                  clear H
                  have H := H1
                  clear H1
                  by_cases c126 : x5_4 > 0
                  ·rw [if_pos c126] at H
                   have c126b0 : decide (0 < x5_4) = true := decide_eq_true c126
                   clear c126
                   obtain ⟨ji127, hji127⟩ : ∃ j_ : Int, (wrap64 (x5_4 - 1)) = j_ := ⟨_, rfl⟩
                   replace H : (if 0 ≤ (ji127) then (if (ji127) < (l0_2.length : Int) then (if ((rd_T102 l0_2 (ji127)).f0) < 2 then (some false) else (if ((rd_T102 l0_2 x5_4).f1) > (wrap64 (((rd_T102 l0_2 (ji127)).f0) - 2)) then (some false) else (shibbolethref06_Right.l0 kj110 (wrap64 (x5_4 + 1)) a0_0 a0_1 l0_2 a0_3 l0_4 a0_5))) else (none)) else (none)) = some r := by first | (rw [hji127] at H; exact H) | (simp only [hji127] at H ⊢; exact H)
                   have hji127w : (IntKind.i64.wrap (x5_4 - 1)) = ji127 := (i64_w _).trans hji127
                   by_cases c128 : 0 ≤ (ji127)
                   ·rw [if_pos c128] at H
                    have c128b0 : decide (0 ≤ (ji127)) = true := decide_eq_true c128
                    clear c128
                    by_cases c129 : (ji127) < (l0_2.length : Int)
                    ·rw [if_pos c129] at H
                     have c129b0 : decide ((ji127) < (l0_2.length : Int)) = true := decide_eq_true c129
                     clear c129
                     by_cases c130 : ((rd_T102 l0_2 (ji127)).f0) < 2
                     ·rw [if_pos c130] at H
                      have c130b0 : decide (((rd_T102 l0_2 (ji127)).f0) < 2) = true := decide_eq_true c130
                      clear c130
                      obtain rfl := Option.some.inj H
                      have hnb131 := NB135_138.out
                      have hnc131 := NB138_135.out
                      have hcz132_0 : wc.cell? ⟨gb135, 0, none⟩ = some (.int .i64 a0_0) := (blk_cell BK135.out 0).trans rfl
                      have hcz132_1 : wc.cell? ⟨gb135, 1, none⟩ = some (.int .i64 a0_1) := (blk_cell BK135.out 1).trans rfl
                      have hcz132_2 : wc.cell? ⟨gb135, 2, none⟩ = some (.slice (some ad137) l0_2.length c0_2) := (blk_cell BK135.out 2).trans rfl
                      have hcz132_3 : wc.cell? ⟨gb135, 3, none⟩ = some (.int .i64 a0_3) := (blk_cell BK135.out 3).trans rfl
                      have hcz132_4 : wc.cell? ⟨gb135, 4, none⟩ = some (.slice A0_4 l0_4.length c0_4) := (blk_cell BK135.out 4).trans rfl
                      have hcz132_5 : wc.cell? ⟨gb135, 5, none⟩ = some (.int .i64 a0_5) := (blk_cell BK135.out 5).trans rfl
                      have hfz132_0 := blk_frozen BK135.out 0
                      have hfz132_1 := blk_frozen BK135.out 1
                      have hfz132_2 := blk_frozen BK135.out 2
                      have hfz132_3 := blk_frozen BK135.out 3
                      have hfz132_4 := blk_frozen BK135.out 4
                      have hfz132_5 := blk_frozen BK135.out 5
                      have p140 : 0 ≤ ((ji127) : Int) := of_decide_eq_true (pl112_)
                      have q140 : (ji127) < (l0_2.length : Int) := of_decide_eq_true (pl112_)
                      ll112_
                      obtain rfl : ad137 = ad140 := (by injection e140)
                      ll113_
                      ll114_
                      replace p140 := eq_true p140
                      replace q140 := eq_true q140
                      go_wp2
                      repeat (go_quiet (fail); try go_wp2)
                      go_ret
                      ll115_
                     ·rw [if_neg c130] at H
                      have c130b0 : decide (((rd_T102 l0_2 (ji127)).f0) < 2) = false := decide_eq_false c130
                      clear c130
                      by_cases c133 : ((rd_T102 l0_2 x5_4).f1) > (wrap64 (((rd_T102 l0_2 (ji127)).f0) - 2))
                      ·rw [if_pos c133] at H
                       have c133b0 : decide ((wrap64 (((rd_T102 l0_2 (ji127)).f0) - 2)) < ((rd_T102 l0_2 x5_4).f1)) = true := decide_eq_true c133
                       clear c133
                       obtain rfl := Option.some.inj H
                       have hnb134 := NB135_138.out
                       have hnc134 := NB138_135.out
                       have hcz135_0 : wc.cell? ⟨gb135, 0, none⟩ = some (.int .i64 a0_0) := (blk_cell BK135.out 0).trans rfl
                       have hcz135_1 : wc.cell? ⟨gb135, 1, none⟩ = some (.int .i64 a0_1) := (blk_cell BK135.out 1).trans rfl
                       have hcz135_2 : wc.cell? ⟨gb135, 2, none⟩ = some (.slice (some ad137) l0_2.length c0_2) := (blk_cell BK135.out 2).trans rfl
                       have hcz135_3 : wc.cell? ⟨gb135, 3, none⟩ = some (.int .i64 a0_3) := (blk_cell BK135.out 3).trans rfl
                       have hcz135_4 : wc.cell? ⟨gb135, 4, none⟩ = some (.slice A0_4 l0_4.length c0_4) := (blk_cell BK135.out 4).trans rfl
                       have hcz135_5 : wc.cell? ⟨gb135, 5, none⟩ = some (.int .i64 a0_5) := (blk_cell BK135.out 5).trans rfl
                       have hfz135_0 := blk_frozen BK135.out 0
                       have hfz135_1 := blk_frozen BK135.out 1
                       have hfz135_2 := blk_frozen BK135.out 2
                       have hfz135_3 := blk_frozen BK135.out 3
                       have hfz135_4 := blk_frozen BK135.out 4
                       have hfz135_5 := blk_frozen BK135.out 5
                       have p140 : 0 ≤ ((ji127) : Int) := of_decide_eq_true (pl112_)
                       have q140 : (ji127) < (l0_2.length : Int) := of_decide_eq_true (pl112_)
                       ll112_
                       obtain rfl : ad137 = ad140 := (by injection e140)
                       ll113_
                       ll114_
                       replace p140 := eq_true p140
                       replace q140 := eq_true q140
                       have hcz136_0 : wc.cell? ⟨gb138, 0, none⟩ = some (.int .i64 ((rd_T102 l0_2 x5_4).f0)) := (blk_cell BK138.out 0).trans rfl
                       have hcz136_1 : wc.cell? ⟨gb138, 1, none⟩ = some (.int .i64 ((rd_T102 l0_2 x5_4).f1)) := (blk_cell BK138.out 1).trans rfl
                       have hfz136_0 := blk_frozen BK138.out 0
                       have hfz136_1 := blk_frozen BK138.out 1
                       have p141 : 0 ≤ ((ji127) : Int) := of_decide_eq_true (pl112_)
                       have q141 : (ji127) < (l0_2.length : Int) := of_decide_eq_true (pl112_)
                       obtain ⟨ad141, e141, hx141_0, hx141_1⟩ := at_T102 HR0_2.out (ji127) p141 q141
                       obtain rfl : ad137 = ad141 := (by injection e141)
                       replace hx141_0 := (HB.out.cell (World.block_lt_of_cell? w _ hx141_0)).trans hx141_0
                       replace hx141_1 := (HB.out.cell (World.block_lt_of_cell? w _ hx141_1)).trans hx141_1
                       replace p141 := eq_true p141
                       replace q141 := eq_true q141
                       go_wp2
                       repeat (go_quiet (fail); try go_wp2)
                       go_ret
                       ll115_
                      ·rw [if_neg c133] at H
                       have c133b0 : decide ((wrap64 (((rd_T102 l0_2 (ji127)).f0) - 2)) < ((rd_T102 l0_2 x5_4).f1)) = false := decide_eq_false c133
                       clear c133
                       have H' := Aside0.mk H
                       clear H
                       have hnb137 := NB135_138.out
                       have hnc137 := NB138_135.out
                       have hcz138_0 : wc.cell? ⟨gb135, 0, none⟩ = some (.int .i64 a0_0) := (blk_cell BK135.out 0).trans rfl
                       have hcz138_1 : wc.cell? ⟨gb135, 1, none⟩ = some (.int .i64 a0_1) := (blk_cell BK135.out 1).trans rfl
                       have hcz138_2 : wc.cell? ⟨gb135, 2, none⟩ = some (.slice (some ad137) l0_2.length c0_2) := (blk_cell BK135.out 2).trans rfl
                       have hcz138_3 : wc.cell? ⟨gb135, 3, none⟩ = some (.int .i64 a0_3) := (blk_cell BK135.out 3).trans rfl
                       have hcz138_4 : wc.cell? ⟨gb135, 4, none⟩ = some (.slice A0_4 l0_4.length c0_4) := (blk_cell BK135.out 4).trans rfl
                       have hcz138_5 : wc.cell? ⟨gb135, 5, none⟩ = some (.int .i64 a0_5) := (blk_cell BK135.out 5).trans rfl
                       have hfz138_0 := blk_frozen BK135.out 0
                       have hfz138_1 := blk_frozen BK135.out 1
                       have hfz138_2 := blk_frozen BK135.out 2
                       have hfz138_3 := blk_frozen BK135.out 3
                       have hfz138_4 := blk_frozen BK135.out 4
                       have hfz138_5 := blk_frozen BK135.out 5
                       have p140 : 0 ≤ ((ji127) : Int) := of_decide_eq_true (pl112_)
                       have q140 : (ji127) < (l0_2.length : Int) := of_decide_eq_true (pl112_)
                       ll112_
                       obtain rfl : ad137 = ad140 := (by injection e140)
                       ll113_
                       ll114_
                       replace p140 := eq_true p140
                       replace q140 := eq_true q140
                       have hcz139_0 : wc.cell? ⟨gb138, 0, none⟩ = some (.int .i64 ((rd_T102 l0_2 x5_4).f0)) := (blk_cell BK138.out 0).trans rfl
                       have hcz139_1 : wc.cell? ⟨gb138, 1, none⟩ = some (.int .i64 ((rd_T102 l0_2 x5_4).f1)) := (blk_cell BK138.out 1).trans rfl
                       have hfz139_0 := blk_frozen BK138.out 0
                       have hfz139_1 := blk_frozen BK138.out 1
                       have p141 : 0 ≤ ((ji127) : Int) := of_decide_eq_true (pl112_)
                       have q141 : (ji127) < (l0_2.length : Int) := of_decide_eq_true (pl112_)
                       obtain ⟨ad141, e141, hx141_0, hx141_1⟩ := at_T102 HR0_2.out (ji127) p141 q141
                       obtain rfl : ad137 = ad141 := (by injection e141)
                       replace hx141_0 := (HB.out.cell (World.block_lt_of_cell? w _ hx141_0)).trans hx141_0
                       replace hx141_1 := (HB.out.cell (World.block_lt_of_cell? w _ hx141_1)).trans hx141_1
                       replace p141 := eq_true p141
                       replace q141 := eq_true q141
                       go_wp2
                       repeat (go_quiet (fail); try go_wp2)
                       go_roundg kj110
                       case measure => have := HJ1.out; have := HJ7.out; have := HJ103.out; have := HK4.out; have := HJ110.out; omega
                       case rel => exact ⟨(wrap64 (x5_4 + 1)), (pl111_), H', ⟨by have := HJ1.out; have := HJ7.out; have := HJ103.out; have := HK4.out; have := HJ110.out; omega⟩, ⟨by qk_; exact BK135.out⟩, ⟨by qb2_ GE135 GE138⟩⟩
                    ·rw [if_neg c129] at H
                     exact absurd H (by simp)
                   ·rw [if_neg c128] at H
                    exact absurd H (by simp)
                  ·rw [if_neg c126] at H
                   have c126b0 : decide (0 < x5_4) = false := decide_eq_false c126
                   clear c126
                   have H' := Aside0.mk H
                   clear H
                   go_wp2
                   repeat (go_quiet (fail); try go_wp2)
                   go_roundg kj110
                   case measure => have := HJ1.out; have := HJ7.out; have := HJ103.out; have := HK4.out; have := HJ110.out; omega
                   case rel => exact ⟨(wrap64 (x5_4 + 1)), (pl111_), H', ⟨by have := HJ1.out; have := HJ7.out; have := HJ103.out; have := HK4.out; have := HJ110.out; omega⟩, ⟨by qk_; exact BK135.out⟩, ⟨by qb2_ GE135 GE138⟩⟩
              ·rw [if_neg c110] at H
               exact absurd H (by simp)
             ·rw [if_neg c109] at H
              have c109b0 : decide (x5_4 < (l0_2.length : Int)) = false := decide_eq_false c109
              clear c109
              by_cases c140 : (l0_2.length : Int) ≥ 1
              ·rw [if_pos c140] at H
               have c140b0 : decide (1 ≤ (l0_2.length : Int)) = true := decide_eq_true c140
               have c140b1 : decide (1 ≤ l0_2.length) = true := decide_eq_true (by omega)
               clear c140
               obtain rfl := Option.some.inj H
               have hcz141_0 : wr.cell? ⟨gb135, 0, none⟩ = some (.int .i64 a0_0) := (blk_cell BK135.out 0).trans rfl
               have hcz141_1 : wr.cell? ⟨gb135, 1, none⟩ = some (.int .i64 a0_1) := (blk_cell BK135.out 1).trans rfl
               have hcz141_2 : wr.cell? ⟨gb135, 2, none⟩ = some (.slice A0_2 l0_2.length c0_2) := (blk_cell BK135.out 2).trans rfl
               have hcz141_3 : wr.cell? ⟨gb135, 3, none⟩ = some (.int .i64 a0_3) := (blk_cell BK135.out 3).trans rfl
               have hcz141_4 : wr.cell? ⟨gb135, 4, none⟩ = some (.slice A0_4 l0_4.length c0_4) := (blk_cell BK135.out 4).trans rfl
               have hcz141_5 : wr.cell? ⟨gb135, 5, none⟩ = some (.int .i64 a0_5) := (blk_cell BK135.out 5).trans rfl
               have hfz141_0 := blk_frozen BK135.out 0
               have hfz141_1 := blk_frozen BK135.out 1
               have hfz141_2 := blk_frozen BK135.out 2
               have hfz141_3 := blk_frozen BK135.out 3
               have hfz141_4 := blk_frozen BK135.out 4
               have hfz141_5 := blk_frozen BK135.out 5
               go_wp2
               repeat (go_quiet (fail); try go_wp2)
               go_ret
               ll111_
              ·rw [if_neg c140] at H
               have c140b0 : decide (1 ≤ (l0_2.length : Int)) = false := decide_eq_false c140
               have c140b1 : decide (1 ≤ l0_2.length) = false := decide_eq_false (by omega)
               clear c140
               obtain rfl := Option.some.inj H
               have hcz142_0 : wr.cell? ⟨gb135, 0, none⟩ = some (.int .i64 a0_0) := (blk_cell BK135.out 0).trans rfl
               have hcz142_1 : wr.cell? ⟨gb135, 1, none⟩ = some (.int .i64 a0_1) := (blk_cell BK135.out 1).trans rfl
               have hcz142_2 : wr.cell? ⟨gb135, 2, none⟩ = some (.slice A0_2 l0_2.length c0_2) := (blk_cell BK135.out 2).trans rfl
               have hcz142_3 : wr.cell? ⟨gb135, 3, none⟩ = some (.int .i64 a0_3) := (blk_cell BK135.out 3).trans rfl
               have hcz142_4 : wr.cell? ⟨gb135, 4, none⟩ = some (.slice A0_4 l0_4.length c0_4) := (blk_cell BK135.out 4).trans rfl
               have hcz142_5 : wr.cell? ⟨gb135, 5, none⟩ = some (.int .i64 a0_5) := (blk_cell BK135.out 5).trans rfl
               have hfz142_0 := blk_frozen BK135.out 0
               have hfz142_1 := blk_frozen BK135.out 1
               have hfz142_2 := blk_frozen BK135.out 2
               have hfz142_3 := blk_frozen BK135.out 3
               have hfz142_4 := blk_frozen BK135.out 4
               have hfz142_5 := blk_frozen BK135.out 5
               go_wp2
               repeat (go_quiet (fail); try go_wp2)
               go_ret
               ll111_
          ·exfalso; omega
end Go.Proofs.YtbcleckapamicaaDoor.QFr
