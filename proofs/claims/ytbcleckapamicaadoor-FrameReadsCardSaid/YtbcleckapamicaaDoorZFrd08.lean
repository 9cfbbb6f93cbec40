/- A part of the proof of the law FrameReads: QFrx7. -/
import Derived.Test.YtbcleckapamicaaDoorZFrd02
import Derived.Test.YtbcleckapamicaaDoorZFrd05
import Derived.Test.YtbcleckapamicaaDoorZFrd07
namespace Go.Proofs.YtbcleckapamicaaDoor.QFr
open Go.RowKit Go.Proofs.YtbcleckapamicaaDoorW.PrintWords Go.Proofs.YtbcleckapamicaaDoorW.PrintLast Go.Proofs.YtbcleckapamicaaDoorW.PrintMore
attribute [local go_sem] max2_int min2_int max_two min_two max_three min_three max_four min_four
set_option linter.unusedVariables false
set_option linter.unusedSimpArgs false
open Go.Proofs.YtbcleckapamicaaDoor.Gv (TB TB.below TB.alloc TB.drew TB.drewN)
set_option hygiene false
local macro "on130_" : term => `(.cells #[.int .i64 ((rd_T58 l0 x14_1).f0), .int .i64 ((rd_T58 l0 x14_1).f1), .slice A198_2 ((rd_T58 l0 x14_1).f2).length c198_2, .int .i64 ((rd_T58 l0 x14_1).f3), .slice A198_4 ((rd_T58 l0 x14_1).f4).length c198_4, .int .i64 ((rd_T58 l0 x14_1).f5)] 58 (0, 0))
local macro "on131_" : term => `(.cells #[.int .i64 ((rd_T58 l0 x43_2).f0), .int .i64 ((rd_T58 l0 x43_2).f1), .slice A202_2 ((rd_T58 l0 x43_2).f2).length c202_2, .int .i64 ((rd_T58 l0 x43_2).f3), .slice A202_4 ((rd_T58 l0 x43_2).f4).length c202_4, .int .i64 ((rd_T58 l0 x43_2).f5)] 58 (0, 0))
local macro "pn130_" : term => `((by qk_; refine blk_put (cs := #[.int .i64 ((rd_T58 l0 x14_1).f0), .int .i64 ((rd_T58 l0 x14_1).f1), .slice A198_2 ((rd_T58 l0 x14_1).f2).length c198_2, .int .i64 ((rd_T58 l0 x14_1).f3), .slice A198_4 ((rd_T58 l0 x14_1).f4).length c198_4, .int .i64 0]) ?_ 5 _ rfl; qk_; refine blk_put (cs := #[.int .i64 ((rd_T58 l0 x14_1).f0), .int .i64 ((rd_T58 l0 x14_1).f1), .slice A198_2 ((rd_T58 l0 x14_1).f2).length c198_2, .int .i64 ((rd_T58 l0 x14_1).f3), .slice none 0 0, .int .i64 0]) ?_ 4 _ rfl; qk_; refine blk_put (cs := #[.int .i64 ((rd_T58 l0 x14_1).f0), .int .i64 ((rd_T58 l0 x14_1).f1), .slice A198_2 ((rd_T58 l0 x14_1).f2).length c198_2, .int .i64 0, .slice none 0 0, .int .i64 0]) ?_ 3 _ rfl; qk_; refine blk_put (cs := #[.int .i64 ((rd_T58 l0 x14_1).f0), .int .i64 ((rd_T58 l0 x14_1).f1), .slice none 0 0, .int .i64 0, .slice none 0 0, .int .i64 0]) ?_ 2 _ rfl; qk_; refine blk_put (cs := #[.int .i64 ((rd_T58 l0 x14_1).f0), .int .i64 0, .slice none 0 0, .int .i64 0, .slice none 0 0, .int .i64 0]) ?_ 1 _ rfl; qk_; refine blk_put (cs := #[.int .i64 0, .int .i64 0, .slice none 0 0, .int .i64 0, .slice none 0 0, .int .i64 0]) ?_ 0 _ rfl; qk_; exact BK199.out))
local macro "pn131_" : term => `((by qR_; exact (Kd.R_mono (Kd.R_far (p := ⟨gb203, 5, none⟩) (Kd.R_far (p := ⟨gb203, 4, none⟩) (Kd.R_far (p := ⟨gb203, 3, none⟩) (Kd.R_far (p := ⟨gb203, 2, none⟩) (Kd.R_far (p := ⟨gb203, 1, none⟩) (Kd.R_far (p := ⟨gb203, 0, none⟩) (Kd.R_types HO_6.out BK203.out (by decide)) (fun _ hk => hk.2) (.int .i64 ((rd_T58 l0 x43_2).f0))) (fun _ hk => hk.2) (.int .i64 ((rd_T58 l0 x43_2).f1))) (fun _ hk => hk.2) (.slice A202_2 ((rd_T58 l0 x43_2).f2).length c202_2)) (fun _ hk => hk.2) (.int .i64 ((rd_T58 l0 x43_2).f3))) (fun _ hk => hk.2) (.slice A202_4 ((rd_T58 l0 x43_2).f4).length c202_4)) (fun _ hk => hk.2) (.int .i64 ((rd_T58 l0 x43_2).f5))) (fun _ h_ => h_.1))))
local macro "pn132_" : term => `((by (try simp only [List.map_toArray, List.map_cons, List.map_nil]); first | done | rfl | (simp only [List.length_drop, List.length_take]; rfl)))
local macro "pn133_" : term => `((by first | (with_reducible assumption) | assumption))
local macro "pn134_" : term => `((frame_Right.calls k1 ((rd_T58 l0 x14_1).f0) ((rd_T58 l0 x14_1).f1) _ _ ((rd_T58 l0 x14_1).f2) ((rd_T58 l0 x14_1).f3) _ _ ((rd_T58 l0 x14_1).f4) ((rd_T58 l0 x14_1).f5) true _ ?side1 ?side2 ?side3 ?side4 A6.out))
local macro "pn135_" : term => `((by rw [hg]; exact (below_size (by qc0_)) : w.heap.size ≤ gb199))
local macro "pn136_" : term => `((frame_Write.l0 k1 l0 l0 (l0.length : Int) (wrap64 (x14_1 + 1))))
local macro "pn137_" : term => `((by first | rfl | (simp; done) | (simp [*]; done)))
local macro "pn138_" : term => `((by rw [hg]; exact (below_size (by qc0_)) : w.heap.size ≤ gb203))
local macro "ln130_" : tactic => `(tactic| (simp only [Option.some.injEq, Prod.mk.injEq] at H))
local macro "ln131_" : tactic => `(tactic| (have p198 : 0 ≤ (x14_1 : Int) := of_decide_eq_true (pn133_)))
local macro "ln132_" : tactic => `(tactic| (have q198 : x14_1 < (l0.length : Int) := of_decide_eq_true (pn133_)))
local macro "ln133_" : tactic => `(tactic| (obtain ⟨ad198, A198_2, c198_2, A198_4, c198_4, e198, hx198_0, hx198_1, hx198_2, hx198_3, hx198_4, hx198_5, hl198_2, hi198_2, hl198_4, hi198_4⟩ := at_T58 HR0.out x14_1 p198 q198))
local macro "ln134_" : tactic => `(tactic| (replace hx198_0 := (HB.out.cell (World.block_lt_of_cell? w _ hx198_0)).trans hx198_0))
local macro "ln135_" : tactic => `(tactic| (replace hx198_1 := (HB.out.cell (World.block_lt_of_cell? w _ hx198_1)).trans hx198_1))
local macro "ln136_" : tactic => `(tactic| (replace hx198_2 := (HB.out.cell (World.block_lt_of_cell? w _ hx198_2)).trans hx198_2))
local macro "ln137_" : tactic => `(tactic| (replace hx198_3 := (HB.out.cell (World.block_lt_of_cell? w _ hx198_3)).trans hx198_3))
local macro "ln138_" : tactic => `(tactic| (replace hx198_4 := (HB.out.cell (World.block_lt_of_cell? w _ hx198_4)).trans hx198_4))
local macro "ln139_" : tactic => `(tactic| (replace hx198_5 := (HB.out.cell (World.block_lt_of_cell? w _ hx198_5)).trans hx198_5))
local macro "ln1310_" : tactic => `(tactic| (obtain ⟨ad202, A202_2, c202_2, A202_4, c202_4, e202, hx202_0, hx202_1, hx202_2, hx202_3, hx202_4, hx202_5, hl202_2, hi202_2, hl202_4, hi202_4⟩ := at_T58 HR0.out x43_2 p202 q202))
set_option hygiene true
mutual
def frame_Write.l0 : Nat → List (S58) → List (S58) → Int → Int → Option (List Int × Int)
 | 0, _, _, _, _ => none
 | k + 1, x0, x12, x13, x14 => if x14 < x13 then (if 0 ≤ x14 then (if x14 < (x12.length : Int) then ((frame_Right.f k ((rd_T58 x12 x14).f0) ((rd_T58 x12 x14).f1) ((rd_T58 x12 x14).f2) ((rd_T58 x12 x14).f3) ((rd_T58 x12 x14).f4) ((rd_T58 x12 x14).f5)).bind fun t200 => (if t200 = true then (if x14 > 0 then (if ((rd_T58 x12 x14).f0) = 0 then (if 0 ≤ (wrap64 (x14 - 1)) then (if (wrap64 (x14 - 1)) < (x0.length : Int) then (if ((rd_T58 x0 (wrap64 (x14 - 1))).f0) = 0 then (some (([] : List Int), 1)) else (frame_Write.l0 k x0 x12 x13 (wrap64 (x14 + 1)))) else (none)) else (none)) else (frame_Write.l0 k x0 x12 x13 (wrap64 (x14 + 1)))) else (frame_Write.l0 k x0 x12 x13 (wrap64 (x14 + 1)))) else (some (([] : List Int), 1)))) else (none)) else (none)) else (frame_Write.l1 k ([] : List Int) x0 (x0.length : Int) 0)
def frame_Write.l1 : Nat → List Int → List (S58) → Int → Int → Option (List Int × Int)
 | 0, _, _, _, _ => none
 | k + 1, x6, x41, x42, x43 => if x43 < x42 then (if 0 ≤ x43 then (if x43 < (x41.length : Int) then ((frame_bytes.f k ((rd_T58 x41 x43).f0) ((rd_T58 x41 x43).f1) ((rd_T58 x41 x43).f2) ((rd_T58 x41 x43).f3) ((rd_T58 x41 x43).f4) ((rd_T58 x41 x43).f5)).bind fun t204 => (if x6.length + t204.length < 140737488355328 then ((some (x6 ++ t204 : List Int)).bind fun y207 => (if (y207.length : Int) > 1200 then (some (([] : List Int), 4)) else (frame_Write.l1 k y207 x41 x42 (wrap64 (x43 + 1))))) else (none))) else (none)) else (none)) else (some (x6, 0))
end
def frame_Write.f (k : Nat) (l0 : List (S58)) : Option (List Int × Int) := if (l0.length : Int) = 0 then (some (([] : List Int), 1)) else (frame_Write.l0 k l0 l0 (l0.length : Int) 0)
theorem frame_Write.mono_l : ∀ k, (∀ y0 y1 y2 y3, LeO (frame_Write.l0 k y0 y1 y2 y3) (frame_Write.l0 (k + 1) y0 y1 y2 y3)) ∧ (∀ y0 y1 y2 y3, LeO (frame_Write.l1 k y0 y1 y2 y3) (frame_Write.l1 (k + 1) y0 y1 y2 y3))
 | 0 => ⟨fun _ _ _ _ r h => by simp [frame_Write.l0] at h, fun _ _ _ _ r h => by simp [frame_Write.l1] at h⟩
 | k + 1 => by
  obtain ⟨ih0, ih1⟩ := frame_Write.mono_l k
  refine ⟨?_, ?_⟩
  ·intro y0 y1 y2 y3
   unfold frame_Write.l0
   repeat' first
   | (with_reducible exact ih0 _ _ _ _)
   | (with_reducible exact ih1 _ _ _ _)
   | (with_reducible exact frame_Right.mono _ _ _ _ _ _ _)
   | (with_reducible exact frame_bytes.mono _ _ _ _ _ _ _)
   | (with_reducible exact LeO.refl _)
   | (with_reducible exact LeO.none _)
   | (with_reducible refine LeO.ite ?_ ?_)
   | (with_reducible refine LeO.bind ?_ (fun _ => ?_))
   | exact ih0 _ _ _ _
   | exact ih1 _ _ _ _
   | exact frame_Right.mono _ _ _ _ _ _ _
   | exact frame_bytes.mono _ _ _ _ _ _ _
   | exact LeO.none _
   | refine LeO.ite ?_ ?_
   | refine LeO.bind ?_ (fun _ => ?_)
  ·intro y0 y1 y2 y3
   unfold frame_Write.l1
   repeat' first
   | (with_reducible exact ih0 _ _ _ _)
   | (with_reducible exact ih1 _ _ _ _)
   | (with_reducible exact frame_Right.mono _ _ _ _ _ _ _)
   | (with_reducible exact frame_bytes.mono _ _ _ _ _ _ _)
   | (with_reducible exact LeO.refl _)
   | (with_reducible exact LeO.none _)
   | (with_reducible refine LeO.ite ?_ ?_)
   | (with_reducible refine LeO.bind ?_ (fun _ => ?_))
   | exact ih0 _ _ _ _
   | exact ih1 _ _ _ _
   | exact frame_Right.mono _ _ _ _ _ _ _
   | exact frame_bytes.mono _ _ _ _ _ _ _
   | exact LeO.none _
   | refine LeO.ite ?_ ?_
   | refine LeO.bind ?_ (fun _ => ?_)
theorem frame_Write.mono : ∀ a0 k, LeO (frame_Write.f k a0) (frame_Write.f (k + 1) a0) := by
 intro a0 k
 obtain ⟨ih0, ih1⟩ := frame_Write.mono_l k
 unfold frame_Write.f
 repeat' first
   | (with_reducible exact ih0 _ _ _ _)
   | (with_reducible exact ih1 _ _ _ _)
   | (with_reducible exact frame_Right.mono _ _ _ _ _ _ _)
   | (with_reducible exact frame_bytes.mono _ _ _ _ _ _ _)
   | (with_reducible exact LeO.refl _)
   | (with_reducible exact LeO.none _)
   | (with_reducible refine LeO.ite ?_ ?_)
   | (with_reducible refine LeO.bind ?_ (fun _ => ?_))
   | exact ih0 _ _ _ _
   | exact ih1 _ _ _ _
   | exact frame_Right.mono _ _ _ _ _ _ _
   | exact frame_bytes.mono _ _ _ _ _ _ _
   | exact LeO.none _
   | refine LeO.ite ?_ ?_
   | refine LeO.bind ?_ (fun _ => ?_)
set_option maxHeartbeats 8000000 in
set_option maxRecDepth 100000 in
theorem frame_Write.calls (k : Nat) (A0 : Option Addr) (c0 : Nat) (l0 : List (S58)) (r1 : List Int) (r2 : Int) (w : World) (hr0 : Kd.C k58 w A0 l0.length l0) (hc0 : l0.length ≤ c0) (ht : TB w) (h : frame_Write.f k l0 = some (r1, r2)) :
  Calls Tryd.prog 45 #[.slice A0 l0.length c0] w fun e w' => ∃ v0_ : Value, e = .returned (.tuple #[v0_, .int .i64 r2]) ∧ Kd.R (Kd.int .u8) 5 w' w.heap.size (fun _ => True) v0_ r1 ∧ Below w.heap.size w w' := by
 have HT := Aside0.mk ht
 clear ht
 have hu58 := Tryd.underlying58
 have HR0 := Aside0.mk hr0
 have HC0 := Aside0.mk hc0
 clear hr0 hc0
 have HB := Aside0.mk (Below.refl w.heap.size w)
 have H : (if (l0.length : Int) = 0 then (some (([] : List Int), 1)) else (frame_Write.l0 k l0 l0 (l0.length : Int) 0)) = some (r1, r2) := h
 clear h
 by_cases c2 : (l0.length : Int) = 0
 ·rw [if_pos c2] at H
  have c2b0 : ((l0.length : Int) == 0) = true := beq_iff_eq.mpr c2
  have c2b1 : ((l0.length : Int) != 0) = false := bne_eq_false_iff_eq.mpr c2
  clear c2
  ln130_
  obtain ⟨rfl, rfl⟩ := H
  go_enter Tryd.func45, Tryd.ntmps45
  go_wp2
  go_ret2
  exact ⟨_, by first | rfl | (simp [errW_none, errW_some] <;> rfl) | (simp [*, errW_none, errW_some] <;> rfl), by first | exact Kd.R_nil _ _ _ _ _ | exact Kd.N_nil _ _ _ _ _ | exact Kd.V_nil _ _ _ _ _ | exact Kd.Q_nil _ _ _ _ _ | exact Kd.S_nil _ _ _ _ _, by qc0_⟩
 ·rw [if_neg c2] at H
  have c2b0 : ((l0.length : Int) == 0) = false := beq_eq_false_iff_ne.mpr c2
  have c2b1 : ((l0.length : Int) != 0) = true := bne_iff_ne.mpr c2
  have c2b2 : ¬ (l0 = []) := fun h_ => c2 (by rw [h_]; rfl)
  have H' := Aside0.mk H
  clear H
  go_enter Tryd.func45, Tryd.ntmps45
  go_wp2
  go_loopg [14] k (fun kq v14 w' => ∃ (x14_1 : Int), v14 = .int .i64 x14_1 ∧ Aside0 (frame_Write.l0 kq l0 l0 (l0.length : Int) x14_1 = some (r1, r2)) ∧ Aside0 (kq ≤ k) ∧ Aside0 (Below w.heap.size w w'))
  case atStart => exact ⟨(0), (pn137_), H', ⟨Nat.le_refl _⟩, ⟨by qc0_⟩⟩
  case round =>
   clear H'
   try clear c2
   try clear c2b0
   try clear c2b1
   try clear c2b2
   try clear p2
   obtain ⟨x14_1, rfl, HA, HK1, HB⟩ := hrel
   cases gk with
   | zero => exact absurd HA.out (by simp [frame_Write.l0])
   | succ k1 =>
    have H := HA.out
    clear HA
    simp only [frame_Write.l0] at H
    by_cases c3 : x14_1 < (l0.length : Int)
    ·rw [if_pos c3] at H
     have c3b0 : decide (x14_1 < (l0.length : Int)) = true := decide_eq_true c3
     clear c3
     by_cases c4 : 0 ≤ x14_1
     ·rw [if_pos c4] at H
      have c4b0 : decide (0 ≤ x14_1) = true := decide_eq_true c4
      clear c4
      by_cases c5 : x14_1 < (l0.length : Int)
      ·rw [if_pos c5] at H
       have c5b0 : decide (x14_1 < (l0.length : Int)) = true := decide_eq_true c5
       clear c5
       replace H := Option.bind_eq_some_iff.mp H
       obtain ⟨t200, A60, H⟩ := H
       replace H : (if t200 = true then (if x14_1 > 0 then (if ((rd_T58 l0 x14_1).f0) = 0 then (if 0 ≤ (wrap64 (x14_1 - 1)) then (if (wrap64 (x14_1 - 1)) < (l0.length : Int) then (if ((rd_T58 l0 (wrap64 (x14_1 - 1))).f0) = 0 then (some (([] : List Int), 1)) else (pn136_)) else (none)) else (none)) else (pn136_)) else (pn136_)) else (some (([] : List Int), 1))) = some (r1, r2) := H
       have A6 := Aside0.mk A60
       clear A60
       by_cases c7 : t200 = true
       ·subst c7
        have H1 : (if x14_1 > 0 then (if ((rd_T58 l0 x14_1).f0) = 0 then (if 0 ≤ (wrap64 (x14_1 - 1)) then (if (wrap64 (x14_1 - 1)) < (l0.length : Int) then (if ((rd_T58 l0 (wrap64 (x14_1 - 1))).f0) = 0 then (some (([] : List Int), 1)) else (pn136_)) else (none)) else (none)) else (pn136_)) else (pn136_)) = some (r1, r2) := by rw [if_pos rfl] at H; exact H
        clear H
        have H := H1
        clear H1
        by_cases c8 : x14_1 > 0
        ·rw [if_pos c8] at H
         have c8b0 : decide (0 < x14_1) = true := decide_eq_true c8
         clear c8
         by_cases c9 : ((rd_T58 l0 x14_1).f0) = 0
         ·rw [if_pos c9] at H
          have c9b0 : (((rd_T58 l0 x14_1).f0) == 0) = true := beq_iff_eq.mpr c9
          have c9b1 : (((rd_T58 l0 x14_1).f0) != 0) = false := bne_eq_false_iff_eq.mpr c9
          clear c9
          obtain ⟨ji10, hji10⟩ : ∃ j_ : Int, (wrap64 (x14_1 - 1)) = j_ := ⟨_, rfl⟩
          replace H : (if 0 ≤ (ji10) then (if (ji10) < (l0.length : Int) then (if ((rd_T58 l0 (ji10)).f0) = 0 then (some (([] : List Int), 1)) else (pn136_)) else (none)) else (none)) = some (r1, r2) := by first | (rw [hji10] at H; exact H) | (simp only [hji10] at H ⊢; exact H)
          (try rw [hji10] at A6)
          have hji10w : (IntKind.i64.wrap (x14_1 - 1)) = ji10 := (i64_w _).trans hji10
          by_cases c11 : 0 ≤ (ji10)
          ·rw [if_pos c11] at H
           have c11b0 : decide (0 ≤ (ji10)) = true := decide_eq_true c11
           clear c11
           by_cases c12 : (ji10) < (l0.length : Int)
           ·rw [if_pos c12] at H
            have c12b0 : decide ((ji10) < (l0.length : Int)) = true := decide_eq_true c12
            clear c12
            by_cases c13 : ((rd_T58 l0 (ji10)).f0) = 0
            ·rw [if_pos c13] at H
             have c13b0 : (((rd_T58 l0 (ji10)).f0) == 0) = true := beq_iff_eq.mpr c13
             have c13b1 : (((rd_T58 l0 (ji10)).f0) != 0) = false := bne_eq_false_iff_eq.mpr c13
             clear c13
             ln130_
             obtain ⟨rfl, rfl⟩ := H
             ln131_
             ln132_
             ln133_
             cases e198
             ln134_
             ln135_
             ln136_
             ln137_
             ln138_
             ln139_
             have HR198_2 := Aside0.mk hi198_2
             have HC198_2 := Aside0.mk hl198_2
             clear hi198_2 hl198_2
             have HR198_4 := Aside0.mk hi198_4
             have HC198_4 := Aside0.mk hl198_4
             clear hi198_4 hl198_4
             replace p198 := eq_true p198
             replace q198 := eq_true q198
             go_wp2_with (first | ((with_reducible refine gate_dst (N := 5) rfl ?_); refine box_event ?hg (N := 5) ?hd (cs := #[.int .i64 0, .int .i64 0, .slice none 0 0, .int .i64 0, .slice none 0 0, .int .i64 0]) (t := 58) ?hr ?_; (case hd => rfl); (case hg => rfl); (case hr => first | (go_simp; done) | (go_simp; rfl)); intro gb199 hg w14 hbox hb; have n0_ := Aside0.mk (below_step (by qc0_) hb); have n1_ := Aside0.mk (hbox); have n2_ := Aside0.mk ((pn135_)); have n3_ := Aside0.mk ((pn135_)); clear HB; have HB := n0_; have BK199 := n1_; have GW199 := n2_; have GE199 := n3_; clear n0_ n1_ n2_ n3_; clear hb hbox hg; have hcz15_0 : w14.cell? ⟨gb199, 0, none⟩ = some (.int .i64 0) := (blk_cell BK199.out 0).trans rfl; have hcz15_1 : w14.cell? ⟨gb199, 1, none⟩ = some (.int .i64 0) := (blk_cell BK199.out 1).trans rfl; have hcz15_2 : w14.cell? ⟨gb199, 2, none⟩ = some (.slice none 0 0) := (blk_cell BK199.out 2).trans rfl; have hcz15_3 : w14.cell? ⟨gb199, 3, none⟩ = some (.int .i64 0) := (blk_cell BK199.out 3).trans rfl; have hcz15_4 : w14.cell? ⟨gb199, 4, none⟩ = some (.slice none 0 0) := (blk_cell BK199.out 4).trans rfl; have hcz15_5 : w14.cell? ⟨gb199, 5, none⟩ = some (.int .i64 0) := (blk_cell BK199.out 5).trans rfl; have hfz15_0 := blk_frozen BK199.out 0; have hfz15_1 := blk_frozen BK199.out 1; have hfz15_2 := blk_frozen BK199.out 2; have hfz15_3 := blk_frozen BK199.out 3; have hfz15_4 := blk_frozen BK199.out 4; have hfz15_5 := blk_frozen BK199.out 5) | ((with_reducible refine gate_callee (f := 42) rfl ?_); refine goesL_ (some 20) rfl rfl Tryd.func42 (by kernel_rfl) rfl #[.agg #[.int .i64 ((rd_T58 l0 x14_1).f0), .int .i64 ((rd_T58 l0 x14_1).f1), .slice A198_2 ((rd_T58 l0 x14_1).f2).length c198_2, .int .i64 ((rd_T58 l0 x14_1).f3), .slice A198_4 ((rd_T58 l0 x14_1).f4).length c198_4, .int .i64 ((rd_T58 l0 x14_1).f5)]] rfl (pn132_) ?_; (with_reducible refine (pn134_).mono ?_); (case side1 => exact Kd.C_below HR198_2.out (by qb1_ GE199)); (case side2 => exact HC198_2.out); (case side3 => exact Kd.C_below HR198_4.out (by qb1_ GE199)); (case side4 => exact HC198_4.out); rintro e w16 ⟨rfl, hb⟩; refine ⟨_, rfl, ?_⟩; have n0_ := Aside0.mk (blk_below (g := gb199) (o := (on130_)) (pn130_) hb); have n1_ := Aside0.mk (below_step (by qb1_ GE199) hb); clear BK199; clear HB; have BK199 := n0_; have HB := n1_; clear n0_ n1_; (try clear hb); (try clear hb2); (try clear hk); (try clear hi); have hcz17_0 : w16.cell? ⟨gb199, 0, none⟩ = some (.int .i64 ((rd_T58 l0 x14_1).f0)) := (blk_cell BK199.out 0).trans rfl; have hcz17_1 : w16.cell? ⟨gb199, 1, none⟩ = some (.int .i64 ((rd_T58 l0 x14_1).f1)) := (blk_cell BK199.out 1).trans rfl; have hcz17_2 : w16.cell? ⟨gb199, 2, none⟩ = some (.slice A198_2 ((rd_T58 l0 x14_1).f2).length c198_2) := (blk_cell BK199.out 2).trans rfl; have hcz17_3 : w16.cell? ⟨gb199, 3, none⟩ = some (.int .i64 ((rd_T58 l0 x14_1).f3)) := (blk_cell BK199.out 3).trans rfl; have hcz17_4 : w16.cell? ⟨gb199, 4, none⟩ = some (.slice A198_4 ((rd_T58 l0 x14_1).f4).length c198_4) := (blk_cell BK199.out 4).trans rfl; have hcz17_5 : w16.cell? ⟨gb199, 5, none⟩ = some (.int .i64 ((rd_T58 l0 x14_1).f5)) := (blk_cell BK199.out 5).trans rfl; have hfz17_0 := blk_frozen BK199.out 0; have hfz17_1 := blk_frozen BK199.out 1; have hfz17_2 := blk_frozen BK199.out 2; have hfz17_3 := blk_frozen BK199.out 3; have hfz17_4 := blk_frozen BK199.out 4; have hfz17_5 := blk_frozen BK199.out 5; have p201 : 0 ≤ ((ji10) : Int) := of_decide_eq_true (pn133_); have q201 : (ji10) < (l0.length : Int) := of_decide_eq_true (pn133_); obtain ⟨ad201, A201_2, c201_2, A201_4, c201_4, e201, hx201_0, hx201_1, hx201_2, hx201_3, hx201_4, hx201_5, hl201_2, hi201_2, hl201_4, hi201_4⟩ := at_T58 HR0.out (ji10) p201 q201; obtain rfl : ad198 = ad201 := (by injection e201); replace hx201_0 := (HB.out.cell (World.block_lt_of_cell? w _ hx201_0)).trans hx201_0; replace hx201_1 := (HB.out.cell (World.block_lt_of_cell? w _ hx201_1)).trans hx201_1; replace hx201_2 := (HB.out.cell (World.block_lt_of_cell? w _ hx201_2)).trans hx201_2; replace hx201_3 := (HB.out.cell (World.block_lt_of_cell? w _ hx201_3)).trans hx201_3; replace hx201_4 := (HB.out.cell (World.block_lt_of_cell? w _ hx201_4)).trans hx201_4; replace hx201_5 := (HB.out.cell (World.block_lt_of_cell? w _ hx201_5)).trans hx201_5; have HR201_2 := Aside0.mk hi201_2; have HC201_2 := Aside0.mk hl201_2; clear hi201_2 hl201_2; have HR201_4 := Aside0.mk hi201_4; have HC201_4 := Aside0.mk hl201_4; clear hi201_4 hl201_4; replace p201 := eq_true p201; replace q201 := eq_true q201))
             go_ret2
             exact ⟨_, by first | rfl | (simp [errW_none, errW_some] <;> rfl) | (simp only [← hji10]; first | rfl | (simp [errW_none, errW_some] <;> rfl)) | (simp [*, errW_none, errW_some] <;> rfl), by first | exact Kd.R_nil _ _ _ _ _ | exact Kd.N_nil _ _ _ _ _ | exact Kd.V_nil _ _ _ _ _ | exact Kd.Q_nil _ _ _ _ _ | exact Kd.S_nil _ _ _ _ _, by qb1_ GE199⟩
            ·rw [if_neg c13] at H
             have c13b0 : (((rd_T58 l0 (ji10)).f0) == 0) = false := beq_eq_false_iff_ne.mpr c13
             have c13b1 : (((rd_T58 l0 (ji10)).f0) != 0) = true := bne_iff_ne.mpr c13
             have H' := Aside0.mk H
             clear H
             ln131_
             ln132_
             ln133_
             cases e198
             ln134_
             ln135_
             ln136_
             ln137_
             ln138_
             ln139_
             have HR198_2 := Aside0.mk hi198_2
             have HC198_2 := Aside0.mk hl198_2
             clear hi198_2 hl198_2
             have HR198_4 := Aside0.mk hi198_4
             have HC198_4 := Aside0.mk hl198_4
             clear hi198_4 hl198_4
             replace p198 := eq_true p198
             replace q198 := eq_true q198
             go_wp2_with (first | ((with_reducible refine gate_dst (N := 5) rfl ?_); refine box_event ?hg (N := 5) ?hd (cs := #[.int .i64 0, .int .i64 0, .slice none 0 0, .int .i64 0, .slice none 0 0, .int .i64 0]) (t := 58) ?hr ?_; (case hd => rfl); (case hg => rfl); (case hr => first | (go_simp; done) | (go_simp; rfl)); intro gb199 hg w18 hbox hb; have n0_ := Aside0.mk (below_step (by qc0_) hb); have n1_ := Aside0.mk (hbox); have n2_ := Aside0.mk ((pn135_)); have n3_ := Aside0.mk ((pn135_)); clear HB; have HB := n0_; have BK199 := n1_; have GW199 := n2_; have GE199 := n3_; clear n0_ n1_ n2_ n3_; clear hb hbox hg; have hcz19_0 : w18.cell? ⟨gb199, 0, none⟩ = some (.int .i64 0) := (blk_cell BK199.out 0).trans rfl; have hcz19_1 : w18.cell? ⟨gb199, 1, none⟩ = some (.int .i64 0) := (blk_cell BK199.out 1).trans rfl; have hcz19_2 : w18.cell? ⟨gb199, 2, none⟩ = some (.slice none 0 0) := (blk_cell BK199.out 2).trans rfl; have hcz19_3 : w18.cell? ⟨gb199, 3, none⟩ = some (.int .i64 0) := (blk_cell BK199.out 3).trans rfl; have hcz19_4 : w18.cell? ⟨gb199, 4, none⟩ = some (.slice none 0 0) := (blk_cell BK199.out 4).trans rfl; have hcz19_5 : w18.cell? ⟨gb199, 5, none⟩ = some (.int .i64 0) := (blk_cell BK199.out 5).trans rfl; have hfz19_0 := blk_frozen BK199.out 0; have hfz19_1 := blk_frozen BK199.out 1; have hfz19_2 := blk_frozen BK199.out 2; have hfz19_3 := blk_frozen BK199.out 3; have hfz19_4 := blk_frozen BK199.out 4; have hfz19_5 := blk_frozen BK199.out 5) | ((with_reducible refine gate_callee (f := 42) rfl ?_); refine goesL_ (some 20) rfl rfl Tryd.func42 (by kernel_rfl) rfl #[.agg #[.int .i64 ((rd_T58 l0 x14_1).f0), .int .i64 ((rd_T58 l0 x14_1).f1), .slice A198_2 ((rd_T58 l0 x14_1).f2).length c198_2, .int .i64 ((rd_T58 l0 x14_1).f3), .slice A198_4 ((rd_T58 l0 x14_1).f4).length c198_4, .int .i64 ((rd_T58 l0 x14_1).f5)]] rfl (pn132_) ?_; (with_reducible refine (pn134_).mono ?_); (case side1 => exact Kd.C_below HR198_2.out (by qb1_ GE199)); (case side2 => exact HC198_2.out); (case side3 => exact Kd.C_below HR198_4.out (by qb1_ GE199)); (case side4 => exact HC198_4.out); rintro e w20 ⟨rfl, hb⟩; refine ⟨_, rfl, ?_⟩; have n0_ := Aside0.mk (blk_below (g := gb199) (o := (on130_)) (pn130_) hb); have n1_ := Aside0.mk (below_step (by qb1_ GE199) hb); clear BK199; clear HB; have BK199 := n0_; have HB := n1_; clear n0_ n1_; (try clear hb); (try clear hb2); (try clear hk); (try clear hi); have hcz21_0 : w20.cell? ⟨gb199, 0, none⟩ = some (.int .i64 ((rd_T58 l0 x14_1).f0)) := (blk_cell BK199.out 0).trans rfl; have hcz21_1 : w20.cell? ⟨gb199, 1, none⟩ = some (.int .i64 ((rd_T58 l0 x14_1).f1)) := (blk_cell BK199.out 1).trans rfl; have hcz21_2 : w20.cell? ⟨gb199, 2, none⟩ = some (.slice A198_2 ((rd_T58 l0 x14_1).f2).length c198_2) := (blk_cell BK199.out 2).trans rfl; have hcz21_3 : w20.cell? ⟨gb199, 3, none⟩ = some (.int .i64 ((rd_T58 l0 x14_1).f3)) := (blk_cell BK199.out 3).trans rfl; have hcz21_4 : w20.cell? ⟨gb199, 4, none⟩ = some (.slice A198_4 ((rd_T58 l0 x14_1).f4).length c198_4) := (blk_cell BK199.out 4).trans rfl; have hcz21_5 : w20.cell? ⟨gb199, 5, none⟩ = some (.int .i64 ((rd_T58 l0 x14_1).f5)) := (blk_cell BK199.out 5).trans rfl; have hfz21_0 := blk_frozen BK199.out 0; have hfz21_1 := blk_frozen BK199.out 1; have hfz21_2 := blk_frozen BK199.out 2; have hfz21_3 := blk_frozen BK199.out 3; have hfz21_4 := blk_frozen BK199.out 4; have hfz21_5 := blk_frozen BK199.out 5; have p201 : 0 ≤ ((ji10) : Int) := of_decide_eq_true (pn133_); have q201 : (ji10) < (l0.length : Int) := of_decide_eq_true (pn133_); obtain ⟨ad201, A201_2, c201_2, A201_4, c201_4, e201, hx201_0, hx201_1, hx201_2, hx201_3, hx201_4, hx201_5, hl201_2, hi201_2, hl201_4, hi201_4⟩ := at_T58 HR0.out (ji10) p201 q201; obtain rfl : ad198 = ad201 := (by injection e201); replace hx201_0 := (HB.out.cell (World.block_lt_of_cell? w _ hx201_0)).trans hx201_0; replace hx201_1 := (HB.out.cell (World.block_lt_of_cell? w _ hx201_1)).trans hx201_1; replace hx201_2 := (HB.out.cell (World.block_lt_of_cell? w _ hx201_2)).trans hx201_2; replace hx201_3 := (HB.out.cell (World.block_lt_of_cell? w _ hx201_3)).trans hx201_3; replace hx201_4 := (HB.out.cell (World.block_lt_of_cell? w _ hx201_4)).trans hx201_4; replace hx201_5 := (HB.out.cell (World.block_lt_of_cell? w _ hx201_5)).trans hx201_5; have HR201_2 := Aside0.mk hi201_2; have HC201_2 := Aside0.mk hl201_2; clear hi201_2 hl201_2; have HR201_4 := Aside0.mk hi201_4; have HC201_4 := Aside0.mk hl201_4; clear hi201_4 hl201_4; replace p201 := eq_true p201; replace q201 := eq_true q201))
             go_roundg k1
             case measure => have := HK1.out; omega
             case rel => exact ⟨(wrap64 (x14_1 + 1)), (pn137_), H', ⟨by have := HK1.out; omega⟩, ⟨by qb1_ GE199⟩⟩
           ·rw [if_neg c12] at H
            exact absurd H (by simp)
          ·rw [if_neg c11] at H
           exact absurd H (by simp)
         ·rw [if_neg c9] at H
          have c9b0 : (((rd_T58 l0 x14_1).f0) == 0) = false := beq_eq_false_iff_ne.mpr c9
          have c9b1 : (((rd_T58 l0 x14_1).f0) != 0) = true := bne_iff_ne.mpr c9
          have H' := Aside0.mk H
          clear H
          ln131_
          ln132_
          ln133_
          cases e198
          ln134_
          ln135_
          ln136_
          ln137_
          ln138_
          ln139_
          have HR198_2 := Aside0.mk hi198_2
          have HC198_2 := Aside0.mk hl198_2
          clear hi198_2 hl198_2
          have HR198_4 := Aside0.mk hi198_4
          have HC198_4 := Aside0.mk hl198_4
          clear hi198_4 hl198_4
          replace p198 := eq_true p198
          replace q198 := eq_true q198
          go_wp2_with (first | ((with_reducible refine gate_dst (N := 5) rfl ?_); refine box_event ?hg (N := 5) ?hd (cs := #[.int .i64 0, .int .i64 0, .slice none 0 0, .int .i64 0, .slice none 0 0, .int .i64 0]) (t := 58) ?hr ?_; (case hd => rfl); (case hg => rfl); (case hr => first | (go_simp; done) | (go_simp; rfl)); intro gb199 hg w22 hbox hb; have n0_ := Aside0.mk (below_step (by qc0_) hb); have n1_ := Aside0.mk (hbox); have n2_ := Aside0.mk ((pn135_)); have n3_ := Aside0.mk ((pn135_)); clear HB; have HB := n0_; have BK199 := n1_; have GW199 := n2_; have GE199 := n3_; clear n0_ n1_ n2_ n3_; clear hb hbox hg; have hcz23_0 : w22.cell? ⟨gb199, 0, none⟩ = some (.int .i64 0) := (blk_cell BK199.out 0).trans rfl; have hcz23_1 : w22.cell? ⟨gb199, 1, none⟩ = some (.int .i64 0) := (blk_cell BK199.out 1).trans rfl; have hcz23_2 : w22.cell? ⟨gb199, 2, none⟩ = some (.slice none 0 0) := (blk_cell BK199.out 2).trans rfl; have hcz23_3 : w22.cell? ⟨gb199, 3, none⟩ = some (.int .i64 0) := (blk_cell BK199.out 3).trans rfl; have hcz23_4 : w22.cell? ⟨gb199, 4, none⟩ = some (.slice none 0 0) := (blk_cell BK199.out 4).trans rfl; have hcz23_5 : w22.cell? ⟨gb199, 5, none⟩ = some (.int .i64 0) := (blk_cell BK199.out 5).trans rfl; have hfz23_0 := blk_frozen BK199.out 0; have hfz23_1 := blk_frozen BK199.out 1; have hfz23_2 := blk_frozen BK199.out 2; have hfz23_3 := blk_frozen BK199.out 3; have hfz23_4 := blk_frozen BK199.out 4; have hfz23_5 := blk_frozen BK199.out 5) | ((with_reducible refine gate_callee (f := 42) rfl ?_); refine goesL_ (some 20) rfl rfl Tryd.func42 (by kernel_rfl) rfl #[.agg #[.int .i64 ((rd_T58 l0 x14_1).f0), .int .i64 ((rd_T58 l0 x14_1).f1), .slice A198_2 ((rd_T58 l0 x14_1).f2).length c198_2, .int .i64 ((rd_T58 l0 x14_1).f3), .slice A198_4 ((rd_T58 l0 x14_1).f4).length c198_4, .int .i64 ((rd_T58 l0 x14_1).f5)]] rfl (pn132_) ?_; (with_reducible refine (pn134_).mono ?_); (case side1 => exact Kd.C_below HR198_2.out (by qb1_ GE199)); (case side2 => exact HC198_2.out); (case side3 => exact Kd.C_below HR198_4.out (by qb1_ GE199)); (case side4 => exact HC198_4.out); rintro e w24 ⟨rfl, hb⟩; refine ⟨_, rfl, ?_⟩; have n0_ := Aside0.mk (blk_below (g := gb199) (o := (on130_)) (pn130_) hb); have n1_ := Aside0.mk (below_step (by qb1_ GE199) hb); clear BK199; clear HB; have BK199 := n0_; have HB := n1_; clear n0_ n1_; (try clear hb); (try clear hb2); (try clear hk); (try clear hi); have hcz25_0 : w24.cell? ⟨gb199, 0, none⟩ = some (.int .i64 ((rd_T58 l0 x14_1).f0)) := (blk_cell BK199.out 0).trans rfl; have hcz25_1 : w24.cell? ⟨gb199, 1, none⟩ = some (.int .i64 ((rd_T58 l0 x14_1).f1)) := (blk_cell BK199.out 1).trans rfl; have hcz25_2 : w24.cell? ⟨gb199, 2, none⟩ = some (.slice A198_2 ((rd_T58 l0 x14_1).f2).length c198_2) := (blk_cell BK199.out 2).trans rfl; have hcz25_3 : w24.cell? ⟨gb199, 3, none⟩ = some (.int .i64 ((rd_T58 l0 x14_1).f3)) := (blk_cell BK199.out 3).trans rfl; have hcz25_4 : w24.cell? ⟨gb199, 4, none⟩ = some (.slice A198_4 ((rd_T58 l0 x14_1).f4).length c198_4) := (blk_cell BK199.out 4).trans rfl; have hcz25_5 : w24.cell? ⟨gb199, 5, none⟩ = some (.int .i64 ((rd_T58 l0 x14_1).f5)) := (blk_cell BK199.out 5).trans rfl; have hfz25_0 := blk_frozen BK199.out 0; have hfz25_1 := blk_frozen BK199.out 1; have hfz25_2 := blk_frozen BK199.out 2; have hfz25_3 := blk_frozen BK199.out 3; have hfz25_4 := blk_frozen BK199.out 4; have hfz25_5 := blk_frozen BK199.out 5))
          go_roundg k1
          case measure => have := HK1.out; omega
          case rel => exact ⟨(wrap64 (x14_1 + 1)), (pn137_), H', ⟨by have := HK1.out; omega⟩, ⟨by qb1_ GE199⟩⟩
        ·rw [if_neg c8] at H
         have c8b0 : decide (0 < x14_1) = false := decide_eq_false c8
         clear c8
         have H' := Aside0.mk H
         clear H
         ln131_
         ln132_
         ln133_
         cases e198
         ln134_
         ln135_
         ln136_
         ln137_
         ln138_
         ln139_
         have HR198_2 := Aside0.mk hi198_2
         have HC198_2 := Aside0.mk hl198_2
         clear hi198_2 hl198_2
         have HR198_4 := Aside0.mk hi198_4
         have HC198_4 := Aside0.mk hl198_4
         clear hi198_4 hl198_4
         replace p198 := eq_true p198
         replace q198 := eq_true q198
         go_wp2_with (first | ((with_reducible refine gate_dst (N := 5) rfl ?_); refine box_event ?hg (N := 5) ?hd (cs := #[.int .i64 0, .int .i64 0, .slice none 0 0, .int .i64 0, .slice none 0 0, .int .i64 0]) (t := 58) ?hr ?_; (case hd => rfl); (case hg => rfl); (case hr => first | (go_simp; done) | (go_simp; rfl)); intro gb199 hg w26 hbox hb; have n0_ := Aside0.mk (below_step (by qc0_) hb); have n1_ := Aside0.mk (hbox); have n2_ := Aside0.mk ((pn135_)); have n3_ := Aside0.mk ((pn135_)); clear HB; have HB := n0_; have BK199 := n1_; have GW199 := n2_; have GE199 := n3_; clear n0_ n1_ n2_ n3_; clear hb hbox hg; have hcz27_0 : w26.cell? ⟨gb199, 0, none⟩ = some (.int .i64 0) := (blk_cell BK199.out 0).trans rfl; have hcz27_1 : w26.cell? ⟨gb199, 1, none⟩ = some (.int .i64 0) := (blk_cell BK199.out 1).trans rfl; have hcz27_2 : w26.cell? ⟨gb199, 2, none⟩ = some (.slice none 0 0) := (blk_cell BK199.out 2).trans rfl; have hcz27_3 : w26.cell? ⟨gb199, 3, none⟩ = some (.int .i64 0) := (blk_cell BK199.out 3).trans rfl; have hcz27_4 : w26.cell? ⟨gb199, 4, none⟩ = some (.slice none 0 0) := (blk_cell BK199.out 4).trans rfl; have hcz27_5 : w26.cell? ⟨gb199, 5, none⟩ = some (.int .i64 0) := (blk_cell BK199.out 5).trans rfl; have hfz27_0 := blk_frozen BK199.out 0; have hfz27_1 := blk_frozen BK199.out 1; have hfz27_2 := blk_frozen BK199.out 2; have hfz27_3 := blk_frozen BK199.out 3; have hfz27_4 := blk_frozen BK199.out 4; have hfz27_5 := blk_frozen BK199.out 5) | ((with_reducible refine gate_callee (f := 42) rfl ?_); refine goesL_ (some 20) rfl rfl Tryd.func42 (by kernel_rfl) rfl #[.agg #[.int .i64 ((rd_T58 l0 x14_1).f0), .int .i64 ((rd_T58 l0 x14_1).f1), .slice A198_2 ((rd_T58 l0 x14_1).f2).length c198_2, .int .i64 ((rd_T58 l0 x14_1).f3), .slice A198_4 ((rd_T58 l0 x14_1).f4).length c198_4, .int .i64 ((rd_T58 l0 x14_1).f5)]] rfl (pn132_) ?_; (with_reducible refine (pn134_).mono ?_); (case side1 => exact Kd.C_below HR198_2.out (by qb1_ GE199)); (case side2 => exact HC198_2.out); (case side3 => exact Kd.C_below HR198_4.out (by qb1_ GE199)); (case side4 => exact HC198_4.out); rintro e w28 ⟨rfl, hb⟩; refine ⟨_, rfl, ?_⟩; have n0_ := Aside0.mk (blk_below (g := gb199) (o := (on130_)) (pn130_) hb); have n1_ := Aside0.mk (below_step (by qb1_ GE199) hb); clear BK199; clear HB; have BK199 := n0_; have HB := n1_; clear n0_ n1_; (try clear hb); (try clear hb2); (try clear hk); (try clear hi)))
         go_roundg k1
         case measure => have := HK1.out; omega
         case rel => exact ⟨(wrap64 (x14_1 + 1)), (pn137_), H', ⟨by have := HK1.out; omega⟩, ⟨by qb1_ GE199⟩⟩
       ·replace c7 := Bool.eq_false_iff.mpr c7
        subst c7
        have H1 : (some (([] : List Int), 1)) = some (r1, r2) := by rw [if_neg (show ¬ (false = true) by decide)] at H; exact H
        clear H
        have H := H1
        clear H1
        ln130_
        obtain ⟨rfl, rfl⟩ := H
        ln131_
        ln132_
        ln133_
        cases e198
        ln134_
        ln135_
        ln136_
        ln137_
        ln138_
        ln139_
        have HR198_2 := Aside0.mk hi198_2
        have HC198_2 := Aside0.mk hl198_2
        clear hi198_2 hl198_2
        have HR198_4 := Aside0.mk hi198_4
        have HC198_4 := Aside0.mk hl198_4
        clear hi198_4 hl198_4
        replace p198 := eq_true p198
        replace q198 := eq_true q198
        go_wp2_with (first | ((with_reducible refine gate_dst (N := 5) rfl ?_); refine box_event ?hg (N := 5) ?hd (cs := #[.int .i64 0, .int .i64 0, .slice none 0 0, .int .i64 0, .slice none 0 0, .int .i64 0]) (t := 58) ?hr ?_; (case hd => rfl); (case hg => rfl); (case hr => first | (go_simp; done) | (go_simp; rfl)); intro gb199 hg w29 hbox hb; have n0_ := Aside0.mk (below_step (by qc0_) hb); have n1_ := Aside0.mk (hbox); have n2_ := Aside0.mk ((pn135_)); have n3_ := Aside0.mk ((pn135_)); clear HB; have HB := n0_; have BK199 := n1_; have GW199 := n2_; have GE199 := n3_; clear n0_ n1_ n2_ n3_; clear hb hbox hg; have hcz30_0 : w29.cell? ⟨gb199, 0, none⟩ = some (.int .i64 0) := (blk_cell BK199.out 0).trans rfl; have hcz30_1 : w29.cell? ⟨gb199, 1, none⟩ = some (.int .i64 0) := (blk_cell BK199.out 1).trans rfl; have hcz30_2 : w29.cell? ⟨gb199, 2, none⟩ = some (.slice none 0 0) := (blk_cell BK199.out 2).trans rfl; have hcz30_3 : w29.cell? ⟨gb199, 3, none⟩ = some (.int .i64 0) := (blk_cell BK199.out 3).trans rfl; have hcz30_4 : w29.cell? ⟨gb199, 4, none⟩ = some (.slice none 0 0) := (blk_cell BK199.out 4).trans rfl; have hcz30_5 : w29.cell? ⟨gb199, 5, none⟩ = some (.int .i64 0) := (blk_cell BK199.out 5).trans rfl; have hfz30_0 := blk_frozen BK199.out 0; have hfz30_1 := blk_frozen BK199.out 1; have hfz30_2 := blk_frozen BK199.out 2; have hfz30_3 := blk_frozen BK199.out 3; have hfz30_4 := blk_frozen BK199.out 4; have hfz30_5 := blk_frozen BK199.out 5) | ((with_reducible refine gate_callee (f := 42) rfl ?_); refine goesL_ (some 20) rfl rfl Tryd.func42 (by kernel_rfl) rfl #[.agg #[.int .i64 ((rd_T58 l0 x14_1).f0), .int .i64 ((rd_T58 l0 x14_1).f1), .slice A198_2 ((rd_T58 l0 x14_1).f2).length c198_2, .int .i64 ((rd_T58 l0 x14_1).f3), .slice A198_4 ((rd_T58 l0 x14_1).f4).length c198_4, .int .i64 ((rd_T58 l0 x14_1).f5)]] rfl (pn132_) ?_; (with_reducible refine (frame_Right.calls k1 ((rd_T58 l0 x14_1).f0) ((rd_T58 l0 x14_1).f1) _ _ ((rd_T58 l0 x14_1).f2) ((rd_T58 l0 x14_1).f3) _ _ ((rd_T58 l0 x14_1).f4) ((rd_T58 l0 x14_1).f5) false _ ?side1 ?side2 ?side3 ?side4 A6.out).mono ?_); (case side1 => exact Kd.C_below HR198_2.out (by qb1_ GE199)); (case side2 => exact HC198_2.out); (case side3 => exact Kd.C_below HR198_4.out (by qb1_ GE199)); (case side4 => exact HC198_4.out); rintro e w31 ⟨rfl, hb⟩; refine ⟨_, rfl, ?_⟩; have n0_ := Aside0.mk (blk_below (g := gb199) (o := (on130_)) (pn130_) hb); have n1_ := Aside0.mk (below_step (by qb1_ GE199) hb); clear BK199; clear HB; have BK199 := n0_; have HB := n1_; clear n0_ n1_; (try clear hb); (try clear hb2); (try clear hk); (try clear hi)))
        go_ret2
        exact ⟨_, by first | rfl | (simp [errW_none, errW_some] <;> rfl) | (simp [*, errW_none, errW_some] <;> rfl), by first | exact Kd.R_nil _ _ _ _ _ | exact Kd.N_nil _ _ _ _ _ | exact Kd.V_nil _ _ _ _ _ | exact Kd.Q_nil _ _ _ _ _ | exact Kd.S_nil _ _ _ _ _, by qb1_ GE199⟩
      ·rw [if_neg c5] at H
       exact absurd H (by simp)
     ·rw [if_neg c4] at H
      exact absurd H (by simp)
    ·rw [if_neg c3] at H
     have c3b0 : decide (x14_1 < (l0.length : Int)) = false := decide_eq_false c3
     clear c3
     have H' := Aside0.mk H
     clear H
     go_wp2
     go_loopg [6, 43] k1 (fun kq v6 v43 w' => ∃ (x6_2 : List Int) (x43_2 : Int), v43 = .int .i64 x43_2 ∧ Aside0 (frame_Write.l1 kq x6_2 l0 (l0.length : Int) x43_2 = some (r1, r2)) ∧ Aside0 (kq ≤ k1) ∧ Aside0 (Kd.R (Kd.int .u8) 5 w' w.heap.size (fun _ => True) v6 x6_2) ∧ Aside0 (Below w.heap.size w w'))
     case atStart => exact ⟨(([] : List Int)), (0), (pn137_), H', ⟨Nat.le_refl _⟩, ⟨by first | exact Kd.R_nil _ _ _ _ _ | exact Kd.N_nil _ _ _ _ _ | exact Kd.V_nil _ _ _ _ _ | exact Kd.Q_nil _ _ _ _ _ | exact Kd.S_nil _ _ _ _ _⟩, ⟨by qc0_⟩⟩
     case round =>
      clear H'
      try clear c1
      try clear p1
      try clear q1
      try clear hx1
      try clear c2
      try clear c2b0
      try clear c2b1
      try clear c2b2
      try clear p2
      try clear q2
      try clear hx2
      try clear c3
      try clear c3b0
      try clear c4
      try clear c4b0
      try clear c5
      try clear c5b0
      try clear p6
      try clear c7
      try clear c8
      try clear c8b0
      try clear c9
      try clear c9b0
      try clear c9b1
      try clear c11
      try clear c11b0
      try clear c12
      try clear c12b0
      try clear c13
      try clear c13b0
      try clear c13b1
      try clear c19
      try clear p19
      try clear q19
      try clear hx19
      try clear c20
      try clear p20
      try clear q20
      try clear hx20
      try clear hcz15_0
      try clear hcz15_1
      try clear hcz15_2
      try clear hcz15_3
      try clear hcz15_4
      try clear hcz15_5
      try clear hcz17_0
      try clear hcz17_1
      try clear hcz17_2
      try clear hcz17_3
      try clear hcz17_4
      try clear hcz17_5
      try clear hcz19_0
      try clear hcz19_1
      try clear hcz19_2
      try clear hcz19_3
      try clear hcz19_4
      try clear hcz19_5
      try clear hcz21_0
      try clear hcz21_1
      try clear hcz21_2
      try clear hcz21_3
      try clear hcz21_4
      try clear hcz21_5
      try clear hcz23_0
      try clear hcz23_1
      try clear hcz23_2
      try clear hcz23_3
      try clear hcz23_4
      try clear hcz23_5
      try clear hcz25_0
      try clear hcz25_1
      try clear hcz25_2
      try clear hcz25_3
      try clear hcz25_4
      try clear hcz25_5
      try clear hcz27_0
      try clear hcz27_1
      try clear hcz27_2
      try clear hcz27_3
      try clear hcz27_4
      try clear hcz27_5
      try clear hcz30_0
      try clear hcz30_1
      try clear hcz30_2
      try clear hcz30_3
      try clear hcz30_4
      try clear hcz30_5
      try clear hfz15_0
      try clear hfz15_1
      try clear hfz15_2
      try clear hfz15_3
      try clear hfz15_4
      try clear hfz15_5
      try clear hfz17_0
      try clear hfz17_1
      try clear hfz17_2
      try clear hfz17_3
      try clear hfz17_4
      try clear hfz17_5
      try clear hfz19_0
      try clear hfz19_1
      try clear hfz19_2
      try clear hfz19_3
      try clear hfz19_4
      try clear hfz19_5
      try clear hfz21_0
      try clear hfz21_1
      try clear hfz21_2
      try clear hfz21_3
      try clear hfz21_4
      try clear hfz21_5
      try clear hfz23_0
      try clear hfz23_1
      try clear hfz23_2
      try clear hfz23_3
      try clear hfz23_4
      try clear hfz23_5
      try clear hfz25_0
      try clear hfz25_1
      try clear hfz25_2
      try clear hfz25_3
      try clear hfz25_4
      try clear hfz25_5
      try clear hfz27_0
      try clear hfz27_1
      try clear hfz27_2
      try clear hfz27_3
      try clear hfz27_4
      try clear hfz27_5
      try clear hfz30_0
      try clear hfz30_1
      try clear hfz30_2
      try clear hfz30_3
      try clear hfz30_4
      try clear hfz30_5
      try clear hx198_0
      try clear hx198_1
      try clear hx198_2
      try clear hx198_3
      try clear hx198_4
      try clear hx198_5
      try clear hx201_0
      try clear hx201_1
      try clear hx201_2
      try clear hx201_3
      try clear hx201_4
      try clear hx201_5
      try clear p198
      try clear p2
      try clear p201
      try clear q198
      try clear q201
      obtain ⟨x6_2, x43_2, rfl, HA, HK2, HO_6, HB⟩ := hrel
      cases gk with
      | zero => exact absurd HA.out (by simp [frame_Write.l1])
      | succ k2 =>
       have H := HA.out
       clear HA
       simp only [frame_Write.l1] at H
       by_cases c32 : x43_2 < (l0.length : Int)
       ·rw [if_pos c32] at H
        have c32b0 : decide (x43_2 < (l0.length : Int)) = true := decide_eq_true c32
        clear c32
        by_cases c33 : 0 ≤ x43_2
        ·rw [if_pos c33] at H
         have c33b0 : decide (0 ≤ x43_2) = true := decide_eq_true c33
         clear c33
         by_cases c34 : x43_2 < (l0.length : Int)
         ·rw [if_pos c34] at H
          have c34b0 : decide (x43_2 < (l0.length : Int)) = true := decide_eq_true c34
          clear c34
          replace H := Option.bind_eq_some_iff.mp H
          obtain ⟨t204, A350, H⟩ := H
          replace H : (if x6_2.length + t204.length < 140737488355328 then ((some (x6_2 ++ t204 : List Int)).bind fun y207 => (if (y207.length : Int) > 1200 then (some (([] : List Int), 4)) else (frame_Write.l1 k2 y207 l0 (l0.length : Int) (wrap64 (x43_2 + 1))))) else (none)) = some (r1, r2) := H
          have A35 := Aside0.mk A350
          clear A350
          by_cases c36 : x6_2.length + t204.length < 140737488355328
          ·rw [if_pos c36] at H
           have LMc36 := Aside0.mk c36
           clear c36
           obtain ⟨y207, hy207⟩ : ∃ y_ : List Int, y_ = (x6_2 ++ t204) := ⟨_, rfl⟩
           replace H : (if (y207.length : Int) > 1200 then (some (([] : List Int), 4)) else (frame_Write.l1 k2 y207 l0 (l0.length : Int) (wrap64 (x43_2 + 1)))) = some (r1, r2) := by first | (rw [hy207]; with_reducible exact H) | (have H2_ := (Option.bind_some _ _).symm.trans H; rw [hy207]; with_reducible exact H2_) | (have H2_ := (Option.bind_some _ _).symm.trans H; with_reducible exact H2_) | with_reducible exact H | (rw [hy207]; exact H) | exact H
           have Ny207 := Aside0.mk hy207
           clear hy207
           by_cases c37 : (y207.length : Int) > 1200
           ·rw [if_pos c37] at H
            have c37b0 : decide (1200 < (y207.length : Int)) = true := decide_eq_true c37
            have c37b1 : decide (1200 < y207.length) = true := decide_eq_true (by omega)
            clear c37
            ln130_
            obtain ⟨rfl, rfl⟩ := H
            have p202 : 0 ≤ (x43_2 : Int) := of_decide_eq_true (pn133_)
            have q202 : x43_2 < (l0.length : Int) := of_decide_eq_true (pn133_)
            ln1310_
            cases e202
            replace hx202_0 := (HB.out.cell (World.block_lt_of_cell? w _ hx202_0)).trans hx202_0
            replace hx202_1 := (HB.out.cell (World.block_lt_of_cell? w _ hx202_1)).trans hx202_1
            replace hx202_2 := (HB.out.cell (World.block_lt_of_cell? w _ hx202_2)).trans hx202_2
            replace hx202_3 := (HB.out.cell (World.block_lt_of_cell? w _ hx202_3)).trans hx202_3
            replace hx202_4 := (HB.out.cell (World.block_lt_of_cell? w _ hx202_4)).trans hx202_4
            replace hx202_5 := (HB.out.cell (World.block_lt_of_cell? w _ hx202_5)).trans hx202_5
            have HR202_2 := Aside0.mk hi202_2
            have HC202_2 := Aside0.mk hl202_2
            clear hi202_2 hl202_2
            have HR202_4 := Aside0.mk hi202_4
            have HC202_4 := Aside0.mk hl202_4
            clear hi202_4 hl202_4
            replace p202 := eq_true p202
            replace q202 := eq_true q202
            go_wp2_with (first | ((with_reducible refine gate_dst (N := 8) rfl ?_); refine box_event ?hg (N := 8) ?hd (cs := #[.int .i64 0, .int .i64 0, .slice none 0 0, .int .i64 0, .slice none 0 0, .int .i64 0]) (t := 58) ?hr ?_; (case hd => rfl); (case hg => rfl); (case hr => first | (go_simp; done) | (go_simp; rfl)); intro gb203 hg w38 hbox hb; have n0_ := Aside0.mk (Kd.R_below (by qR_; exact HO_6.out) hb); have n1_ := Aside0.mk (below_step (by qc0_) hb); have n2_ := Aside0.mk (hbox); have n3_ := Aside0.mk ((pn138_)); have n4_ := Aside0.mk ((pn138_)); clear HO_6; clear HB; have HO_6 := n0_; have HB := n1_; have BK203 := n2_; have GW203 := n3_; have GE203 := n4_; clear n0_ n1_ n2_ n3_ n4_; clear hb hbox hg; have hcz39_0 : w38.cell? ⟨gb203, 0, none⟩ = some (.int .i64 0) := (blk_cell BK203.out 0).trans rfl; have hcz39_1 : w38.cell? ⟨gb203, 1, none⟩ = some (.int .i64 0) := (blk_cell BK203.out 1).trans rfl; have hcz39_2 : w38.cell? ⟨gb203, 2, none⟩ = some (.slice none 0 0) := (blk_cell BK203.out 2).trans rfl; have hcz39_3 : w38.cell? ⟨gb203, 3, none⟩ = some (.int .i64 0) := (blk_cell BK203.out 3).trans rfl; have hcz39_4 : w38.cell? ⟨gb203, 4, none⟩ = some (.slice none 0 0) := (blk_cell BK203.out 4).trans rfl; have hcz39_5 : w38.cell? ⟨gb203, 5, none⟩ = some (.int .i64 0) := (blk_cell BK203.out 5).trans rfl; have hfz39_0 := blk_frozen BK203.out 0; have hfz39_1 := blk_frozen BK203.out 1; have hfz39_2 := blk_frozen BK203.out 2; have hfz39_3 := blk_frozen BK203.out 3; have hfz39_4 := blk_frozen BK203.out 4; have hfz39_5 := blk_frozen BK203.out 5) | ((with_reducible refine gate_callee (f := 68) rfl ?_); refine goesL_ (some 49) rfl rfl Tryd.func68 (by kernel_rfl) rfl #[.agg #[.int .i64 ((rd_T58 l0 x43_2).f0), .int .i64 ((rd_T58 l0 x43_2).f1), .slice A202_2 ((rd_T58 l0 x43_2).f2).length c202_2, .int .i64 ((rd_T58 l0 x43_2).f3), .slice A202_4 ((rd_T58 l0 x43_2).f4).length c202_4, .int .i64 ((rd_T58 l0 x43_2).f5)]] rfl (pn132_) ?_; (with_reducible refine (frame_bytes.calls k2 ((rd_T58 l0 x43_2).f0) ((rd_T58 l0 x43_2).f1) _ _ ((rd_T58 l0 x43_2).f2) ((rd_T58 l0 x43_2).f3) _ _ ((rd_T58 l0 x43_2).f4) ((rd_T58 l0 x43_2).f5) t204 _ ?side1 ?side2 ?side3 ?side4 ?sideT A35.out).mono ?_); (case sideT => repeat (first | exact TB.below HT.out (by qb1_ GE203) | exact HT.out | exact TB.below HT.out HB.out | exact TB.below HT.out HBW.out | (with_reducible refine TB.alloc ?_ _) | (with_reducible refine TB.drewN ?_ _) | (with_reducible refine TB.drew ?_))); (case side1 => exact Kd.C_below HR202_2.out (by qb1_ GE203)); (case side2 => exact HC202_2.out); (case side3 => exact Kd.C_below HR202_4.out (by qb1_ GE203)); (case side4 => exact HC202_4.out); rintro e w40 ⟨v205, rfl, ho0, hb⟩; refine ⟨_, rfl, ?_⟩; have n0_ := Aside0.mk (Kd.R_elder' (pn131_) (Kd.R_base ho0) hb); have n1_ := Aside0.mk (Kd.R_lower (Kd.R_new' ho0 (Kd.R_lt (pn131_))) (below_size (by qb1_ GE203))); have n2_ := Aside0.mk (blk_below (g := gb203) (o := (on131_)) (by qk_; refine blk_put (cs := #[.int .i64 ((rd_T58 l0 x43_2).f0), .int .i64 ((rd_T58 l0 x43_2).f1), .slice A202_2 ((rd_T58 l0 x43_2).f2).length c202_2, .int .i64 ((rd_T58 l0 x43_2).f3), .slice A202_4 ((rd_T58 l0 x43_2).f4).length c202_4, .int .i64 0]) ?_ 5 _ rfl; qk_; refine blk_put (cs := #[.int .i64 ((rd_T58 l0 x43_2).f0), .int .i64 ((rd_T58 l0 x43_2).f1), .slice A202_2 ((rd_T58 l0 x43_2).f2).length c202_2, .int .i64 ((rd_T58 l0 x43_2).f3), .slice none 0 0, .int .i64 0]) ?_ 4 _ rfl; qk_; refine blk_put (cs := #[.int .i64 ((rd_T58 l0 x43_2).f0), .int .i64 ((rd_T58 l0 x43_2).f1), .slice A202_2 ((rd_T58 l0 x43_2).f2).length c202_2, .int .i64 0, .slice none 0 0, .int .i64 0]) ?_ 3 _ rfl; qk_; refine blk_put (cs := #[.int .i64 ((rd_T58 l0 x43_2).f0), .int .i64 ((rd_T58 l0 x43_2).f1), .slice none 0 0, .int .i64 0, .slice none 0 0, .int .i64 0]) ?_ 2 _ rfl; qk_; refine blk_put (cs := #[.int .i64 ((rd_T58 l0 x43_2).f0), .int .i64 0, .slice none 0 0, .int .i64 0, .slice none 0 0, .int .i64 0]) ?_ 1 _ rfl; qk_; refine blk_put (cs := #[.int .i64 0, .int .i64 0, .slice none 0 0, .int .i64 0, .slice none 0 0, .int .i64 0]) ?_ 0 _ rfl; qk_; exact BK203.out) hb); have n3_ := Aside0.mk (below_step (by qb1_ GE203) hb); clear HO_6; clear BK203; clear HB; have HO_6 := n0_; have HO206 := n1_; have BK203 := n2_; have HB := n3_; clear n0_ n1_ n2_ n3_; (try clear hb); (try clear hb2); (try clear hk); (try clear hi); (try clear ho0); obtain ⟨Ao42, co42, eo42⟩ := Kd.R_slice HO206.out; subst eo42) | ((with_reducible refine gate_builtin (b := .append) (xs := #[.tmp 47, .tmp 49]) rfl ?_); at_builtin; refine Kd.R_append_rows (Kd.int .u8) (w0 := w) w.heap.size rfl (.tmp 47) (.tmp 49) 22 5 (.int .u8 0) 1 rfl Tryd.underlying22 info5 rfl (by decide) (by omega) u6 x6_2 t204 _ _ _ (fun k_ => some k_ ≠ (.slice Ao42 t204.length co42 : Value).ownBlock) (fun _ => False) rfl rfl ?aO ?aR (fun _ _ h => h) (fun _ h => h.elim) ?aF ?aB ?aS ?aL ?_; (case aR => repeat (first | exact (Kd.R_reads' HO206.out).2.2 | (with_reducible refine Kd.C_alloc ?_ _) | (with_reducible refine Kd.C_drewN ?_ _) | (with_reducible refine Kd.C_drew ?_))); (case aB => exact (by qb1_ GE203)); (case aF => exact (fun k_ hk => Kd.fresh' (Kd.R_lt (by qR_; exact HO206.out)) k_ hk)); (case aO => exact (by qR_; exact Kd.R_mono HO_6.out (fun _ hk => hk.2))); (case aS => exact (below_size (by qb1_ GE203))); (case aL => have := LMc36.out; omega); intro v208 w41 ho hb hg hat; rw [← Ny207.out] at ho; have n0_ := Aside0.mk (blk_grown (g := gb203) (o := (on131_)) (by qk_; exact BK203.out) hg (Kd.R_ne HO_6.out BK203.out (by decide))); have n1_ := Aside0.mk (Kd.R_after (ok := (fun _ => True)) (by qR_; exact HO206.out) hg hat); have n2_ := Aside0.mk (hb); have n3_ := Aside0.mk (ho); clear BK203; clear HO206; clear HB; clear HO_6; have BK203 := n0_; have HO206 := n1_; have HB := n2_; have HO209 := n3_; clear n0_ n1_ n2_ n3_; clear ho hb hg hat; obtain ⟨Ao43, co43, eo43⟩ := Kd.R_slice HO209.out; subst eo43))
            go_ret2
            exact ⟨_, by first | rfl | (simp [errW_none, errW_some] <;> rfl) | (simp [*, errW_none, errW_some] <;> rfl), by first | exact Kd.R_nil _ _ _ _ _ | exact Kd.N_nil _ _ _ _ _ | exact Kd.V_nil _ _ _ _ _ | exact Kd.Q_nil _ _ _ _ _ | exact Kd.S_nil _ _ _ _ _, by qb1_ GE203⟩
           ·rw [if_neg c37] at H
            have c37b0 : decide (1200 < (y207.length : Int)) = false := decide_eq_false c37
            have c37b1 : decide (1200 < y207.length) = false := decide_eq_false (by omega)
            clear c37
            have H' := Aside0.mk H
            clear H
            have p202 : 0 ≤ (x43_2 : Int) := of_decide_eq_true (pn133_)
            have q202 : x43_2 < (l0.length : Int) := of_decide_eq_true (pn133_)
            ln1310_
            cases e202
            replace hx202_0 := (HB.out.cell (World.block_lt_of_cell? w _ hx202_0)).trans hx202_0
            replace hx202_1 := (HB.out.cell (World.block_lt_of_cell? w _ hx202_1)).trans hx202_1
            replace hx202_2 := (HB.out.cell (World.block_lt_of_cell? w _ hx202_2)).trans hx202_2
            replace hx202_3 := (HB.out.cell (World.block_lt_of_cell? w _ hx202_3)).trans hx202_3
            replace hx202_4 := (HB.out.cell (World.block_lt_of_cell? w _ hx202_4)).trans hx202_4
            replace hx202_5 := (HB.out.cell (World.block_lt_of_cell? w _ hx202_5)).trans hx202_5
            have HR202_2 := Aside0.mk hi202_2
            have HC202_2 := Aside0.mk hl202_2
            clear hi202_2 hl202_2
            have HR202_4 := Aside0.mk hi202_4
            have HC202_4 := Aside0.mk hl202_4
            clear hi202_4 hl202_4
            replace p202 := eq_true p202
            replace q202 := eq_true q202
            go_wp2_with (first | ((with_reducible refine gate_dst (N := 8) rfl ?_); refine box_event ?hg (N := 8) ?hd (cs := #[.int .i64 0, .int .i64 0, .slice none 0 0, .int .i64 0, .slice none 0 0, .int .i64 0]) (t := 58) ?hr ?_; (case hd => rfl); (case hg => rfl); (case hr => first | (go_simp; done) | (go_simp; rfl)); intro gb203 hg w44 hbox hb; have n0_ := Aside0.mk (Kd.R_below (by qR_; exact HO_6.out) hb); have n1_ := Aside0.mk (below_step (by qc0_) hb); have n2_ := Aside0.mk (hbox); have n3_ := Aside0.mk ((pn138_)); have n4_ := Aside0.mk ((pn138_)); clear HO_6; clear HB; have HO_6 := n0_; have HB := n1_; have BK203 := n2_; have GW203 := n3_; have GE203 := n4_; clear n0_ n1_ n2_ n3_ n4_; clear hb hbox hg; have hcz45_0 : w44.cell? ⟨gb203, 0, none⟩ = some (.int .i64 0) := (blk_cell BK203.out 0).trans rfl; have hcz45_1 : w44.cell? ⟨gb203, 1, none⟩ = some (.int .i64 0) := (blk_cell BK203.out 1).trans rfl; have hcz45_2 : w44.cell? ⟨gb203, 2, none⟩ = some (.slice none 0 0) := (blk_cell BK203.out 2).trans rfl; have hcz45_3 : w44.cell? ⟨gb203, 3, none⟩ = some (.int .i64 0) := (blk_cell BK203.out 3).trans rfl; have hcz45_4 : w44.cell? ⟨gb203, 4, none⟩ = some (.slice none 0 0) := (blk_cell BK203.out 4).trans rfl; have hcz45_5 : w44.cell? ⟨gb203, 5, none⟩ = some (.int .i64 0) := (blk_cell BK203.out 5).trans rfl; have hfz45_0 := blk_frozen BK203.out 0; have hfz45_1 := blk_frozen BK203.out 1; have hfz45_2 := blk_frozen BK203.out 2; have hfz45_3 := blk_frozen BK203.out 3; have hfz45_4 := blk_frozen BK203.out 4; have hfz45_5 := blk_frozen BK203.out 5) | ((with_reducible refine gate_callee (f := 68) rfl ?_); refine goesL_ (some 49) rfl rfl Tryd.func68 (by kernel_rfl) rfl #[.agg #[.int .i64 ((rd_T58 l0 x43_2).f0), .int .i64 ((rd_T58 l0 x43_2).f1), .slice A202_2 ((rd_T58 l0 x43_2).f2).length c202_2, .int .i64 ((rd_T58 l0 x43_2).f3), .slice A202_4 ((rd_T58 l0 x43_2).f4).length c202_4, .int .i64 ((rd_T58 l0 x43_2).f5)]] rfl (pn132_) ?_; (with_reducible refine (frame_bytes.calls k2 ((rd_T58 l0 x43_2).f0) ((rd_T58 l0 x43_2).f1) _ _ ((rd_T58 l0 x43_2).f2) ((rd_T58 l0 x43_2).f3) _ _ ((rd_T58 l0 x43_2).f4) ((rd_T58 l0 x43_2).f5) t204 _ ?side1 ?side2 ?side3 ?side4 ?sideT A35.out).mono ?_); (case sideT => repeat (first | exact TB.below HT.out (by qb1_ GE203) | exact HT.out | exact TB.below HT.out HB.out | exact TB.below HT.out HBW.out | (with_reducible refine TB.alloc ?_ _) | (with_reducible refine TB.drewN ?_ _) | (with_reducible refine TB.drew ?_))); (case side1 => exact Kd.C_below HR202_2.out (by qb1_ GE203)); (case side2 => exact HC202_2.out); (case side3 => exact Kd.C_below HR202_4.out (by qb1_ GE203)); (case side4 => exact HC202_4.out); rintro e w46 ⟨v205, rfl, ho0, hb⟩; refine ⟨_, rfl, ?_⟩; have n0_ := Aside0.mk (Kd.R_elder' (pn131_) (Kd.R_base ho0) hb); have n1_ := Aside0.mk (Kd.R_lower (Kd.R_new' ho0 (Kd.R_lt (pn131_))) (below_size (by qb1_ GE203))); have n2_ := Aside0.mk (blk_below (g := gb203) (o := (on131_)) (by qk_; refine blk_put (cs := #[.int .i64 ((rd_T58 l0 x43_2).f0), .int .i64 ((rd_T58 l0 x43_2).f1), .slice A202_2 ((rd_T58 l0 x43_2).f2).length c202_2, .int .i64 ((rd_T58 l0 x43_2).f3), .slice A202_4 ((rd_T58 l0 x43_2).f4).length c202_4, .int .i64 0]) ?_ 5 _ rfl; qk_; refine blk_put (cs := #[.int .i64 ((rd_T58 l0 x43_2).f0), .int .i64 ((rd_T58 l0 x43_2).f1), .slice A202_2 ((rd_T58 l0 x43_2).f2).length c202_2, .int .i64 ((rd_T58 l0 x43_2).f3), .slice none 0 0, .int .i64 0]) ?_ 4 _ rfl; qk_; refine blk_put (cs := #[.int .i64 ((rd_T58 l0 x43_2).f0), .int .i64 ((rd_T58 l0 x43_2).f1), .slice A202_2 ((rd_T58 l0 x43_2).f2).length c202_2, .int .i64 0, .slice none 0 0, .int .i64 0]) ?_ 3 _ rfl; qk_; refine blk_put (cs := #[.int .i64 ((rd_T58 l0 x43_2).f0), .int .i64 ((rd_T58 l0 x43_2).f1), .slice none 0 0, .int .i64 0, .slice none 0 0, .int .i64 0]) ?_ 2 _ rfl; qk_; refine blk_put (cs := #[.int .i64 ((rd_T58 l0 x43_2).f0), .int .i64 0, .slice none 0 0, .int .i64 0, .slice none 0 0, .int .i64 0]) ?_ 1 _ rfl; qk_; refine blk_put (cs := #[.int .i64 0, .int .i64 0, .slice none 0 0, .int .i64 0, .slice none 0 0, .int .i64 0]) ?_ 0 _ rfl; qk_; exact BK203.out) hb); have n3_ := Aside0.mk (below_step (by qb1_ GE203) hb); clear HO_6; clear BK203; clear HB; have HO_6 := n0_; have HO206 := n1_; have BK203 := n2_; have HB := n3_; clear n0_ n1_ n2_ n3_; (try clear hb); (try clear hb2); (try clear hk); (try clear hi); (try clear ho0); obtain ⟨Ao48, co48, eo48⟩ := Kd.R_slice HO206.out; subst eo48) | ((with_reducible refine gate_builtin (b := .append) (xs := #[.tmp 47, .tmp 49]) rfl ?_); at_builtin; refine Kd.R_append_rows (Kd.int .u8) (w0 := w) w.heap.size rfl (.tmp 47) (.tmp 49) 22 5 (.int .u8 0) 1 rfl Tryd.underlying22 info5 rfl (by decide) (by omega) u6 x6_2 t204 _ _ _ (fun k_ => some k_ ≠ (.slice Ao48 t204.length co48 : Value).ownBlock) (fun _ => False) rfl rfl ?aO ?aR (fun _ _ h => h) (fun _ h => h.elim) ?aF ?aB ?aS ?aL ?_; (case aR => repeat (first | exact (Kd.R_reads' HO206.out).2.2 | (with_reducible refine Kd.C_alloc ?_ _) | (with_reducible refine Kd.C_drewN ?_ _) | (with_reducible refine Kd.C_drew ?_))); (case aB => exact (by qb1_ GE203)); (case aF => exact (fun k_ hk => Kd.fresh' (Kd.R_lt (by qR_; exact HO206.out)) k_ hk)); (case aO => exact (by qR_; exact Kd.R_mono HO_6.out (fun _ hk => hk.2))); (case aS => exact (below_size (by qb1_ GE203))); (case aL => have := LMc36.out; omega); intro v208 w47 ho hb hg hat; rw [← Ny207.out] at ho; have n0_ := Aside0.mk (blk_grown (g := gb203) (o := (on131_)) (by qk_; exact BK203.out) hg (Kd.R_ne HO_6.out BK203.out (by decide))); have n1_ := Aside0.mk (Kd.R_after (ok := (fun _ => True)) (by qR_; exact HO206.out) hg hat); have n2_ := Aside0.mk (hb); have n3_ := Aside0.mk (ho); clear BK203; clear HO206; clear HB; clear HO_6; have BK203 := n0_; have HO206 := n1_; have HB := n2_; have HO209 := n3_; clear n0_ n1_ n2_ n3_; clear ho hb hg hat; obtain ⟨Ao49, co49, eo49⟩ := Kd.R_slice HO209.out; subst eo49))
            go_roundg k2
            case measure => have := HK1.out; have := HK2.out; omega
            case rel => exact ⟨(y207), (wrap64 (x43_2 + 1)), (pn137_), H', ⟨by have := HK1.out; have := HK2.out; omega⟩, ⟨by qR_; exact Kd.R_mono HO209.out (fun _ hk => trivial)⟩, ⟨by qb1_ GE203⟩⟩
          ·rw [if_neg c36] at H
           exact absurd H (by simp)
         ·rw [if_neg c34] at H
          exact absurd H (by simp)
        ·rw [if_neg c33] at H
         exact absurd H (by simp)
       ·rw [if_neg c32] at H
        have c32b0 : decide (x43_2 < (l0.length : Int)) = false := decide_eq_false c32
        clear c32
        ln130_
        obtain ⟨rfl, rfl⟩ := H
        go_wp2
        go_ret2
        exact ⟨_, by first | rfl | (simp [errW_none, errW_some] <;> rfl) | (simp [*, errW_none, errW_some] <;> rfl), by qR_; exact HO_6.out, by qc0_⟩
end Go.Proofs.YtbcleckapamicaaDoor.QFr
