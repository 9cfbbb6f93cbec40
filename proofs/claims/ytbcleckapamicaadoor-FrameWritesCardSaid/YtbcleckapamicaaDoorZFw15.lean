/- A part of the proof of the law FrameWrites: QFrx9, QFrx10. -/
import Derived.Test.YtbcleckapamicaaDoorZFw02
import Derived.Test.YtbcleckapamicaaDoorZFw11
import Derived.Test.YtbcleckapamicaaDoorZFw13
import Derived.Test.YtbcleckapamicaaDoorZFw14
import Derived.Test.YtbcleckapamicaaDoorZFw03
import Derived.Test.YtbcleckapamicaaDoorZFw05
import Derived.Test.YtbcleckapamicaaDoorZFw06
namespace Go.Proofs.YtbcleckapamicaaDoor.QFr
open Go.RowKit Go.Proofs.YtbcleckapamicaaDoorW.PrintWords Go.Proofs.YtbcleckapamicaaDoorW.PrintLast Go.Proofs.YtbcleckapamicaaDoorW.PrintMore
attribute [local go_sem] max2_int min2_int max_two min_two max_three min_three max_four min_four
set_option linter.unusedVariables false
set_option linter.unusedSimpArgs false
open Go.Proofs.YtbcleckapamicaaDoor.Gv (TB TB.below TB.alloc TB.drew TB.drewN)
set_option hygiene false
local macro "pv210_" : term => `((by first | (with_reducible assumption) | assumption))
local macro "pv211_" : term => `((by (try simp only [List.map_toArray, List.map_cons, List.map_nil]); first | done | rfl | (simp only [List.length_drop, List.length_take]; rfl)))
local macro "pv212_" : term => `((shibbolethref06_Right.calls k1 ((rd_T62 l0 x4_1).f0) ((rd_T62 l0 x4_1).f1) _ _ ((rd_T62 l0 x4_1).f2) ((rd_T62 l0 x4_1).f3) _ _ ((rd_T62 l0 x4_1).f4) ((rd_T62 l0 x4_1).f5) true _ ?side1 ?side2 ?side3 ?side4 A5.out))
local macro "pv213_" : term => `((if bt326.2 = 0 then ((shibbolethlaw06_same.f k bt326.1 (([2, 7, 1, 0, 0, 2] : List Int))).bind fun t333 => (some t333)) else (some false)))
local macro "pv214_" : term => `((by first | rfl | (simp; done) | (simp [*]; done)))
local macro "pv215_" : term => `((shibbolethref06_Write.l0 k1 l0 (wrap64 (x4_1 + 1))))
local macro "lv210_" : tactic => `(tactic| (simp only [Option.some.injEq, Prod.mk.injEq] at H))
local macro "lv211_" : tactic => `(tactic| (exact ⟨_, by first | rfl | (simp [errW_none, errW_some] <;> rfl) | (simp [*, errW_none, errW_some] <;> rfl), by first | exact Kd.R_nil _ _ _ _ _ | exact Kd.N_nil _ _ _ _ _ | exact Kd.V_nil _ _ _ _ _ | exact Kd.Q_nil _ _ _ _ _ | exact Kd.S_nil _ _ _ _ _, by qc0_⟩))
local macro "lv212_" : tactic => `(tactic| (have p307 : 0 ≤ (x4_1 : Int) := of_decide_eq_true (pv210_)))
local macro "lv213_" : tactic => `(tactic| (have q307 : x4_1 < (l0.length : Int) := of_decide_eq_true (pv210_)))
local macro "lv214_" : tactic => `(tactic| (obtain ⟨ad307, A307_2, c307_2, A307_4, c307_4, e307, hx307_0, hx307_1, hx307_2, hx307_3, hx307_4, hx307_5, hl307_2, hi307_2, hl307_4, hi307_4⟩ := at_T62 HR0.out x4_1 p307 q307))
local macro "lv215_" : tactic => `(tactic| (replace hx307_0 := (HB.out.cell (World.block_lt_of_cell? w _ hx307_0)).trans hx307_0))
local macro "lv216_" : tactic => `(tactic| (replace hx307_1 := (HB.out.cell (World.block_lt_of_cell? w _ hx307_1)).trans hx307_1))
local macro "lv217_" : tactic => `(tactic| (replace hx307_2 := (HB.out.cell (World.block_lt_of_cell? w _ hx307_2)).trans hx307_2))
local macro "lv218_" : tactic => `(tactic| (replace hx307_3 := (HB.out.cell (World.block_lt_of_cell? w _ hx307_3)).trans hx307_3))
local macro "lv219_" : tactic => `(tactic| (replace hx307_4 := (HB.out.cell (World.block_lt_of_cell? w _ hx307_4)).trans hx307_4))
local macro "lv2110_" : tactic => `(tactic| (replace hx307_5 := (HB.out.cell (World.block_lt_of_cell? w _ hx307_5)).trans hx307_5))
local macro "lv2111_" : tactic => `(tactic| (exact ⟨by first | rfl | (simp; done) | (simp [*]; done), by repeat (first | exact Drawn0.refl _ | apply Drawn0.step)⟩))
set_option hygiene true
mutual
def shibbolethref06_Write.l0 : Nat → List (S62) → Int → Option (List Int × Int)
 | 0, _, _ => none
 | k + 1, x0, x4 => if x4 < (x0.length : Int) then (if 0 ≤ x4 then ((shibbolethref06_Right.f k ((rd_T62 x0 x4).f0) ((rd_T62 x0 x4).f1) ((rd_T62 x0 x4).f2) ((rd_T62 x0 x4).f3) ((rd_T62 x0 x4).f4) ((rd_T62 x0 x4).f5)).bind fun t308 => (if t308 = true then (if x4 > 0 then (if ((rd_T62 x0 x4).f0) = 0 then (if 0 ≤ (wrap64 (x4 - 1)) then (if (wrap64 (x4 - 1)) < (x0.length : Int) then (if ((rd_T62 x0 (wrap64 (x4 - 1))).f0) = 0 then (some (([] : List Int), 1)) else (shibbolethref06_Write.l0 k x0 (wrap64 (x4 + 1)))) else (none)) else (none)) else (shibbolethref06_Write.l0 k x0 (wrap64 (x4 + 1)))) else (shibbolethref06_Write.l0 k x0 (wrap64 (x4 + 1)))) else (some (([] : List Int), 1)))) else (none)) else (shibbolethref06_Write.l1 k x0 ([] : List Int) 0)
def shibbolethref06_Write.l1 : Nat → List (S62) → List Int → Int → Option (List Int × Int)
 | 0, _, _, _ => none
 | k + 1, x0, x5, x6 => if x6 < (x0.length : Int) then (if 0 ≤ x6 then ((shibbolethref06_Bytes.f k ((rd_T62 x0 x6).f0) ((rd_T62 x0 x6).f1) ((rd_T62 x0 x6).f2) ((rd_T62 x0 x6).f3) ((rd_T62 x0 x6).f4) ((rd_T62 x0 x6).f5)).bind fun t312 => (if x5.length + t312.length < 140737488355328 then (shibbolethref06_Write.l1 k x0 (x5 ++ t312) (wrap64 (x6 + 1))) else (none))) else (none)) else (if (x5.length : Int) > 1200 then (some (([] : List Int), 4)) else (some (x5, 0)))
end
def shibbolethref06_Write.f (k : Nat) (l0 : List (S62)) : Option (List Int × Int) := if (l0.length : Int) = 0 then (some (([] : List Int), 1)) else (shibbolethref06_Write.l0 k l0 0)
theorem shibbolethref06_Write.mono_l : ∀ k, (∀ y0 y1, LeO (shibbolethref06_Write.l0 k y0 y1) (shibbolethref06_Write.l0 (k + 1) y0 y1)) ∧ (∀ y0 y1 y2, LeO (shibbolethref06_Write.l1 k y0 y1 y2) (shibbolethref06_Write.l1 (k + 1) y0 y1 y2))
 | 0 => ⟨fun _ _ r h => by simp [shibbolethref06_Write.l0] at h, fun _ _ _ r h => by simp [shibbolethref06_Write.l1] at h⟩
 | k + 1 => by
  obtain ⟨ih0, ih1⟩ := shibbolethref06_Write.mono_l k
  refine ⟨?_, ?_⟩
  ·intro y0 y1
   unfold shibbolethref06_Write.l0
   repeat' first
   | (with_reducible exact ih0 _ _)
   | (with_reducible exact ih1 _ _ _)
   | (with_reducible exact shibbolethref06_Bytes.mono _ _ _ _ _ _ _)
   | (with_reducible exact shibbolethref06_Right.mono _ _ _ _ _ _ _)
   | (with_reducible exact LeO.refl _)
   | (with_reducible exact LeO.none _)
   | (with_reducible refine LeO.ite ?_ ?_)
   | (with_reducible refine LeO.bind ?_ (fun _ => ?_))
   | exact ih0 _ _
   | exact ih1 _ _ _
   | exact shibbolethref06_Bytes.mono _ _ _ _ _ _ _
   | exact shibbolethref06_Right.mono _ _ _ _ _ _ _
   | exact LeO.none _
   | refine LeO.ite ?_ ?_
   | refine LeO.bind ?_ (fun _ => ?_)
  ·intro y0 y1 y2
   unfold shibbolethref06_Write.l1
   repeat' first
   | (with_reducible exact ih0 _ _)
   | (with_reducible exact ih1 _ _ _)
   | (with_reducible exact shibbolethref06_Bytes.mono _ _ _ _ _ _ _)
   | (with_reducible exact shibbolethref06_Right.mono _ _ _ _ _ _ _)
   | (with_reducible exact LeO.refl _)
   | (with_reducible exact LeO.none _)
   | (with_reducible refine LeO.ite ?_ ?_)
   | (with_reducible refine LeO.bind ?_ (fun _ => ?_))
   | exact ih0 _ _
   | exact ih1 _ _ _
   | exact shibbolethref06_Bytes.mono _ _ _ _ _ _ _
   | exact shibbolethref06_Right.mono _ _ _ _ _ _ _
   | exact LeO.none _
   | refine LeO.ite ?_ ?_
   | refine LeO.bind ?_ (fun _ => ?_)
theorem shibbolethref06_Write.mono : ∀ a0 k, LeO (shibbolethref06_Write.f k a0) (shibbolethref06_Write.f (k + 1) a0) := by
 intro a0 k
 obtain ⟨ih0, ih1⟩ := shibbolethref06_Write.mono_l k
 unfold shibbolethref06_Write.f
 repeat' first
   | (with_reducible exact ih0 _ _)
   | (with_reducible exact ih1 _ _ _)
   | (with_reducible exact shibbolethref06_Bytes.mono _ _ _ _ _ _ _)
   | (with_reducible exact shibbolethref06_Right.mono _ _ _ _ _ _ _)
   | (with_reducible exact LeO.refl _)
   | (with_reducible exact LeO.none _)
   | (with_reducible refine LeO.ite ?_ ?_)
   | (with_reducible refine LeO.bind ?_ (fun _ => ?_))
   | exact ih0 _ _
   | exact ih1 _ _ _
   | exact shibbolethref06_Bytes.mono _ _ _ _ _ _ _
   | exact shibbolethref06_Right.mono _ _ _ _ _ _ _
   | exact LeO.none _
   | refine LeO.ite ?_ ?_
   | refine LeO.bind ?_ (fun _ => ?_)
set_option maxHeartbeats 8000000 in
set_option maxRecDepth 100000 in
theorem shibbolethref06_Write.calls (k : Nat) (A0 : Option Addr) (c0 : Nat) (l0 : List (S62)) (r1 : List Int) (r2 : Int) (w : World) (hr0 : Kd.C k62 w A0 l0.length l0) (hc0 : l0.length ≤ c0) (h : shibbolethref06_Write.f k l0 = some (r1, r2)) :
  Calls Tryd.prog 47 #[.slice A0 l0.length c0] w fun e w' => ∃ v0_ : Value, e = .returned (.tuple #[v0_, .int .i64 r2]) ∧ Kd.R (Kd.int .u8) 5 w' w.heap.size (fun _ => True) v0_ r1 ∧ Below w.heap.size w w' := by
 have hu62 := Tryd.underlying62
 have HR0 := Aside0.mk hr0
 have HC0 := Aside0.mk hc0
 clear hr0 hc0
 have HB := Aside0.mk (Below.refl w.heap.size w)
 have H : (if (l0.length : Int) = 0 then (some (([] : List Int), 1)) else (shibbolethref06_Write.l0 k l0 0)) = some (r1, r2) := h
 clear h
 by_cases c2 : (l0.length : Int) = 0
 ·rw [if_pos c2] at H
  have c2b0 : ((l0.length : Int) == 0) = true := beq_iff_eq.mpr c2
  have c2b1 : ((l0.length : Int) != 0) = false := bne_eq_false_iff_eq.mpr c2
  clear c2
  lv210_
  obtain ⟨rfl, rfl⟩ := H
  go_enter Tryd.func47, Tryd.ntmps47
  go_wp2
  go_ret2
  lv211_
 ·rw [if_neg c2] at H
  have c2b0 : ((l0.length : Int) == 0) = false := beq_eq_false_iff_ne.mpr c2
  have c2b1 : ((l0.length : Int) != 0) = true := bne_iff_ne.mpr c2
  have c2b2 : ¬ (l0 = []) := fun h_ => c2 (by rw [h_]; rfl)
  have H' := Aside0.mk H
  clear H
  go_enter Tryd.func47, Tryd.ntmps47
  go_wp2
  go_loopg [4] k (fun kq v4 w' => ∃ (x4_1 : Int), v4 = .int .i64 x4_1 ∧ Aside0 (shibbolethref06_Write.l0 kq l0 x4_1 = some (r1, r2)) ∧ Aside0 (kq ≤ k) ∧ Aside0 (Below w.heap.size w w'))
  case atStart => exact ⟨(0), (pv214_), H', ⟨Nat.le_refl _⟩, ⟨by qc0_⟩⟩
  case round =>
   clear H'
   try clear c2
   try clear c2b0
   try clear c2b1
   try clear c2b2
   try clear p2
   obtain ⟨x4_1, rfl, HA, HK1, HB⟩ := hrel
   cases gk with
   | zero => exact absurd HA.out (by simp [shibbolethref06_Write.l0])
   | succ k1 =>
    have H := HA.out
    clear HA
    simp only [shibbolethref06_Write.l0] at H
    by_cases c3 : x4_1 < (l0.length : Int)
    ·rw [if_pos c3] at H
     have c3b0 : decide (x4_1 < (l0.length : Int)) = true := decide_eq_true c3
     clear c3
     by_cases c4 : 0 ≤ x4_1
     ·rw [if_pos c4] at H
      have c4b0 : decide (0 ≤ x4_1) = true := decide_eq_true c4
      clear c4
      replace H := Option.bind_eq_some_iff.mp H
      obtain ⟨t308, A50, H⟩ := H
      replace H : (if t308 = true then (if x4_1 > 0 then (if ((rd_T62 l0 x4_1).f0) = 0 then (if 0 ≤ (wrap64 (x4_1 - 1)) then (if (wrap64 (x4_1 - 1)) < (l0.length : Int) then (if ((rd_T62 l0 (wrap64 (x4_1 - 1))).f0) = 0 then (some (([] : List Int), 1)) else (pv215_)) else (none)) else (none)) else (pv215_)) else (pv215_)) else (some (([] : List Int), 1))) = some (r1, r2) := H
      have A5 := Aside0.mk A50
      clear A50
      by_cases c6 : t308 = true
      ·subst c6
       have H1 : (if x4_1 > 0 then (if ((rd_T62 l0 x4_1).f0) = 0 then (if 0 ≤ (wrap64 (x4_1 - 1)) then (if (wrap64 (x4_1 - 1)) < (l0.length : Int) then (if ((rd_T62 l0 (wrap64 (x4_1 - 1))).f0) = 0 then (some (([] : List Int), 1)) else (pv215_)) else (none)) else (none)) else (pv215_)) else (pv215_)) = some (r1, r2) := by rw [if_pos rfl] at H; exact H
       clear H
       have H := H1
       clear H1
       by_cases c7 : x4_1 > 0
       ·rw [if_pos c7] at H
        have c7b0 : decide (0 < x4_1) = true := decide_eq_true c7
        clear c7
        by_cases c8 : ((rd_T62 l0 x4_1).f0) = 0
        ·rw [if_pos c8] at H
         have c8b0 : (((rd_T62 l0 x4_1).f0) == 0) = true := beq_iff_eq.mpr c8
         have c8b1 : (((rd_T62 l0 x4_1).f0) != 0) = false := bne_eq_false_iff_eq.mpr c8
         clear c8
         obtain ⟨ji9, hji9⟩ : ∃ j_ : Int, (wrap64 (x4_1 - 1)) = j_ := ⟨_, rfl⟩
         replace H : (if 0 ≤ (ji9) then (if (ji9) < (l0.length : Int) then (if ((rd_T62 l0 (ji9)).f0) = 0 then (some (([] : List Int), 1)) else (pv215_)) else (none)) else (none)) = some (r1, r2) := by first | (rw [hji9] at H; exact H) | (simp only [hji9] at H ⊢; exact H)
         (try rw [hji9] at A5)
         have hji9w : (IntKind.i64.wrap (x4_1 - 1)) = ji9 := (i64_w _).trans hji9
         by_cases c10 : 0 ≤ (ji9)
         ·rw [if_pos c10] at H
          have c10b0 : decide (0 ≤ (ji9)) = true := decide_eq_true c10
          clear c10
          by_cases c11 : (ji9) < (l0.length : Int)
          ·rw [if_pos c11] at H
           have c11b0 : decide ((ji9) < (l0.length : Int)) = true := decide_eq_true c11
           clear c11
           by_cases c12 : ((rd_T62 l0 (ji9)).f0) = 0
           ·rw [if_pos c12] at H
            have c12b0 : (((rd_T62 l0 (ji9)).f0) == 0) = true := beq_iff_eq.mpr c12
            have c12b1 : (((rd_T62 l0 (ji9)).f0) != 0) = false := bne_eq_false_iff_eq.mpr c12
            clear c12
            lv210_
            obtain ⟨rfl, rfl⟩ := H
            lv212_
            lv213_
            lv214_
            cases e307
            lv215_
            lv216_
            lv217_
            lv218_
            lv219_
            lv2110_
            have HR307_2 := Aside0.mk hi307_2
            have HC307_2 := Aside0.mk hl307_2
            clear hi307_2 hl307_2
            have HR307_4 := Aside0.mk hi307_4
            have HC307_4 := Aside0.mk hl307_4
            clear hi307_4 hl307_4
            replace p307 := eq_true p307
            replace q307 := eq_true q307
            go_wp2_with (first | ((with_reducible refine gate_callee (f := 44) rfl ?_); refine goesL_ (some 20) rfl rfl Tryd.func44 (by kernel_rfl) rfl #[.agg #[.int .i64 ((rd_T62 l0 x4_1).f0), .int .i64 ((rd_T62 l0 x4_1).f1), .slice A307_2 ((rd_T62 l0 x4_1).f2).length c307_2, .int .i64 ((rd_T62 l0 x4_1).f3), .slice A307_4 ((rd_T62 l0 x4_1).f4).length c307_4, .int .i64 ((rd_T62 l0 x4_1).f5)]] rfl (pv211_) ?_; (with_reducible refine (pv212_).mono ?_); (case side1 => repeat (first | exact (Kd.C_below HR307_2.out HB.out) | exact HR307_2.out | (with_reducible refine Kd.C_alloc ?_ _) | (with_reducible refine Kd.C_drewN ?_ _) | (with_reducible refine Kd.C_drew ?_))); (case side2 => exact HC307_2.out); (case side3 => repeat (first | exact (Kd.C_below HR307_4.out HB.out) | exact HR307_4.out | (with_reducible refine Kd.C_alloc ?_ _) | (with_reducible refine Kd.C_drewN ?_ _) | (with_reducible refine Kd.C_drew ?_))); (case side4 => exact HC307_4.out); rintro e w13 ⟨rfl, hb⟩; refine ⟨_, rfl, ?_⟩; have n0_ := Aside0.mk (below_step (by qc0_) hb); clear HB; have HB := n0_; clear n0_; (try clear hb); (try clear hb2); (try clear hk); (try clear hi); have p309 : 0 ≤ (x4_1 : Int) := of_decide_eq_true (pv210_); have q309 : x4_1 < (l0.length : Int) := of_decide_eq_true (pv210_); obtain ⟨ad309, A309_2, c309_2, A309_4, c309_4, e309, hx309_0, hx309_1, hx309_2, hx309_3, hx309_4, hx309_5, hl309_2, hi309_2, hl309_4, hi309_4⟩ := at_T62 HR0.out x4_1 p309 q309; obtain rfl : ad307 = ad309 := (by injection e309); replace hx309_0 := (HB.out.cell (World.block_lt_of_cell? w _ hx309_0)).trans hx309_0; replace hx309_1 := (HB.out.cell (World.block_lt_of_cell? w _ hx309_1)).trans hx309_1; replace hx309_2 := (HB.out.cell (World.block_lt_of_cell? w _ hx309_2)).trans hx309_2; replace hx309_3 := (HB.out.cell (World.block_lt_of_cell? w _ hx309_3)).trans hx309_3; replace hx309_4 := (HB.out.cell (World.block_lt_of_cell? w _ hx309_4)).trans hx309_4; replace hx309_5 := (HB.out.cell (World.block_lt_of_cell? w _ hx309_5)).trans hx309_5; have HR309_2 := Aside0.mk hi309_2; have HC309_2 := Aside0.mk hl309_2; clear hi309_2 hl309_2; have HR309_4 := Aside0.mk hi309_4; have HC309_4 := Aside0.mk hl309_4; clear hi309_4 hl309_4; replace p309 := eq_true p309; replace q309 := eq_true q309; have p310 : 0 ≤ ((ji9) : Int) := of_decide_eq_true (pv210_); have q310 : (ji9) < (l0.length : Int) := of_decide_eq_true (pv210_); obtain ⟨ad310, A310_2, c310_2, A310_4, c310_4, e310, hx310_0, hx310_1, hx310_2, hx310_3, hx310_4, hx310_5, hl310_2, hi310_2, hl310_4, hi310_4⟩ := at_T62 HR0.out (ji9) p310 q310; obtain rfl : ad307 = ad310 := (by injection e310); replace hx310_0 := (HB.out.cell (World.block_lt_of_cell? w _ hx310_0)).trans hx310_0; replace hx310_1 := (HB.out.cell (World.block_lt_of_cell? w _ hx310_1)).trans hx310_1; replace hx310_2 := (HB.out.cell (World.block_lt_of_cell? w _ hx310_2)).trans hx310_2; replace hx310_3 := (HB.out.cell (World.block_lt_of_cell? w _ hx310_3)).trans hx310_3; replace hx310_4 := (HB.out.cell (World.block_lt_of_cell? w _ hx310_4)).trans hx310_4; replace hx310_5 := (HB.out.cell (World.block_lt_of_cell? w _ hx310_5)).trans hx310_5; have HR310_2 := Aside0.mk hi310_2; have HC310_2 := Aside0.mk hl310_2; clear hi310_2 hl310_2; have HR310_4 := Aside0.mk hi310_4; have HC310_4 := Aside0.mk hl310_4; clear hi310_4 hl310_4; replace p310 := eq_true p310; replace q310 := eq_true q310))
            go_ret2
            exact ⟨_, by first | rfl | (simp [errW_none, errW_some] <;> rfl) | (simp only [← hji9]; first | rfl | (simp [errW_none, errW_some] <;> rfl)) | (simp [*, errW_none, errW_some] <;> rfl), by first | exact Kd.R_nil _ _ _ _ _ | exact Kd.N_nil _ _ _ _ _ | exact Kd.V_nil _ _ _ _ _ | exact Kd.Q_nil _ _ _ _ _ | exact Kd.S_nil _ _ _ _ _, by qc0_⟩
           ·rw [if_neg c12] at H
            have c12b0 : (((rd_T62 l0 (ji9)).f0) == 0) = false := beq_eq_false_iff_ne.mpr c12
            have c12b1 : (((rd_T62 l0 (ji9)).f0) != 0) = true := bne_iff_ne.mpr c12
            have H' := Aside0.mk H
            clear H
            lv212_
            lv213_
            lv214_
            cases e307
            lv215_
            lv216_
            lv217_
            lv218_
            lv219_
            lv2110_
            have HR307_2 := Aside0.mk hi307_2
            have HC307_2 := Aside0.mk hl307_2
            clear hi307_2 hl307_2
            have HR307_4 := Aside0.mk hi307_4
            have HC307_4 := Aside0.mk hl307_4
            clear hi307_4 hl307_4
            replace p307 := eq_true p307
            replace q307 := eq_true q307
            go_wp2_with (first | ((with_reducible refine gate_callee (f := 44) rfl ?_); refine goesL_ (some 20) rfl rfl Tryd.func44 (by kernel_rfl) rfl #[.agg #[.int .i64 ((rd_T62 l0 x4_1).f0), .int .i64 ((rd_T62 l0 x4_1).f1), .slice A307_2 ((rd_T62 l0 x4_1).f2).length c307_2, .int .i64 ((rd_T62 l0 x4_1).f3), .slice A307_4 ((rd_T62 l0 x4_1).f4).length c307_4, .int .i64 ((rd_T62 l0 x4_1).f5)]] rfl (pv211_) ?_; (with_reducible refine (pv212_).mono ?_); (case side1 => repeat (first | exact (Kd.C_below HR307_2.out HB.out) | exact HR307_2.out | (with_reducible refine Kd.C_alloc ?_ _) | (with_reducible refine Kd.C_drewN ?_ _) | (with_reducible refine Kd.C_drew ?_))); (case side2 => exact HC307_2.out); (case side3 => repeat (first | exact (Kd.C_below HR307_4.out HB.out) | exact HR307_4.out | (with_reducible refine Kd.C_alloc ?_ _) | (with_reducible refine Kd.C_drewN ?_ _) | (with_reducible refine Kd.C_drew ?_))); (case side4 => exact HC307_4.out); rintro e w14 ⟨rfl, hb⟩; refine ⟨_, rfl, ?_⟩; have n0_ := Aside0.mk (below_step (by qc0_) hb); clear HB; have HB := n0_; clear n0_; (try clear hb); (try clear hb2); (try clear hk); (try clear hi); have p309 : 0 ≤ (x4_1 : Int) := of_decide_eq_true (pv210_); have q309 : x4_1 < (l0.length : Int) := of_decide_eq_true (pv210_); obtain ⟨ad309, A309_2, c309_2, A309_4, c309_4, e309, hx309_0, hx309_1, hx309_2, hx309_3, hx309_4, hx309_5, hl309_2, hi309_2, hl309_4, hi309_4⟩ := at_T62 HR0.out x4_1 p309 q309; obtain rfl : ad307 = ad309 := (by injection e309); replace hx309_0 := (HB.out.cell (World.block_lt_of_cell? w _ hx309_0)).trans hx309_0; replace hx309_1 := (HB.out.cell (World.block_lt_of_cell? w _ hx309_1)).trans hx309_1; replace hx309_2 := (HB.out.cell (World.block_lt_of_cell? w _ hx309_2)).trans hx309_2; replace hx309_3 := (HB.out.cell (World.block_lt_of_cell? w _ hx309_3)).trans hx309_3; replace hx309_4 := (HB.out.cell (World.block_lt_of_cell? w _ hx309_4)).trans hx309_4; replace hx309_5 := (HB.out.cell (World.block_lt_of_cell? w _ hx309_5)).trans hx309_5; have HR309_2 := Aside0.mk hi309_2; have HC309_2 := Aside0.mk hl309_2; clear hi309_2 hl309_2; have HR309_4 := Aside0.mk hi309_4; have HC309_4 := Aside0.mk hl309_4; clear hi309_4 hl309_4; replace p309 := eq_true p309; replace q309 := eq_true q309; have p310 : 0 ≤ ((ji9) : Int) := of_decide_eq_true (pv210_); have q310 : (ji9) < (l0.length : Int) := of_decide_eq_true (pv210_); obtain ⟨ad310, A310_2, c310_2, A310_4, c310_4, e310, hx310_0, hx310_1, hx310_2, hx310_3, hx310_4, hx310_5, hl310_2, hi310_2, hl310_4, hi310_4⟩ := at_T62 HR0.out (ji9) p310 q310; obtain rfl : ad307 = ad310 := (by injection e310); replace hx310_0 := (HB.out.cell (World.block_lt_of_cell? w _ hx310_0)).trans hx310_0; replace hx310_1 := (HB.out.cell (World.block_lt_of_cell? w _ hx310_1)).trans hx310_1; replace hx310_2 := (HB.out.cell (World.block_lt_of_cell? w _ hx310_2)).trans hx310_2; replace hx310_3 := (HB.out.cell (World.block_lt_of_cell? w _ hx310_3)).trans hx310_3; replace hx310_4 := (HB.out.cell (World.block_lt_of_cell? w _ hx310_4)).trans hx310_4; replace hx310_5 := (HB.out.cell (World.block_lt_of_cell? w _ hx310_5)).trans hx310_5; have HR310_2 := Aside0.mk hi310_2; have HC310_2 := Aside0.mk hl310_2; clear hi310_2 hl310_2; have HR310_4 := Aside0.mk hi310_4; have HC310_4 := Aside0.mk hl310_4; clear hi310_4 hl310_4; replace p310 := eq_true p310; replace q310 := eq_true q310))
            go_roundg k1
            case measure => have := HK1.out; omega
            case rel => exact ⟨(wrap64 (x4_1 + 1)), (pv214_), H', ⟨by have := HK1.out; omega⟩, ⟨by qc0_⟩⟩
          ·rw [if_neg c11] at H
           exact absurd H (by simp)
         ·rw [if_neg c10] at H
          exact absurd H (by simp)
        ·rw [if_neg c8] at H
         have c8b0 : (((rd_T62 l0 x4_1).f0) == 0) = false := beq_eq_false_iff_ne.mpr c8
         have c8b1 : (((rd_T62 l0 x4_1).f0) != 0) = true := bne_iff_ne.mpr c8
         have H' := Aside0.mk H
         clear H
         lv212_
         lv213_
         lv214_
         cases e307
         lv215_
         lv216_
         lv217_
         lv218_
         lv219_
         lv2110_
         have HR307_2 := Aside0.mk hi307_2
         have HC307_2 := Aside0.mk hl307_2
         clear hi307_2 hl307_2
         have HR307_4 := Aside0.mk hi307_4
         have HC307_4 := Aside0.mk hl307_4
         clear hi307_4 hl307_4
         replace p307 := eq_true p307
         replace q307 := eq_true q307
         go_wp2_with (first | ((with_reducible refine gate_callee (f := 44) rfl ?_); refine goesL_ (some 20) rfl rfl Tryd.func44 (by kernel_rfl) rfl #[.agg #[.int .i64 ((rd_T62 l0 x4_1).f0), .int .i64 ((rd_T62 l0 x4_1).f1), .slice A307_2 ((rd_T62 l0 x4_1).f2).length c307_2, .int .i64 ((rd_T62 l0 x4_1).f3), .slice A307_4 ((rd_T62 l0 x4_1).f4).length c307_4, .int .i64 ((rd_T62 l0 x4_1).f5)]] rfl (pv211_) ?_; (with_reducible refine (pv212_).mono ?_); (case side1 => repeat (first | exact (Kd.C_below HR307_2.out HB.out) | exact HR307_2.out | (with_reducible refine Kd.C_alloc ?_ _) | (with_reducible refine Kd.C_drewN ?_ _) | (with_reducible refine Kd.C_drew ?_))); (case side2 => exact HC307_2.out); (case side3 => repeat (first | exact (Kd.C_below HR307_4.out HB.out) | exact HR307_4.out | (with_reducible refine Kd.C_alloc ?_ _) | (with_reducible refine Kd.C_drewN ?_ _) | (with_reducible refine Kd.C_drew ?_))); (case side4 => exact HC307_4.out); rintro e w15 ⟨rfl, hb⟩; refine ⟨_, rfl, ?_⟩; have n0_ := Aside0.mk (below_step (by qc0_) hb); clear HB; have HB := n0_; clear n0_; (try clear hb); (try clear hb2); (try clear hk); (try clear hi); have p309 : 0 ≤ (x4_1 : Int) := of_decide_eq_true (pv210_); have q309 : x4_1 < (l0.length : Int) := of_decide_eq_true (pv210_); obtain ⟨ad309, A309_2, c309_2, A309_4, c309_4, e309, hx309_0, hx309_1, hx309_2, hx309_3, hx309_4, hx309_5, hl309_2, hi309_2, hl309_4, hi309_4⟩ := at_T62 HR0.out x4_1 p309 q309; obtain rfl : ad307 = ad309 := (by injection e309); replace hx309_0 := (HB.out.cell (World.block_lt_of_cell? w _ hx309_0)).trans hx309_0; replace hx309_1 := (HB.out.cell (World.block_lt_of_cell? w _ hx309_1)).trans hx309_1; replace hx309_2 := (HB.out.cell (World.block_lt_of_cell? w _ hx309_2)).trans hx309_2; replace hx309_3 := (HB.out.cell (World.block_lt_of_cell? w _ hx309_3)).trans hx309_3; replace hx309_4 := (HB.out.cell (World.block_lt_of_cell? w _ hx309_4)).trans hx309_4; replace hx309_5 := (HB.out.cell (World.block_lt_of_cell? w _ hx309_5)).trans hx309_5; have HR309_2 := Aside0.mk hi309_2; have HC309_2 := Aside0.mk hl309_2; clear hi309_2 hl309_2; have HR309_4 := Aside0.mk hi309_4; have HC309_4 := Aside0.mk hl309_4; clear hi309_4 hl309_4; replace p309 := eq_true p309; replace q309 := eq_true q309))
         go_roundg k1
         case measure => have := HK1.out; omega
         case rel => exact ⟨(wrap64 (x4_1 + 1)), (pv214_), H', ⟨by have := HK1.out; omega⟩, ⟨by qc0_⟩⟩
       ·rw [if_neg c7] at H
        have c7b0 : decide (0 < x4_1) = false := decide_eq_false c7
        clear c7
        have H' := Aside0.mk H
        clear H
        lv212_
        lv213_
        lv214_
        cases e307
        lv215_
        lv216_
        lv217_
        lv218_
        lv219_
        lv2110_
        have HR307_2 := Aside0.mk hi307_2
        have HC307_2 := Aside0.mk hl307_2
        clear hi307_2 hl307_2
        have HR307_4 := Aside0.mk hi307_4
        have HC307_4 := Aside0.mk hl307_4
        clear hi307_4 hl307_4
        replace p307 := eq_true p307
        replace q307 := eq_true q307
        go_wp2_with (first | ((with_reducible refine gate_callee (f := 44) rfl ?_); refine goesL_ (some 20) rfl rfl Tryd.func44 (by kernel_rfl) rfl #[.agg #[.int .i64 ((rd_T62 l0 x4_1).f0), .int .i64 ((rd_T62 l0 x4_1).f1), .slice A307_2 ((rd_T62 l0 x4_1).f2).length c307_2, .int .i64 ((rd_T62 l0 x4_1).f3), .slice A307_4 ((rd_T62 l0 x4_1).f4).length c307_4, .int .i64 ((rd_T62 l0 x4_1).f5)]] rfl (pv211_) ?_; (with_reducible refine (pv212_).mono ?_); (case side1 => repeat (first | exact (Kd.C_below HR307_2.out HB.out) | exact HR307_2.out | (with_reducible refine Kd.C_alloc ?_ _) | (with_reducible refine Kd.C_drewN ?_ _) | (with_reducible refine Kd.C_drew ?_))); (case side2 => exact HC307_2.out); (case side3 => repeat (first | exact (Kd.C_below HR307_4.out HB.out) | exact HR307_4.out | (with_reducible refine Kd.C_alloc ?_ _) | (with_reducible refine Kd.C_drewN ?_ _) | (with_reducible refine Kd.C_drew ?_))); (case side4 => exact HC307_4.out); rintro e w16 ⟨rfl, hb⟩; refine ⟨_, rfl, ?_⟩; have n0_ := Aside0.mk (below_step (by qc0_) hb); clear HB; have HB := n0_; clear n0_; (try clear hb); (try clear hb2); (try clear hk); (try clear hi)))
        go_roundg k1
        case measure => have := HK1.out; omega
        case rel => exact ⟨(wrap64 (x4_1 + 1)), (pv214_), H', ⟨by have := HK1.out; omega⟩, ⟨by qc0_⟩⟩
      ·replace c6 := Bool.eq_false_iff.mpr c6
       subst c6
       have H1 : (some (([] : List Int), 1)) = some (r1, r2) := by rw [if_neg (show ¬ (false = true) by decide)] at H; exact H
       clear H
       have H := H1
       clear H1
       lv210_
       obtain ⟨rfl, rfl⟩ := H
       lv212_
       lv213_
       lv214_
       cases e307
       lv215_
       lv216_
       lv217_
       lv218_
       lv219_
       lv2110_
       have HR307_2 := Aside0.mk hi307_2
       have HC307_2 := Aside0.mk hl307_2
       clear hi307_2 hl307_2
       have HR307_4 := Aside0.mk hi307_4
       have HC307_4 := Aside0.mk hl307_4
       clear hi307_4 hl307_4
       replace p307 := eq_true p307
       replace q307 := eq_true q307
       go_wp2_with (first | ((with_reducible refine gate_callee (f := 44) rfl ?_); refine goesL_ (some 20) rfl rfl Tryd.func44 (by kernel_rfl) rfl #[.agg #[.int .i64 ((rd_T62 l0 x4_1).f0), .int .i64 ((rd_T62 l0 x4_1).f1), .slice A307_2 ((rd_T62 l0 x4_1).f2).length c307_2, .int .i64 ((rd_T62 l0 x4_1).f3), .slice A307_4 ((rd_T62 l0 x4_1).f4).length c307_4, .int .i64 ((rd_T62 l0 x4_1).f5)]] rfl (pv211_) ?_; (with_reducible refine (shibbolethref06_Right.calls k1 ((rd_T62 l0 x4_1).f0) ((rd_T62 l0 x4_1).f1) _ _ ((rd_T62 l0 x4_1).f2) ((rd_T62 l0 x4_1).f3) _ _ ((rd_T62 l0 x4_1).f4) ((rd_T62 l0 x4_1).f5) false _ ?side1 ?side2 ?side3 ?side4 A5.out).mono ?_); (case side1 => repeat (first | exact (Kd.C_below HR307_2.out HB.out) | exact HR307_2.out | (with_reducible refine Kd.C_alloc ?_ _) | (with_reducible refine Kd.C_drewN ?_ _) | (with_reducible refine Kd.C_drew ?_))); (case side2 => exact HC307_2.out); (case side3 => repeat (first | exact (Kd.C_below HR307_4.out HB.out) | exact HR307_4.out | (with_reducible refine Kd.C_alloc ?_ _) | (with_reducible refine Kd.C_drewN ?_ _) | (with_reducible refine Kd.C_drew ?_))); (case side4 => exact HC307_4.out); rintro e w17 ⟨rfl, hb⟩; refine ⟨_, rfl, ?_⟩; have n0_ := Aside0.mk (below_step (by qc0_) hb); clear HB; have HB := n0_; clear n0_; (try clear hb); (try clear hb2); (try clear hk); (try clear hi)))
       go_ret2
       lv211_
     ·rw [if_neg c4] at H
      exact absurd H (by simp)
    ·rw [if_neg c3] at H
     have c3b0 : decide (x4_1 < (l0.length : Int)) = false := decide_eq_false c3
     clear c3
     have H' := Aside0.mk H
     clear H
     go_wp2
     go_loopg [5, 6] k1 (fun kq v5 v6 w' => ∃ (x5_2 : List Int) (x6_2 : Int), v6 = .int .i64 x6_2 ∧ Aside0 (shibbolethref06_Write.l1 kq l0 x5_2 x6_2 = some (r1, r2)) ∧ Aside0 (kq ≤ k1) ∧ Aside0 (Kd.R (Kd.int .u8) 5 w' w.heap.size (fun _ => True) v5 x5_2) ∧ Aside0 (Below w.heap.size w w'))
     case atStart => exact ⟨(([] : List Int)), (0), (pv214_), H', ⟨Nat.le_refl _⟩, ⟨by first | exact Kd.R_nil _ _ _ _ _ | exact Kd.N_nil _ _ _ _ _ | exact Kd.V_nil _ _ _ _ _ | exact Kd.Q_nil _ _ _ _ _ | exact Kd.S_nil _ _ _ _ _⟩, ⟨by qc0_⟩⟩
     case round =>
      clear H'
      try clear c1
      try clear c2
      try clear c2b0
      try clear c2b1
      try clear c2b2
      try clear p2
      try clear c3
      try clear c3b0
      try clear p3
      try clear q3
      try clear hx3
      try clear c4
      try clear c4b0
      try clear c6
      try clear p6
      try clear c7
      try clear c7b0
      try clear c8
      try clear c8b0
      try clear c8b1
      try clear c10
      try clear c10b0
      try clear c11
      try clear c11b0
      try clear c12
      try clear c12b0
      try clear c12b1
      try clear hx307_0
      try clear hx307_1
      try clear hx307_2
      try clear hx307_3
      try clear hx307_4
      try clear hx307_5
      try clear hx309_0
      try clear hx309_1
      try clear hx309_2
      try clear hx309_3
      try clear hx309_4
      try clear hx309_5
      try clear hx310_0
      try clear hx310_1
      try clear hx310_2
      try clear hx310_3
      try clear hx310_4
      try clear hx310_5
      try clear p2
      try clear p307
      try clear p309
      try clear p310
      try clear q307
      try clear q309
      try clear q310
      obtain ⟨x5_2, x6_2, rfl, HA, HK2, HO_5, HB⟩ := hrel
      cases gk with
      | zero => exact absurd HA.out (by simp [shibbolethref06_Write.l1])
      | succ k2 =>
       have H := HA.out
       clear HA
       simp only [shibbolethref06_Write.l1] at H
       by_cases c18 : x6_2 < (l0.length : Int)
       ·rw [if_pos c18] at H
        have c18b0 : decide (x6_2 < (l0.length : Int)) = true := decide_eq_true c18
        clear c18
        by_cases c19 : 0 ≤ x6_2
        ·rw [if_pos c19] at H
         have c19b0 : decide (0 ≤ x6_2) = true := decide_eq_true c19
         clear c19
         replace H := Option.bind_eq_some_iff.mp H
         obtain ⟨t312, A200, H⟩ := H
         replace H : (if x5_2.length + t312.length < 140737488355328 then (shibbolethref06_Write.l1 k2 l0 (x5_2 ++ t312) (wrap64 (x6_2 + 1))) else (none)) = some (r1, r2) := H
         have A20 := Aside0.mk A200
         clear A200
         by_cases c21 : x5_2.length + t312.length < 140737488355328
         ·rw [if_pos c21] at H
          have LMc21 := Aside0.mk c21
          clear c21
          obtain ⟨y315, hy315⟩ : ∃ y_ : List Int, y_ = (x5_2 ++ t312) := ⟨_, rfl⟩
          replace H : (shibbolethref06_Write.l1 k2 l0 y315 (wrap64 (x6_2 + 1))) = some (r1, r2) := by first | (rw [hy315]; with_reducible exact H) | (have H2_ := (Option.bind_some _ _).symm.trans H; rw [hy315]; with_reducible exact H2_) | (have H2_ := (Option.bind_some _ _).symm.trans H; with_reducible exact H2_) | with_reducible exact H | (rw [hy315]; exact H) | exact H
          have Ny315 := Aside0.mk hy315
          clear hy315
          have H' := Aside0.mk H
          clear H
          have p311 : 0 ≤ (x6_2 : Int) := of_decide_eq_true (pv210_)
          have q311 : x6_2 < (l0.length : Int) := of_decide_eq_true (pv210_)
          obtain ⟨ad311, A311_2, c311_2, A311_4, c311_4, e311, hx311_0, hx311_1, hx311_2, hx311_3, hx311_4, hx311_5, hl311_2, hi311_2, hl311_4, hi311_4⟩ := at_T62 HR0.out x6_2 p311 q311
          cases e311
          replace hx311_0 := (HB.out.cell (World.block_lt_of_cell? w _ hx311_0)).trans hx311_0
          replace hx311_1 := (HB.out.cell (World.block_lt_of_cell? w _ hx311_1)).trans hx311_1
          replace hx311_2 := (HB.out.cell (World.block_lt_of_cell? w _ hx311_2)).trans hx311_2
          replace hx311_3 := (HB.out.cell (World.block_lt_of_cell? w _ hx311_3)).trans hx311_3
          replace hx311_4 := (HB.out.cell (World.block_lt_of_cell? w _ hx311_4)).trans hx311_4
          replace hx311_5 := (HB.out.cell (World.block_lt_of_cell? w _ hx311_5)).trans hx311_5
          have HR311_2 := Aside0.mk hi311_2
          have HC311_2 := Aside0.mk hl311_2
          clear hi311_2 hl311_2
          have HR311_4 := Aside0.mk hi311_4
          have HC311_4 := Aside0.mk hl311_4
          clear hi311_4 hl311_4
          replace p311 := eq_true p311
          replace q311 := eq_true q311
          go_wp2_with (first | ((with_reducible refine gate_callee (f := 69) rfl ?_); refine goesL_ (some 54) rfl rfl Tryd.func69 (by kernel_rfl) rfl #[.agg #[.int .i64 ((rd_T62 l0 x6_2).f0), .int .i64 ((rd_T62 l0 x6_2).f1), .slice A311_2 ((rd_T62 l0 x6_2).f2).length c311_2, .int .i64 ((rd_T62 l0 x6_2).f3), .slice A311_4 ((rd_T62 l0 x6_2).f4).length c311_4, .int .i64 ((rd_T62 l0 x6_2).f5)]] rfl (pv211_) ?_; (with_reducible refine (shibbolethref06_Bytes.calls k2 ((rd_T62 l0 x6_2).f0) ((rd_T62 l0 x6_2).f1) _ _ ((rd_T62 l0 x6_2).f2) ((rd_T62 l0 x6_2).f3) _ _ ((rd_T62 l0 x6_2).f4) ((rd_T62 l0 x6_2).f5) t312 _ ?side1 ?side2 ?side3 ?side4 A20.out).mono ?_); (case side1 => repeat (first | exact (Kd.C_below HR311_2.out HB.out) | exact HR311_2.out | (with_reducible refine Kd.C_alloc ?_ _) | (with_reducible refine Kd.C_drewN ?_ _) | (with_reducible refine Kd.C_drew ?_))); (case side2 => exact HC311_2.out); (case side3 => repeat (first | exact (Kd.C_below HR311_4.out HB.out) | exact HR311_4.out | (with_reducible refine Kd.C_alloc ?_ _) | (with_reducible refine Kd.C_drewN ?_ _) | (with_reducible refine Kd.C_drew ?_))); (case side4 => exact HC311_4.out); rintro e w22 ⟨v313, rfl, ho0, hb⟩; refine ⟨_, rfl, ?_⟩; have n0_ := Aside0.mk (Kd.R_elder' (by qR_; exact HO_5.out) (Kd.R_base ho0) hb); have n1_ := Aside0.mk (Kd.R_lower (Kd.R_new' ho0 (Kd.R_lt (by qR_; exact HO_5.out))) (below_size (by qc0_))); have n2_ := Aside0.mk (below_step (by qc0_) hb); clear HO_5; clear HB; have HO_5 := n0_; have HO314 := n1_; have HB := n2_; clear n0_ n1_ n2_; (try clear hb); (try clear hb2); (try clear hk); (try clear hi); (try clear ho0); obtain ⟨Ao24, co24, eo24⟩ := Kd.R_slice HO314.out; subst eo24) | ((with_reducible refine gate_builtin (b := .append) (xs := #[.tmp 49, .tmp 54]) rfl ?_); at_builtin; refine Kd.R_append_rows (Kd.int .u8) (w0 := w) w.heap.size rfl (.tmp 49) (.tmp 54) 22 5 (.int .u8 0) 1 rfl Tryd.underlying22 info5 rfl (by decide) (by omega) u5 x5_2 t312 _ _ _ (fun k_ => some k_ ≠ (.slice Ao24 t312.length co24 : Value).ownBlock) (fun _ => False) rfl rfl ?aO ?aR (fun _ _ h => h) (fun _ h => h.elim) ?aF ?aB ?aS ?aL ?_; (case aR => repeat (first | exact (Kd.R_reads' HO314.out).2.2 | (with_reducible refine Kd.C_alloc ?_ _) | (with_reducible refine Kd.C_drewN ?_ _) | (with_reducible refine Kd.C_drew ?_))); (case aB => exact (by qc0_)); (case aF => exact (fun k_ hk => Kd.fresh' (Kd.R_lt (by qR_; exact HO314.out)) k_ hk)); (case aO => exact (by qR_; exact Kd.R_mono HO_5.out (fun _ hk => hk.2))); (case aS => exact (below_size (by qc0_))); (case aL => have := LMc21.out; omega); intro v316 w23 ho hb hg hat; rw [← Ny315.out] at ho; have n0_ := Aside0.mk (Kd.R_after (ok := (fun _ => True)) (by qR_; exact HO314.out) hg hat); have n1_ := Aside0.mk (hb); have n2_ := Aside0.mk (ho); clear HO314; clear HB; clear HO_5; have HO314 := n0_; have HB := n1_; have HO317 := n2_; clear n0_ n1_ n2_; clear ho hb hg hat))
          go_roundg k2
          case measure => have := HK1.out; have := HK2.out; omega
          case rel => exact ⟨(y315), (wrap64 (x6_2 + 1)), (pv214_), H', ⟨by have := HK1.out; have := HK2.out; omega⟩, ⟨by qR_; exact Kd.R_mono HO317.out (fun _ hk => trivial)⟩, ⟨by qc0_⟩⟩
         ·rw [if_neg c21] at H
          exact absurd H (by simp)
        ·rw [if_neg c19] at H
         exact absurd H (by simp)
       ·rw [if_neg c18] at H
        have c18b0 : decide (x6_2 < (l0.length : Int)) = false := decide_eq_false c18
        clear c18
        by_cases c25 : (x5_2.length : Int) > 1200
        ·rw [if_pos c25] at H
         have c25b0 : decide (1200 < (x5_2.length : Int)) = true := decide_eq_true c25
         have c25b1 : decide (1200 < x5_2.length) = true := decide_eq_true (by omega)
         clear c25
         lv210_
         obtain ⟨rfl, rfl⟩ := H
         obtain ⟨Ao26, co26, eo26⟩ := Kd.R_slice HO_5.out
         subst eo26
         go_wp2
         go_ret2
         lv211_
        ·rw [if_neg c25] at H
         have c25b0 : decide (1200 < (x5_2.length : Int)) = false := decide_eq_false c25
         have c25b1 : decide (1200 < x5_2.length) = false := decide_eq_false (by omega)
         clear c25
         lv210_
         obtain ⟨rfl, rfl⟩ := H
         obtain ⟨Ao27, co27, eo27⟩ := Kd.R_slice HO_5.out
         subst eo27
         go_wp2
         go_ret2
         exact ⟨_, by first | rfl | (simp [errW_none, errW_some] <;> rfl) | (simp [*, errW_none, errW_some] <;> rfl), by qR_; exact HO_5.out, by qc0_⟩
def shibbolethlaw06_same.l0 : Nat → List Int → List Int → Int → Option (Bool)
 | 0, _, _, _ => none
 | k + 1, x0, x1, x5 => if x5 < (x0.length : Int) then (if 0 ≤ x5 then (if x5 < (x1.length : Int) then (if (rd x0 x5) = (rd x1 x5) then (shibbolethlaw06_same.l0 k x0 x1 (wrap64 (x5 + 1))) else (some false)) else (none)) else (none)) else (some true)
def shibbolethlaw06_same.f (k : Nat) (l0 : List Int) (l1 : List Int) : Option (Bool) := if (l0.length : Int) = (l1.length : Int) then (shibbolethlaw06_same.l0 k l0 l1 0) else (some false)
theorem shibbolethlaw06_same.mono_l : ∀ k, (∀ y0 y1 y2, LeO (shibbolethlaw06_same.l0 k y0 y1 y2) (shibbolethlaw06_same.l0 (k + 1) y0 y1 y2))
 | 0 => fun _ _ _ r h => by simp [shibbolethlaw06_same.l0] at h
 | k + 1 => by
  have ih0 := shibbolethlaw06_same.mono_l k
  ·intro y0 y1 y2
   unfold shibbolethlaw06_same.l0
   repeat' first
   | (with_reducible exact ih0 _ _ _)
   | (with_reducible exact LeO.refl _)
   | (with_reducible exact LeO.none _)
   | (with_reducible refine LeO.ite ?_ ?_)
   | (with_reducible refine LeO.bind ?_ (fun _ => ?_))
   | exact ih0 _ _ _
   | exact LeO.none _
   | refine LeO.ite ?_ ?_
   | refine LeO.bind ?_ (fun _ => ?_)
theorem shibbolethlaw06_same.mono : ∀ a0 a1 k, LeO (shibbolethlaw06_same.f k a0 a1) (shibbolethlaw06_same.f (k + 1) a0 a1) := by
 intro a0 a1 k
 have ih0 := shibbolethlaw06_same.mono_l k
 unfold shibbolethlaw06_same.f
 repeat' first
   | (with_reducible exact ih0 _ _ _)
   | (with_reducible exact LeO.refl _)
   | (with_reducible exact LeO.none _)
   | (with_reducible refine LeO.ite ?_ ?_)
   | (with_reducible refine LeO.bind ?_ (fun _ => ?_))
   | exact ih0 _ _ _
   | exact LeO.none _
   | refine LeO.ite ?_ ?_
   | refine LeO.bind ?_ (fun _ => ?_)
set_option maxHeartbeats 8000000 in
set_option maxRecDepth 100000 in
theorem shibbolethlaw06_same.calls (k : Nat) (A0 : Option Addr) (c0 : Nat) (l0 : List Int) (A1 : Option Addr) (c1 : Nat) (l1 : List Int) (r : Bool) (w : World) (hr0 : Kd.C (Kd.int .u8) w A0 l0.length l0) (hc0 : l0.length ≤ c0) (hr1 : Kd.C (Kd.int .u8) w A1 l1.length l1) (hc1 : l1.length ≤ c1) (h : shibbolethlaw06_same.f k l0 l1 = some r) :
  Calls Tryd.prog 48 #[.slice A0 l0.length c0, .slice A1 l1.length c1] w fun e w' => e = .returned (.bool r) ∧ Drawn0 w w' := by
 have HR0 := Aside0.mk hr0
 have HC0 := Aside0.mk hc0
 clear hr0 hc0
 have HR1 := Aside0.mk hr1
 have HC1 := Aside0.mk hc1
 clear hr1 hc1
 have H : (if (l0.length : Int) = (l1.length : Int) then (shibbolethlaw06_same.l0 k l0 l1 0) else (some false)) = some r := h
 clear h
 by_cases c3 : (l0.length : Int) = (l1.length : Int)
 ·rw [if_pos c3] at H
  have c3b0 : ((l0.length : Int) == (l1.length : Int)) = true := beq_iff_eq.mpr c3
  have c3b1 : ((l0.length : Int) != (l1.length : Int)) = false := bne_eq_false_iff_eq.mpr c3
  have c3b2 : (l0.length == l1.length) = true := by first | simpa using c3 | (simp at c3 ⊢; omega)
  clear c3
  have H' := Aside0.mk H
  clear H
  go_enter Tryd.func48, Tryd.ntmps48
  go_wp2
  repeat (go_quiet (fail); try go_wp2)
  go_loopg [5] k (fun kq v5 w' => ∃ (x5_1 : Int), v5 = .int .i64 x5_1 ∧ Aside0 (shibbolethlaw06_same.l0 kq l0 l1 x5_1 = some r) ∧ Aside0 (kq ≤ k) ∧ Drawn0 w w')
  case atStart => exact ⟨(0), (pv214_), H', ⟨Nat.le_refl _⟩, by repeat (first | exact Drawn0.refl _ | apply Drawn0.step)⟩
  case round =>
   clear H'
   try clear c1
   try clear p2
   try clear c3
   try clear c3b0
   try clear c3b1
   try clear c3b2
   obtain ⟨x5_1, rfl, HA, HK1, ⟨m1, rfl⟩⟩ := hrel
   cases gk with
   | zero => exact absurd HA.out (by simp [shibbolethlaw06_same.l0])
   | succ k1 =>
    have H := HA.out
    clear HA
    simp only [shibbolethlaw06_same.l0] at H
    by_cases c4 : x5_1 < (l0.length : Int)
    ·rw [if_pos c4] at H
     have c4b0 : decide (x5_1 < (l0.length : Int)) = true := decide_eq_true c4
     clear c4
     by_cases c5 : 0 ≤ x5_1
     ·rw [if_pos c5] at H
      have c5b0 : decide (0 ≤ x5_1) = true := decide_eq_true c5
      clear c5
      by_cases c6 : x5_1 < (l1.length : Int)
      ·rw [if_pos c6] at H
       have c6b0 : decide (x5_1 < (l1.length : Int)) = true := decide_eq_true c6
       clear c6
       by_cases c7 : (rd l0 x5_1) = (rd l1 x5_1)
       ·rw [if_pos c7] at H
        have c7b0 : ((rd l0 x5_1) == (rd l1 x5_1)) = true := beq_iff_eq.mpr c7
        have c7b1 : ((rd l0 x5_1) != (rd l1 x5_1)) = false := bne_eq_false_iff_eq.mpr c7
        clear c7
        have H' := Aside0.mk H
        clear H
        have p318 : 0 ≤ (x5_1 : Int) := of_decide_eq_true (pv210_)
        have q318 : x5_1 < (l0.length : Int) := of_decide_eq_true (pv210_)
        obtain ⟨ad318, e318, hx318_0⟩ := Kd.at_int HR0.out x5_1 p318 q318
        (try simp only [Int.reduceToNat] at hx318_0)
        cases e318
        replace p318 := eq_true p318
        replace q318 := eq_true q318
        have p319 : 0 ≤ (x5_1 : Int) := of_decide_eq_true (pv210_)
        have q319 : x5_1 < (l1.length : Int) := of_decide_eq_true (pv210_)
        obtain ⟨ad319, e319, hx319_0⟩ := Kd.at_int HR1.out x5_1 p319 q319
        (try simp only [Int.reduceToNat] at hx319_0)
        cases e319
        replace p319 := eq_true p319
        replace q319 := eq_true q319
        go_wp2
        repeat (go_quiet (fail); try go_wp2)
        go_roundg k1
        case measure => have := HK1.out; omega
        case rel => exact ⟨(wrap64 (x5_1 + 1)), (pv214_), H', ⟨by have := HK1.out; omega⟩, by repeat (first | exact Drawn0.refl _ | apply Drawn0.step)⟩
       ·rw [if_neg c7] at H
        have c7b0 : ((rd l0 x5_1) == (rd l1 x5_1)) = false := beq_eq_false_iff_ne.mpr c7
        have c7b1 : ((rd l0 x5_1) != (rd l1 x5_1)) = true := bne_iff_ne.mpr c7
        obtain rfl := Option.some.inj H
        have p318 : 0 ≤ (x5_1 : Int) := of_decide_eq_true (pv210_)
        have q318 : x5_1 < (l0.length : Int) := of_decide_eq_true (pv210_)
        obtain ⟨ad318, e318, hx318_0⟩ := Kd.at_int HR0.out x5_1 p318 q318
        (try simp only [Int.reduceToNat] at hx318_0)
        cases e318
        replace p318 := eq_true p318
        replace q318 := eq_true q318
        have p319 : 0 ≤ (x5_1 : Int) := of_decide_eq_true (pv210_)
        have q319 : x5_1 < (l1.length : Int) := of_decide_eq_true (pv210_)
        obtain ⟨ad319, e319, hx319_0⟩ := Kd.at_int HR1.out x5_1 p319 q319
        (try simp only [Int.reduceToNat] at hx319_0)
        cases e319
        replace p319 := eq_true p319
        replace q319 := eq_true q319
        go_wp2
        repeat (go_quiet (fail); try go_wp2)
        go_ret
        lv2111_
      ·rw [if_neg c6] at H
       exact absurd H (by simp)
     ·rw [if_neg c5] at H
      exact absurd H (by simp)
    ·rw [if_neg c4] at H
     have c4b0 : decide (x5_1 < (l0.length : Int)) = false := decide_eq_false c4
     clear c4
     obtain rfl := Option.some.inj H
     go_wp2
     repeat (go_quiet (fail); try go_wp2)
     go_ret
     lv2111_
 ·rw [if_neg c3] at H
  have c3b0 : ((l0.length : Int) == (l1.length : Int)) = false := beq_eq_false_iff_ne.mpr c3
  have c3b1 : ((l0.length : Int) != (l1.length : Int)) = true := bne_iff_ne.mpr c3
  have c3b2 : (l0.length == l1.length) = false := by first | simpa using c3 | (simp at c3 ⊢; omega)
  obtain rfl := Option.some.inj H
  go_enter Tryd.func48, Tryd.ntmps48
  go_wp2
  repeat (go_quiet (fail); try go_wp2)
  go_ret
  lv2111_
def shibbolethlaw06_awake.f (k : Nat)  : Option (Bool) := (frame_Write.f k (([(⟨2, 0, (([(⟨7, 7⟩ : S103), (⟨3, 5⟩ : S103)] : List (S103))), 0, ([] : List Int), 0⟩ : S58)] : List (S58)))).bind fun bt326 => (pv213_)
theorem shibbolethlaw06_awake.mono : ∀ k, LeO (shibbolethlaw06_awake.f k ) (shibbolethlaw06_awake.f (k + 1) ) := by
 intro  k
 unfold shibbolethlaw06_awake.f
 repeat' first
   | (with_reducible exact frame_Write.mono _ _)
   | (with_reducible exact shibbolethlaw06_same.mono _ _ _)
   | (with_reducible exact LeO.refl _)
   | (with_reducible exact LeO.none _)
   | (with_reducible refine LeO.ite ?_ ?_)
   | (with_reducible refine LeO.bind ?_ (fun _ => ?_))
   | exact frame_Write.mono _ _
   | exact shibbolethlaw06_same.mono _ _ _
   | exact LeO.none _
   | refine LeO.ite ?_ ?_
   | refine LeO.bind ?_ (fun _ => ?_)
set_option maxHeartbeats 8000000 in
set_option maxRecDepth 100000 in
theorem shibbolethlaw06_awake.calls (k : Nat)  (r : Bool) (w : World) (ht : TB w) (h : shibbolethlaw06_awake.f k  = some r) :
  Calls Tryd.prog 49 #[] w fun e w' => e = .returned (.bool r) ∧ Below w.heap.size w w' := by
 have HT := Aside0.mk ht
 clear ht
 have hu103 := Tryd.underlying103
 have hu58 := Tryd.underlying58
 have HB := Aside0.mk (Below.refl w.heap.size w)
 have H : ((frame_Write.f k (([(⟨2, 0, (([(⟨7, 7⟩ : S103), (⟨3, 5⟩ : S103)] : List (S103))), 0, ([] : List Int), 0⟩ : S58)] : List (S58)))).bind fun bt326 => (pv213_)) = some r := h
 clear h
 obtain ⟨y320, hy320⟩ : ∃ y_ : List (S103), y_ = (([(⟨7, 7⟩ : S103), (⟨3, 5⟩ : S103)] : List (S103))) := ⟨_, rfl⟩
 replace H : ((frame_Write.f k (([(⟨2, 0, y320, 0, ([] : List Int), 0⟩ : S58)] : List (S58)))).bind fun bt326 => (pv213_)) = some r := by first | (rw [hy320]; with_reducible exact H) | (have H2_ := (Option.bind_some _ _).symm.trans H; rw [hy320]; with_reducible exact H2_) | (have H2_ := (Option.bind_some _ _).symm.trans H; with_reducible exact H2_) | with_reducible exact H | (rw [hy320]; exact H) | exact H
 have Ny320 := Aside0.mk hy320
 clear hy320
 obtain ⟨y323, hy323⟩ : ∃ y_ : List (S58), y_ = (([(⟨2, 0, y320, 0, ([] : List Int), 0⟩ : S58)] : List (S58))) := ⟨_, rfl⟩
 replace H : ((frame_Write.f k y323).bind fun bt326 => (pv213_)) = some r := by first | (rw [hy323]; with_reducible exact H) | (have H2_ := (Option.bind_some _ _).symm.trans H; rw [hy323]; with_reducible exact H2_) | (have H2_ := (Option.bind_some _ _).symm.trans H; with_reducible exact H2_) | with_reducible exact H | (rw [hy323]; exact H) | exact H
 have Ny323 := Aside0.mk hy323
 clear hy323
 replace H := Option.bind_eq_some_iff.mp H
 obtain ⟨⟨t326, t327⟩, A10, H⟩ := H
 replace H : (if t327 = 0 then ((shibbolethlaw06_same.f k t326 (([2, 7, 1, 0, 0, 2] : List Int))).bind fun t333 => (some t333)) else (some false)) = some r := H
 have A1 := Aside0.mk A10
 clear A10
 by_cases c2 : t327 = 0
 ·rw [if_pos c2] at H
  have c2b0 : (t327 == 0) = true := beq_iff_eq.mpr c2
  have c2b1 : (t327 != 0) = false := bne_eq_false_iff_eq.mpr c2
  clear c2
  obtain ⟨y330, hy330⟩ : ∃ y_ : List Int, y_ = (([2, 7, 1, 0, 0, 2] : List Int)) := ⟨_, rfl⟩
  replace H : ((shibbolethlaw06_same.f k t326 y330).bind fun t333 => (some t333)) = some r := by first | (rw [hy330]; with_reducible exact H) | (have H2_ := (Option.bind_some _ _).symm.trans H; rw [hy330]; with_reducible exact H2_) | (have H2_ := (Option.bind_some _ _).symm.trans H; with_reducible exact H2_) | with_reducible exact H | (rw [hy330]; exact H) | exact H
  have Ny330 := Aside0.mk hy330
  clear hy330
  replace H := Option.bind_eq_some_iff.mp H
  obtain ⟨t333, A30, H⟩ := H
  replace H : (some t333) = some r := H
  have A3 := Aside0.mk A30
  clear A30
  obtain rfl := Option.some.inj H
  go_enter Tryd.func49, Tryd.ntmps49
  go_wp2_with (first | ((with_reducible refine gate_dst (N := 6) rfl ?_); (try (refine gate_guard (by rfl) ?_; dsimp only)); refine Kd.R_lit k103 _ 103 ?hg (N := 6) ?hd (xs := ([(⟨7, 7⟩ : S103), (⟨3, 5⟩ : S103)] : List (S103))) (inner := [.int .i64 7, .int .i64 7, .int .i64 3, .int .i64 5]) (ok := fun _ => True) (okp := fun _ => True) ?hr ?hp (fun _ hk => hk) trivial (Below.refl _ _) (Nat.le_refl _) (by simp) ?_; (case hd => rfl); (case hg => rfl); (case hr => first | (go_simp; done) | (go_simp; rfl)); (case hp => exact (Reps.c2 (show Kd.M k103 _ _ _ (⟨7, 7⟩ : S103) [.int .i64 7, .int .i64 7] from (k103_mkM _ _ _ (⟨7, 7⟩ : S103) )) (Reps.c2 (show Kd.M k103 _ _ _ (⟨3, 5⟩ : S103) [.int .i64 3, .int .i64 5] from (k103_mkM _ _ _ (⟨3, 5⟩ : S103) )) (Reps.none _ _)))); intro v321 w4 ho5 hb hg_ hnew_; clear hg_ hnew_; (first | rw [← Ny320.out] at ho5 | (simp only [Int.reduceToNat] at ho5; rw [← Ny320.out] at ho5)); have n0_ := Aside0.mk (Kd.R_lower ho5 (below_size (by qc0_))); have n1_ := Aside0.mk (below_step (by qc0_) hb); clear HB; have HO322 := n0_; have HB := n1_; clear n0_ n1_; clear hb ho5; obtain ⟨Ao6, co6, eo6⟩ := Kd.R_slice HO322.out; subst eo6) | ((with_reducible refine gate_dst (N := 8) rfl ?_); (try (refine gate_guard (by rfl) ?_; dsimp only)); refine Kd.N_lit k58 _ 58 ?hg (N' := 8) ?hd (xs := ([(⟨2, 0, y320, 0, ([] : List Int), 0⟩ : S58)] : List (S58))) (inner := [.int .i64 2, .int .i64 0, .slice Ao6 y320.length co6, .int .i64 0, .slice none 0 0, .int .i64 0]) (ok := (fun _ => True)) (okp := (fun _ => True)) ?hr ?hp (fun _ hk => hk) ((show ∀ k_, w4.heap.size ≤ k_ → (fun _ => True) k_ from fun k_ hk => trivial) _ (Nat.le_refl _)) (Below.refl _ _) (Nat.le_refl _) (by simp) ?_; (case hd => rfl); (case hg => rfl); (case hr => first | (go_simp; done) | (go_simp; rfl)); (case hp => exact (Reps.c6 (show Kd.FK k58 _ _ (⟨2, 0, y320, 0, ([] : List Int), 0⟩ : S58) [.int .i64 2, .int .i64 0, .slice Ao6 y320.length co6, .int .i64 0, .slice none 0 0, .int .i64 0] from (k58_mkF _ _ (⟨2, 0, y320, 0, ([] : List Int), 0⟩ : S58) (Kd.R_reads' (Kd.R_mono (ok' := (fun _ => True)) (HO322.out) (fun k_ hk => trivial))).2.1 (Kd.R_F (Kd.R_mono (ok' := (fun _ => True)) (HO322.out) (fun k_ hk => trivial))) (Nat.le_refl _) (Kd.F_nil _ _ _))) (Reps.none _ _))); intro v324 w7 ho8 hb hg_ hnew_; clear hg_ hnew_; (first | rw [← Ny323.out] at ho8 | (simp only [Int.reduceToNat] at ho8; rw [← Ny323.out] at ho8)); have n0_ := Aside0.mk (Kd.N_lower ho8 (below_size (by qc0_))); have n1_ := Aside0.mk (below_step (by qc0_) hb); clear HB; clear HO322; have HO325 := n0_; have HB := n1_; clear n0_ n1_; clear hb ho8; obtain ⟨Ao9, co9, eo9⟩ := Kd.N_slice HO325.out; subst eo9) | ((with_reducible refine gate_callee (f := 45) rfl ?_); refine goesL_ (some 9) rfl rfl Tryd.func45 (by kernel_rfl) rfl #[.slice Ao9 y323.length co9] rfl (pv211_) ?_; (with_reducible refine (frame_Write.calls k _ _ y323 t326 t327 _ ?side1 ?side2 ?sideT A1.out).mono ?_); (case sideT => repeat (first | exact HT.out | exact TB.below HT.out HB.out | exact TB.below HT.out HBW.out | (with_reducible refine TB.alloc ?_ _) | (with_reducible refine TB.drewN ?_ _) | (with_reducible refine TB.drew ?_))); (case side1 => repeat (first | exact (Kd.N_reads' HO325.out).2.2 | (with_reducible refine Kd.C_alloc ?_ _) | (with_reducible refine Kd.C_drewN ?_ _) | (with_reducible refine Kd.C_drew ?_))); (case side2 => exact (Kd.N_reads' HO325.out).2.1); rintro e w10 ⟨v328, rfl, ho0, hb⟩; refine ⟨_, rfl, ?_⟩; have n0_ := Aside0.mk (Kd.N_elder' (by qN_; exact HO325.out) (Kd.R_base ho0) hb); have n1_ := Aside0.mk (Kd.R_lower ho0 (below_size (by qc0_))); have n2_ := Aside0.mk (below_step (by qc0_) hb); clear HO325; clear HB; have HO325 := n0_; have HO329 := n1_; have HB := n2_; clear n0_ n1_ n2_; (try clear hb); (try clear hb2); (try clear hk); (try clear hi); (try clear ho0)) | ((with_reducible refine gate_dst (N := 16) rfl ?_); (try (refine gate_guard (by rfl) ?_; dsimp only)); refine Kd.R_lit (Kd.int .u8) _ 5 ?hg (N := 16) ?hd (xs := ([2, 7, 1, 0, 0, 2] : List Int)) (inner := [.int .u8 2, .int .u8 7, .int .u8 1, .int .u8 0, .int .u8 0, .int .u8 2]) (ok := fun _ => True) (okp := fun _ => True) ?hr ?hp (fun _ hk => hk) trivial (Below.refl _ _) (Nat.le_refl _) (by simp) ?_; (case hd => rfl); (case hg => rfl); (case hr => first | (go_simp; done) | (go_simp; rfl)); (case hp => exact (Reps.one (show Kd.M (Kd.int .u8) _ _ _ 2 [.int .u8 2] from rfl) (Reps.one (show Kd.M (Kd.int .u8) _ _ _ 7 [.int .u8 7] from rfl) (Reps.one (show Kd.M (Kd.int .u8) _ _ _ 1 [.int .u8 1] from rfl) (Reps.one (show Kd.M (Kd.int .u8) _ _ _ 0 [.int .u8 0] from rfl) (Reps.one (show Kd.M (Kd.int .u8) _ _ _ 0 [.int .u8 0] from rfl) (Reps.one (show Kd.M (Kd.int .u8) _ _ _ 2 [.int .u8 2] from rfl) (Reps.none _ _)))))))); intro v331 w11 ho12 hb hg_ hnew_; clear hg_ hnew_; (first | rw [← Ny330.out] at ho12 | (simp only [Int.reduceToNat] at ho12; rw [← Ny330.out] at ho12)); have n0_ := Aside0.mk (Kd.N_elder' (by qN_; exact HO325.out) (Kd.R_base ho12) hb); have n1_ := Aside0.mk (Kd.R_elder' (by qR_; exact HO329.out) (Kd.R_base ho12) hb); have n2_ := Aside0.mk (Kd.R_lower (Kd.R_new' ho12 (Kd.R_lt (by qR_; exact HO329.out))) (below_size (by qc0_))); have n3_ := Aside0.mk (below_step (by qc0_) hb); clear HO325; clear HO329; clear HB; have HO325 := n0_; have HO329 := n1_; have HO332 := n2_; have HB := n3_; clear n0_ n1_ n2_ n3_; clear hb ho12; obtain ⟨Ao13, co13, eo13⟩ := Kd.R_slice HO329.out; subst eo13; obtain ⟨Ao14, co14, eo14⟩ := Kd.R_slice HO332.out; subst eo14) | (go_at_call 48; (with_reducible refine (shibbolethlaw06_same.calls k _ _ t326 _ _ y330 t333 _ ?side1 ?side2 ?side3 ?side4 A3.out).mono ?_); (case side1 => repeat (first | exact (Kd.R_reads' HO329.out).2.2 | (with_reducible refine Kd.C_alloc ?_ _) | (with_reducible refine Kd.C_drewN ?_ _) | (with_reducible refine Kd.C_drew ?_))); (case side2 => exact (Kd.R_reads' HO329.out).2.1); (case side3 => repeat (first | exact (Kd.R_reads' HO332.out).2.2 | (with_reducible refine Kd.C_alloc ?_ _) | (with_reducible refine Kd.C_drewN ?_ _) | (with_reducible refine Kd.C_drew ?_))); (case side4 => exact (Kd.R_reads' HO332.out).2.1); rintro e w' ⟨rfl, ⟨nd, rfl⟩⟩))
  go_ret
  exact ⟨by first | rfl | (simp [errW_none, errW_some] <;> rfl) | (simp [*, errW_none, errW_some] <;> rfl), by qc0_⟩
 ·rw [if_neg c2] at H
  have c2b0 : (t327 == 0) = false := beq_eq_false_iff_ne.mpr c2
  have c2b1 : (t327 != 0) = true := bne_iff_ne.mpr c2
  obtain rfl := Option.some.inj H
  go_enter Tryd.func49, Tryd.ntmps49
  go_wp2_with (first | ((with_reducible refine gate_dst (N := 6) rfl ?_); (try (refine gate_guard (by rfl) ?_; dsimp only)); refine Kd.R_lit k103 _ 103 ?hg (N := 6) ?hd (xs := ([(⟨7, 7⟩ : S103), (⟨3, 5⟩ : S103)] : List (S103))) (inner := [.int .i64 7, .int .i64 7, .int .i64 3, .int .i64 5]) (ok := fun _ => True) (okp := fun _ => True) ?hr ?hp (fun _ hk => hk) trivial (Below.refl _ _) (Nat.le_refl _) (by simp) ?_; (case hd => rfl); (case hg => rfl); (case hr => first | (go_simp; done) | (go_simp; rfl)); (case hp => exact (Reps.c2 (show Kd.M k103 _ _ _ (⟨7, 7⟩ : S103) [.int .i64 7, .int .i64 7] from (k103_mkM _ _ _ (⟨7, 7⟩ : S103) )) (Reps.c2 (show Kd.M k103 _ _ _ (⟨3, 5⟩ : S103) [.int .i64 3, .int .i64 5] from (k103_mkM _ _ _ (⟨3, 5⟩ : S103) )) (Reps.none _ _)))); intro v321 w15 ho16 hb hg_ hnew_; clear hg_ hnew_; (first | rw [← Ny320.out] at ho16 | (simp only [Int.reduceToNat] at ho16; rw [← Ny320.out] at ho16)); have n0_ := Aside0.mk (Kd.R_lower ho16 (below_size (by qc0_))); have n1_ := Aside0.mk (below_step (by qc0_) hb); clear HB; have HO322 := n0_; have HB := n1_; clear n0_ n1_; clear hb ho16; obtain ⟨Ao17, co17, eo17⟩ := Kd.R_slice HO322.out; subst eo17) | ((with_reducible refine gate_dst (N := 8) rfl ?_); (try (refine gate_guard (by rfl) ?_; dsimp only)); refine Kd.N_lit k58 _ 58 ?hg (N' := 8) ?hd (xs := ([(⟨2, 0, y320, 0, ([] : List Int), 0⟩ : S58)] : List (S58))) (inner := [.int .i64 2, .int .i64 0, .slice Ao17 y320.length co17, .int .i64 0, .slice none 0 0, .int .i64 0]) (ok := (fun _ => True)) (okp := (fun _ => True)) ?hr ?hp (fun _ hk => hk) ((show ∀ k_, w15.heap.size ≤ k_ → (fun _ => True) k_ from fun k_ hk => trivial) _ (Nat.le_refl _)) (Below.refl _ _) (Nat.le_refl _) (by simp) ?_; (case hd => rfl); (case hg => rfl); (case hr => first | (go_simp; done) | (go_simp; rfl)); (case hp => exact (Reps.c6 (show Kd.FK k58 _ _ (⟨2, 0, y320, 0, ([] : List Int), 0⟩ : S58) [.int .i64 2, .int .i64 0, .slice Ao17 y320.length co17, .int .i64 0, .slice none 0 0, .int .i64 0] from (k58_mkF _ _ (⟨2, 0, y320, 0, ([] : List Int), 0⟩ : S58) (Kd.R_reads' (Kd.R_mono (ok' := (fun _ => True)) (HO322.out) (fun k_ hk => trivial))).2.1 (Kd.R_F (Kd.R_mono (ok' := (fun _ => True)) (HO322.out) (fun k_ hk => trivial))) (Nat.le_refl _) (Kd.F_nil _ _ _))) (Reps.none _ _))); intro v324 w18 ho19 hb hg_ hnew_; clear hg_ hnew_; (first | rw [← Ny323.out] at ho19 | (simp only [Int.reduceToNat] at ho19; rw [← Ny323.out] at ho19)); have n0_ := Aside0.mk (Kd.N_lower ho19 (below_size (by qc0_))); have n1_ := Aside0.mk (below_step (by qc0_) hb); clear HB; clear HO322; have HO325 := n0_; have HB := n1_; clear n0_ n1_; clear hb ho19; obtain ⟨Ao20, co20, eo20⟩ := Kd.N_slice HO325.out; subst eo20) | ((with_reducible refine gate_callee (f := 45) rfl ?_); refine goesL_ (some 9) rfl rfl Tryd.func45 (by kernel_rfl) rfl #[.slice Ao20 y323.length co20] rfl (pv211_) ?_; (with_reducible refine (frame_Write.calls k _ _ y323 t326 t327 _ ?side1 ?side2 ?sideT A1.out).mono ?_); (case sideT => repeat (first | exact HT.out | exact TB.below HT.out HB.out | exact TB.below HT.out HBW.out | (with_reducible refine TB.alloc ?_ _) | (with_reducible refine TB.drewN ?_ _) | (with_reducible refine TB.drew ?_))); (case side1 => repeat (first | exact (Kd.N_reads' HO325.out).2.2 | (with_reducible refine Kd.C_alloc ?_ _) | (with_reducible refine Kd.C_drewN ?_ _) | (with_reducible refine Kd.C_drew ?_))); (case side2 => exact (Kd.N_reads' HO325.out).2.1); rintro e w21 ⟨v328, rfl, ho0, hb⟩; refine ⟨_, rfl, ?_⟩; have n0_ := Aside0.mk (Kd.N_elder' (by qN_; exact HO325.out) (Kd.R_base ho0) hb); have n1_ := Aside0.mk (Kd.R_lower ho0 (below_size (by qc0_))); have n2_ := Aside0.mk (below_step (by qc0_) hb); clear HO325; clear HB; have HO325 := n0_; have HO329 := n1_; have HB := n2_; clear n0_ n1_ n2_; (try clear hb); (try clear hb2); (try clear hk); (try clear hi); (try clear ho0)))
  go_ret
  exact ⟨by first | rfl | (simp [errW_none, errW_some] <;> rfl) | (simp [*, errW_none, errW_some] <;> rfl), by qc0_⟩
end Go.Proofs.YtbcleckapamicaaDoor.QFr
namespace Go.Proofs.YtbcleckapamicaaDoor.QFr
open Go.RowKit Go.Proofs.YtbcleckapamicaaDoorW.PrintWords Go.Proofs.YtbcleckapamicaaDoorW.PrintLast Go.Proofs.YtbcleckapamicaaDoorW.PrintMore
attribute [local go_sem] max2_int min2_int max_two min_two max_three min_three max_four min_four
set_option linter.unusedVariables false
set_option linter.unusedSimpArgs false
open Go.Proofs.YtbcleckapamicaaDoor.Gv (TB TB.below TB.alloc TB.drew TB.drewN)
set_option hygiene false
local macro "pw220_" : term => `((by (try simp only [List.map_toArray, List.map_cons, List.map_nil]); first | done | rfl | (simp only [List.length_drop, List.length_take]; rfl)))
local macro "pw221_" : term => `((by (with_reducible repeat (first | apply Kd.S_alloc | apply Kd.S_drewN | apply Kd.S_drew)); exact HO351.out))
local macro "pw222_" : term => `((by first | (with_reducible assumption) | assumption))
local macro "pw223_" : term => `((if (t346 != t348) = true then (some false) else (shibbolethlaw06_FrameWrites.l0 k1 l0 (wrap64 (x3_1 + 1)))))
local macro "pw224_" : term => `((if t353 = t357 then ((shibbolethlaw06_awake.f k1).bind fun t361 => (some t361)) else (some false)))
local macro "lw220_" : tactic => `(tactic| (replace H := Option.bind_eq_some_iff.mp H))
local macro "lw221_" : tactic => `(tactic| (obtain ⟨ad335, A335_2, c335_2, A335_4, c335_4, e335, hx335_0, hx335_1, hx335_2, hx335_3, hx335_4, hx335_5, hl335_2, hi335_2, hl335_4, hi335_4⟩ := at_T62 HR0.out x3_1 p335 q335))
local macro "lw222_" : tactic => `(tactic| (obtain ⟨ad347, A347_2, c347_2, A347_4, c347_4, e347, hx347_0, hx347_1, hx347_2, hx347_3, hx347_4, hx347_5, hl347_2, hi347_2, hl347_4, hi347_4⟩ := at_T62 HR0.out x3_1 p347 q347))
local macro "lw223_" : tactic => `(tactic| (refine start_ (n := 12) (S := fun w' => w'.cell? (ad335.add ((x3_1).toNat * 6)) = some (.int .i64 ((rd_T62 l0 x3_1).f0)) ∧ w'.cell? ⟨(ad335.add ((x3_1).toNat * 6)).block, (ad335.add ((x3_1).toNat * 6)).off + 1, none⟩ = some (.int .i64 ((rd_T62 l0 x3_1).f1)) ∧ w'.cell? ⟨(ad335.add ((x3_1).toNat * 6)).block, (ad335.add ((x3_1).toNat * 6)).off + 2, none⟩ = some (.slice A335_2 ((rd_T62 l0 x3_1).f2).length c335_2) ∧ w'.cell? ⟨(ad335.add ((x3_1).toNat * 6)).block, (ad335.add ((x3_1).toNat * 6)).off + 3, none⟩ = some (.int .i64 ((rd_T62 l0 x3_1).f3)) ∧ w'.cell? ⟨(ad335.add ((x3_1).toNat * 6)).block, (ad335.add ((x3_1).toNat * 6)).off + 4, none⟩ = some (.slice A335_4 ((rd_T62 l0 x3_1).f4).length c335_4) ∧ w'.cell? ⟨(ad335.add ((x3_1).toNat * 6)).block, (ad335.add ((x3_1).toNat * 6)).off + 5, none⟩ = some (.int .i64 ((rd_T62 l0 x3_1).f5)) ∧ w'.cell? (ad335.add ((x3_1).toNat * 6)) = some (.int .i64 ((rd_T62 l0 x3_1).f0)) ∧ w'.cell? ⟨(ad335.add ((x3_1).toNat * 6)).block, (ad335.add ((x3_1).toNat * 6)).off + 1, none⟩ = some (.int .i64 ((rd_T62 l0 x3_1).f1)) ∧ w'.cell? ⟨(ad335.add ((x3_1).toNat * 6)).block, (ad335.add ((x3_1).toNat * 6)).off + 2, none⟩ = some (.slice A335_2 ((rd_T62 l0 x3_1).f2).length c335_2) ∧ w'.cell? ⟨(ad335.add ((x3_1).toNat * 6)).block, (ad335.add ((x3_1).toNat * 6)).off + 3, none⟩ = some (.int .i64 ((rd_T62 l0 x3_1).f3)) ∧ w'.cell? ⟨(ad335.add ((x3_1).toNat * 6)).block, (ad335.add ((x3_1).toNat * 6)).off + 4, none⟩ = some (.slice A335_4 ((rd_T62 l0 x3_1).f4).length c335_4) ∧ w'.cell? ⟨(ad335.add ((x3_1).toNat * 6)).block, (ad335.add ((x3_1).toNat * 6)).off + 5, none⟩ = some (.int .i64 ((rd_T62 l0 x3_1).f5))) (ds := []) #[false, false, false, false, false, false, false, false, false, false, false, false] (by kernel_rfl) rfl rfl ⟨((HB.out.cell (World.block_lt_of_cell? w _ hw335_0)).trans hw335_0), ((HB.out.cell (World.block_lt_of_cell? w _ hw335_1)).trans hw335_1), ((HB.out.cell (World.block_lt_of_cell? w _ hw335_2)).trans hw335_2), ((HB.out.cell (World.block_lt_of_cell? w _ hw335_3)).trans hw335_3), ((HB.out.cell (World.block_lt_of_cell? w _ hw335_4)).trans hw335_4), ((HB.out.cell (World.block_lt_of_cell? w _ hw335_5)).trans hw335_5), ((HB.out.cell (World.block_lt_of_cell? w _ hw347_0)).trans hw347_0), ((HB.out.cell (World.block_lt_of_cell? w _ hw347_1)).trans hw347_1), ((HB.out.cell (World.block_lt_of_cell? w _ hw347_2)).trans hw347_2), ((HB.out.cell (World.block_lt_of_cell? w _ hw347_3)).trans hw347_3), ((HB.out.cell (World.block_lt_of_cell? w _ hw347_4)).trans hw347_4), ((HB.out.cell (World.block_lt_of_cell? w _ hw347_5)).trans hw347_5)⟩ (fun hHeld => ?_); refine with_tabW shibbolethlaw06_FrameWrites.tab6 shibbolethlaw06_FrameWrites.bits6 (fun HT_ HW_ => ?_)))
local macro "lw224_" : tactic => `(tactic| (refine pure_ (i := 0) (N := some 17) (v := ?_) (a' := ?_) #[true, false, false, false, false, false, false, false, false, false, false, false] rfl rfl (any_of HT_.out (by kernel_rfl)) (fun _ _ _ h => h) (Or.inl ⟨by rfl, ?_⟩) ?_ ?_))
local macro "lw225_" : tactic => `(tactic| (refine pure_ (i := 1) (N := some 18) (v := ?_) (a' := ?_) #[true, true, false, false, false, false, false, false, false, false, false, false] rfl rfl (any_of HT_.out (by kernel_rfl)) (fun _ _ _ h => h) (Or.inl ⟨by rfl, ?_⟩) ?_ ?_))
local macro "lw226_" : tactic => `(tactic| (refine pure_ (i := 2) (N := some 19) (v := ?_) (a' := ?_) #[true, true, true, false, false, false, false, false, false, false, false, false] rfl rfl (any_of HT_.out (by kernel_rfl)) (fun _ _ _ h => h) (Or.inl ⟨by rfl, ?_⟩) ?_ ?_))
local macro "lw227_" : tactic => `(tactic| (refine pure_ (i := 6) (N := some 23) (v := ?_) (a' := ?_) #[true, true, true, false, false, false, true, false, false, false, false, false] rfl rfl (any_of HT_.out (by kernel_rfl)) (fun _ _ _ h => h) (Or.inl ⟨by rfl, ?_⟩) ?_ ?_))
local macro "lw228_" : tactic => `(tactic| (refine pure_ (i := 7) (N := some 24) (v := ?_) (a' := ?_) #[true, true, true, false, false, false, true, true, false, false, false, false] rfl rfl (any_of HT_.out (by kernel_rfl)) (fun _ _ _ h => h) (Or.inl ⟨by rfl, ?_⟩) ?_ ?_))
local macro "lw229_" : tactic => `(tactic| (refine pure_ (i := 8) (N := some 25) (v := ?_) (a' := ?_) #[true, true, true, false, false, false, true, true, true, false, false, false] rfl rfl (any_of HT_.out (by kernel_rfl)) (fun _ _ _ h => h) (Or.inl ⟨by rfl, ?_⟩) ?_ ?_))
local macro "lw2210_" : tactic => `(tactic| (refine take_ (i := 3) (N := some 20) (v := ?_) (a' := ?_) #[true, true, true, true, false, false, true, true, true, false, false, false] rfl rfl (take_ofW HT_.out HW_.out (by kernel_rfl)) (fun _ _ _ h => h) (Or.inl ⟨by rfl, ?_⟩) hHeld ?_ ?_))
local macro "lw2211_" : tactic => `(tactic| (rintro w' ⟨s0, s1, s2, s3, s4, s5, s6, s7, s8, s9, s10, s11⟩))
local macro "lw2212_" : tactic => `(tactic| (refine take_ (i := 9) (N := some 26) (v := ?_) (a' := ?_) #[true, true, true, true, false, false, true, true, true, true, false, false] rfl rfl (take_ofW HT_.out HW_.out (by kernel_rfl)) (fun _ _ _ h => h) (Or.inl ⟨by rfl, ?_⟩) hHeld ?_ ?_))
local macro "lw2213_" : tactic => `(tactic| (refine one_ (i := 4) (N := some 21) #[true, true, true, true, true, false, true, true, true, true, false, false] rfl rfl (one_of HT_.out (by kernel_rfl)) (by decide) (fun K hK => ?_)))
local macro "lw2214_" : tactic => `(tactic| (refine goes_ Tryd.func43 (by kernel_rfl) rfl #[.agg #[.int .i64 ((rd_T62 l0 x3_1).f0), .int .i64 ((rd_T62 l0 x3_1).f1), .slice A335_2 ((rd_T62 l0 x3_1).f2).length c335_2, .int .i64 ((rd_T62 l0 x3_1).f3), .slice A335_4 ((rd_T62 l0 x3_1).f4).length c335_4, .int .i64 ((rd_T62 l0 x3_1).f5)]] (by rfl) rfl rfl (pw220_) ?_))
local macro "lw2215_" : tactic => `(tactic| ((case side1 => repeat (first | exact (Kd.C_below HR335_2.out HB.out) | exact HR335_2.out | (with_reducible refine Kd.C_alloc ?_ _) | (with_reducible refine Kd.C_drewN ?_ _) | (with_reducible refine Kd.C_drew ?_)))))
local macro "lw2216_" : tactic => `(tactic| ((case side3 => repeat (first | exact (Kd.C_below HR335_4.out HB.out) | exact HR335_4.out | (with_reducible refine Kd.C_alloc ?_ _) | (with_reducible refine Kd.C_drewN ?_ _) | (with_reducible refine Kd.C_drew ?_)))))
local macro "lw2217_" : tactic => `(tactic| (have n2_ := Aside0.mk (below_step (by qc0_) hb)))
local macro "lw2218_" : tactic => `(tactic| (refine hK.out _ _ ⟨((HB.out.cell (World.block_lt_of_cell? w _ hw335_0)).trans hw335_0), ((HB.out.cell (World.block_lt_of_cell? w _ hw335_1)).trans hw335_1), ((HB.out.cell (World.block_lt_of_cell? w _ hw335_2)).trans hw335_2), ((HB.out.cell (World.block_lt_of_cell? w _ hw335_3)).trans hw335_3), ((HB.out.cell (World.block_lt_of_cell? w _ hw335_4)).trans hw335_4), ((HB.out.cell (World.block_lt_of_cell? w _ hw335_5)).trans hw335_5), ((HB.out.cell (World.block_lt_of_cell? w _ hw347_0)).trans hw347_0), ((HB.out.cell (World.block_lt_of_cell? w _ hw347_1)).trans hw347_1), ((HB.out.cell (World.block_lt_of_cell? w _ hw347_2)).trans hw347_2), ((HB.out.cell (World.block_lt_of_cell? w _ hw347_3)).trans hw347_3), ((HB.out.cell (World.block_lt_of_cell? w _ hw347_4)).trans hw347_4), ((HB.out.cell (World.block_lt_of_cell? w _ hw347_5)).trans hw347_5)⟩ (fun hHeld => ?_)))
local macro "lw2219_" : tactic => `(tactic| (refine one_ (i := 5) (N := some 22) #[true, true, true, true, true, true, true, true, true, true, false, false] rfl rfl (one_of HT_.out (by kernel_rfl)) (by decide) (fun K hK => ?_)))
local macro "lw2220_" : tactic => `(tactic| ((case side1 => repeat (first | exact (Kd.R_reads' HO340.out).2.2 | (with_reducible refine Kd.C_alloc ?_ _) | (with_reducible refine Kd.C_drewN ?_ _) | (with_reducible refine Kd.C_drew ?_)))))
local macro "lw2221_" : tactic => `(tactic| ((case side3 => repeat (first | exact (Kd.R_reads' HO344.out).2.2 | (with_reducible refine Kd.C_alloc ?_ _) | (with_reducible refine Kd.C_drewN ?_ _) | (with_reducible refine Kd.C_drew ?_)))))
local macro "lw2222_" : tactic => `(tactic| (have n0_ := Aside0.mk (Kd.R_below (by qR_; exact HO340.out) hb)))
local macro "lw2223_" : tactic => `(tactic| (have n1_ := Aside0.mk (Kd.R_below (by qR_; exact HO344.out) hb)))
local macro "lw2224_" : tactic => `(tactic| (refine one_ (i := 10) (N := some 27) #[true, true, true, true, true, true, true, true, true, true, true, false] rfl rfl (one_of HT_.out (by kernel_rfl)) (by decide) (fun K hK => ?_)))
local macro "lw2225_" : tactic => `(tactic| (refine goes_ Tryd.func44 (by kernel_rfl) rfl #[.agg #[.int .i64 ((rd_T62 l0 x3_1).f0), .int .i64 ((rd_T62 l0 x3_1).f1), .slice A335_2 ((rd_T62 l0 x3_1).f2).length c335_2, .int .i64 ((rd_T62 l0 x3_1).f3), .slice A335_4 ((rd_T62 l0 x3_1).f4).length c335_4, .int .i64 ((rd_T62 l0 x3_1).f5)]] (by rfl) rfl rfl (pw220_) ?_))
local macro "lw2226_" : tactic => `(tactic| ((case side1 => repeat (first | exact (Kd.C_below HR347_2.out HB.out) | exact HR347_2.out | (with_reducible refine Kd.C_alloc ?_ _) | (with_reducible refine Kd.C_drewN ?_ _) | (with_reducible refine Kd.C_drew ?_)))))
local macro "lw2227_" : tactic => `(tactic| ((case side3 => repeat (first | exact (Kd.C_below HR347_4.out HB.out) | exact HR347_4.out | (with_reducible refine Kd.C_alloc ?_ _) | (with_reducible refine Kd.C_drewN ?_ _) | (with_reducible refine Kd.C_drew ?_)))))
local macro "lw2228_" : tactic => `(tactic| (refine pure_ (i := 11) (N := some 28) (v := ?_) (a' := ?_) #[true, true, true, true, true, true, true, true, true, true, true, true] rfl rfl (any_of HT_.out (by kernel_rfl)) (fun _ _ _ h => h) (Or.inl ⟨by rfl, ?_⟩) ?_ ?_))
local macro "lw2229_" : tactic => `(tactic| (exact ⟨by first | rfl | (simp [errW_none, errW_some] <;> rfl) | (simp [*, errW_none, errW_some] <;> rfl), by qc0_⟩))
set_option hygiene true
def shibbolethlaw06_FrameWrites.l0 : Nat → List (S62) → Int → Option (Bool)
 | 0, _, _ => none
 | k + 1, x0, x3 => if x3 < (x0.length : Int) then (if 0 ≤ x3 then ((shibbolethlaw06_of.f k ((rd_T62 x0 x3).f0) ((rd_T62 x0 x3).f1) ((rd_T62 x0 x3).f2) ((rd_T62 x0 x3).f3) ((rd_T62 x0 x3).f4) ((rd_T62 x0 x3).f5)).bind fun bt336 => ((frame_Right.f k bt336.1 bt336.2.1 bt336.2.2.1 bt336.2.2.2.1 bt336.2.2.2.2.1 bt336.2.2.2.2.2).bind fun t346 => ((shibbolethref06_Right.f k ((rd_T62 x0 x3).f0) ((rd_T62 x0 x3).f1) ((rd_T62 x0 x3).f2) ((rd_T62 x0 x3).f3) ((rd_T62 x0 x3).f4) ((rd_T62 x0 x3).f5)).bind fun t348 => (if (t346 != t348) = true then (some false) else (shibbolethlaw06_FrameWrites.l0 k x0 (wrap64 (x3 + 1))))))) else (none)) else ((shibbolethlaw06_all.f k x0).bind fun t349 => ((frame_Write.f k t349).bind fun bt352 => ((shibbolethref06_Write.f k x0).bind fun bt356 => ((shibbolethlaw06_same.f k bt352.1 bt356.1).bind fun t360 => (if t360 = true then (if bt352.2 = bt356.2 then ((shibbolethlaw06_awake.f k).bind fun t361 => (some t361)) else (some false)) else (some false))))))
def shibbolethlaw06_FrameWrites.f (k : Nat) (l0 : List (S62)) : Option (Bool) := (shibbolethlaw06_light.f k l0).bind fun t334 => (if t334 = true then (shibbolethlaw06_FrameWrites.l0 k l0 0) else (some true))
theorem shibbolethlaw06_FrameWrites.mono_l : ∀ k, (∀ y0 y1, LeO (shibbolethlaw06_FrameWrites.l0 k y0 y1) (shibbolethlaw06_FrameWrites.l0 (k + 1) y0 y1))
 | 0 => fun _ _ r h => by simp [shibbolethlaw06_FrameWrites.l0] at h
 | k + 1 => by
  have ih0 := shibbolethlaw06_FrameWrites.mono_l k
  ·intro y0 y1
   unfold shibbolethlaw06_FrameWrites.l0
   repeat' first
   | (with_reducible exact ih0 _ _)
   | (with_reducible exact frame_Right.mono _ _ _ _ _ _ _)
   | (with_reducible exact frame_Write.mono _ _)
   | (with_reducible exact shibbolethlaw06_all.mono _ _)
   | (with_reducible exact shibbolethlaw06_awake.mono _)
   | (with_reducible exact shibbolethlaw06_light.mono _ _)
   | (with_reducible exact shibbolethlaw06_of.mono _ _ _ _ _ _ _)
   | (with_reducible exact shibbolethlaw06_same.mono _ _ _)
   | (with_reducible exact shibbolethref06_Right.mono _ _ _ _ _ _ _)
   | (with_reducible exact shibbolethref06_Write.mono _ _)
   | (with_reducible exact LeO.refl _)
   | (with_reducible exact LeO.none _)
   | (with_reducible refine LeO.ite ?_ ?_)
   | (with_reducible refine LeO.bind ?_ (fun _ => ?_))
   | exact ih0 _ _
   | exact frame_Right.mono _ _ _ _ _ _ _
   | exact frame_Write.mono _ _
   | exact shibbolethlaw06_all.mono _ _
   | exact shibbolethlaw06_awake.mono _
   | exact shibbolethlaw06_light.mono _ _
   | exact shibbolethlaw06_of.mono _ _ _ _ _ _ _
   | exact shibbolethlaw06_same.mono _ _ _
   | exact shibbolethref06_Right.mono _ _ _ _ _ _ _
   | exact shibbolethref06_Write.mono _ _
   | exact LeO.none _
   | refine LeO.ite ?_ ?_
   | refine LeO.bind ?_ (fun _ => ?_)
theorem shibbolethlaw06_FrameWrites.mono : ∀ a0 k, LeO (shibbolethlaw06_FrameWrites.f k a0) (shibbolethlaw06_FrameWrites.f (k + 1) a0) := by
 intro a0 k
 have ih0 := shibbolethlaw06_FrameWrites.mono_l k
 unfold shibbolethlaw06_FrameWrites.f
 repeat' first
   | (with_reducible exact ih0 _ _)
   | (with_reducible exact frame_Right.mono _ _ _ _ _ _ _)
   | (with_reducible exact frame_Write.mono _ _)
   | (with_reducible exact shibbolethlaw06_all.mono _ _)
   | (with_reducible exact shibbolethlaw06_awake.mono _)
   | (with_reducible exact shibbolethlaw06_light.mono _ _)
   | (with_reducible exact shibbolethlaw06_of.mono _ _ _ _ _ _ _)
   | (with_reducible exact shibbolethlaw06_same.mono _ _ _)
   | (with_reducible exact shibbolethref06_Right.mono _ _ _ _ _ _ _)
   | (with_reducible exact shibbolethref06_Write.mono _ _)
   | (with_reducible exact LeO.refl _)
   | (with_reducible exact LeO.none _)
   | (with_reducible refine LeO.ite ?_ ?_)
   | (with_reducible refine LeO.bind ?_ (fun _ => ?_))
   | exact ih0 _ _
   | exact frame_Right.mono _ _ _ _ _ _ _
   | exact frame_Write.mono _ _
   | exact shibbolethlaw06_all.mono _ _
   | exact shibbolethlaw06_awake.mono _
   | exact shibbolethlaw06_light.mono _ _
   | exact shibbolethlaw06_of.mono _ _ _ _ _ _ _
   | exact shibbolethlaw06_same.mono _ _ _
   | exact shibbolethref06_Right.mono _ _ _ _ _ _ _
   | exact shibbolethref06_Write.mono _ _
   | exact LeO.none _
   | refine LeO.ite ?_ ?_
   | refine LeO.bind ?_ (fun _ => ?_)
def shibbolethlaw06_FrameWrites.T6 : Bool × List (List Nat × List Nat) := (true, [([], []), ([], []), ([0, 1], [0, 1]), ([2], [2]), ([3], [3]), ([4, 4], [4]), ([], []), ([], []), ([6, 7], [6, 7]), ([8], [8]), ([9, 5], [9]), ([5, 10], [5, 10])])
def shibbolethlaw06_FrameWrites.B6 : List Nat := [0, 0, 3, 7, 15, 31, 0, 0, 192, 448, 1023, 2047]
theorem shibbolethlaw06_FrameWrites.tab6 : rtab .any (opsOf Tryd.f10 6) = shibbolethlaw06_FrameWrites.T6 := by kernel_rfl
theorem shibbolethlaw06_FrameWrites.bits6 : waitsOk shibbolethlaw06_FrameWrites.T6.2 shibbolethlaw06_FrameWrites.B6 = true := by kernel_rfl
set_option maxHeartbeats 8000000 in
set_option maxRecDepth 100000 in
theorem shibbolethlaw06_FrameWrites.calls (k : Nat) (A0 : Option Addr) (c0 : Nat) (l0 : List (S62)) (r : Bool) (w : World) (hr0 : Kd.C k62 w A0 l0.length l0) (hc0 : l0.length ≤ c0) (ht : TB w) (h : shibbolethlaw06_FrameWrites.f k l0 = some r) :
  Calls Tryd.prog 10 #[.slice A0 l0.length c0] w fun e w' => e = .returned (.bool r) ∧ Below w.heap.size w w' := by
 have HT := Aside0.mk ht
 clear ht
 have hu62 := Tryd.underlying62
 have HR0 := Aside0.mk hr0
 have HC0 := Aside0.mk hc0
 clear hr0 hc0
 have HB := Aside0.mk (Below.refl w.heap.size w)
 have H : ((shibbolethlaw06_light.f k l0).bind fun t334 => (if t334 = true then (shibbolethlaw06_FrameWrites.l0 k l0 0) else (some true))) = some r := h
 clear h
 lw220_
 obtain ⟨t334, A20, H⟩ := H
 replace H : (if t334 = true then (shibbolethlaw06_FrameWrites.l0 k l0 0) else (some true)) = some r := H
 have A2 := Aside0.mk A20
 clear A20
 by_cases c3 : t334 = true
 ·subst c3
  have H1 : (shibbolethlaw06_FrameWrites.l0 k l0 0) = some r := by rw [if_pos rfl] at H; exact H
  clear H
  have H := H1
  clear H1
  have H' := Aside0.mk H
  clear H
  go_enter Tryd.func10, Tryd.ntmps10
  go_wp2_with (first | ((with_reducible refine gate_callee (f := 41) rfl ?_); refine goesL_ (some 9) rfl rfl Tryd.func41 (by kernel_rfl) rfl #[.slice A0 l0.length c0] rfl (pw220_) ?_; (with_reducible refine (shibbolethlaw06_light.calls k _ _ l0 true _ ?side1 ?side2 A2.out).mono ?_); (case side1 => repeat (first | exact HR0.out | (with_reducible refine Kd.C_alloc ?_ _) | (with_reducible refine Kd.C_drewN ?_ _) | (with_reducible refine Kd.C_drew ?_))); (case side2 => exact HC0.out); rintro e w' ⟨rfl, ⟨nd, rfl⟩⟩; refine ⟨_, rfl, ?_⟩))
  go_loopg [3] k (fun kq v3 w' => ∃ (x3_1 : Int), v3 = .int .i64 x3_1 ∧ Aside0 (shibbolethlaw06_FrameWrites.l0 kq l0 x3_1 = some r) ∧ Aside0 (kq ≤ k) ∧ Aside0 (Below w.heap.size w w'))
  case atStart => exact ⟨(0), (by first | rfl | (simp; done) | (simp [*]; done)), H', ⟨Nat.le_refl _⟩, ⟨by qc0_⟩⟩
  case round =>
   clear H'
   try clear c1
   try clear p2
   try clear c3
   obtain ⟨x3_1, rfl, HA, HK1, HB⟩ := hrel
   cases gk with
   | zero => exact absurd HA.out (by simp [shibbolethlaw06_FrameWrites.l0])
   | succ k1 =>
    have H := HA.out
    clear HA
    simp only [shibbolethlaw06_FrameWrites.l0] at H
    by_cases c4 : x3_1 < (l0.length : Int)
    ·rw [if_pos c4] at H
     have c4b0 : decide (x3_1 < (l0.length : Int)) = true := decide_eq_true c4
     clear c4
     by_cases c5 : 0 ≤ x3_1
     ·rw [if_pos c5] at H
      have c5b0 : decide (0 ≤ x3_1) = true := decide_eq_true c5
      clear c5
      lw220_
      obtain ⟨⟨t336, t337, t338, t341, t342, t345⟩, A60, H⟩ := H
      replace H : ((frame_Right.f k1 t336 t337 t338 t341 t342 t345).bind fun t346 => ((shibbolethref06_Right.f k1 ((rd_T62 l0 x3_1).f0) ((rd_T62 l0 x3_1).f1) ((rd_T62 l0 x3_1).f2) ((rd_T62 l0 x3_1).f3) ((rd_T62 l0 x3_1).f4) ((rd_T62 l0 x3_1).f5)).bind fun t348 => (pw223_))) = some r := H
      have A6 := Aside0.mk A60
      clear A60
      lw220_
      obtain ⟨t346, A70, H⟩ := H
      replace H : ((shibbolethref06_Right.f k1 ((rd_T62 l0 x3_1).f0) ((rd_T62 l0 x3_1).f1) ((rd_T62 l0 x3_1).f2) ((rd_T62 l0 x3_1).f3) ((rd_T62 l0 x3_1).f4) ((rd_T62 l0 x3_1).f5)).bind fun t348 => (pw223_)) = some r := H
      have A7 := Aside0.mk A70
      clear A70
      lw220_
      obtain ⟨t348, A80, H⟩ := H
      replace H : (pw223_) = some r := H
      have A8 := Aside0.mk A80
      clear A80
      by_cases c9 : (t346 != t348) = true
      ·rw [if_pos c9] at H
       have c9b0 : (t346 != t348) = true := c9
       (try (have c9b1 : decide (t346 = t348) = false := by simpa using c9))
       (try (have c9b2 : (t346 == t348) = false := by simpa using c9))
       (try (have c9b3 : ¬ (t346 = t348) := by simpa using c9))
       clear c9
       obtain rfl := Option.some.inj H
       try go_wp2
       have n0_ := Aside0.mk (below_drew1 HB.out)
       clear HB
       have HB := n0_
       clear n0_
       have p335 : 0 ≤ (x3_1 : Int) := of_decide_eq_true (pw222_)
       have q335 : x3_1 < (l0.length : Int) := of_decide_eq_true (pw222_)
       lw221_
       have hw335_5 := hx335_5
       have hw335_4 := hx335_4
       have hw335_3 := hx335_3
       have hw335_2 := hx335_2
       have hw335_1 := hx335_1
       have hw335_0 := hx335_0
       cases e335
       replace hx335_0 := (HB.out.cell (World.block_lt_of_cell? w _ hx335_0)).trans hx335_0
       replace hx335_1 := (HB.out.cell (World.block_lt_of_cell? w _ hx335_1)).trans hx335_1
       replace hx335_2 := (HB.out.cell (World.block_lt_of_cell? w _ hx335_2)).trans hx335_2
       replace hx335_3 := (HB.out.cell (World.block_lt_of_cell? w _ hx335_3)).trans hx335_3
       replace hx335_4 := (HB.out.cell (World.block_lt_of_cell? w _ hx335_4)).trans hx335_4
       replace hx335_5 := (HB.out.cell (World.block_lt_of_cell? w _ hx335_5)).trans hx335_5
       have HR335_2 := Aside0.mk hi335_2
       have HC335_2 := Aside0.mk hl335_2
       clear hi335_2 hl335_2
       have HR335_4 := Aside0.mk hi335_4
       have HC335_4 := Aside0.mk hl335_4
       clear hi335_4 hl335_4
       replace p335 := eq_true p335
       replace q335 := eq_true q335
       have p347 : 0 ≤ (x3_1 : Int) := of_decide_eq_true (pw222_)
       have q347 : x3_1 < (l0.length : Int) := of_decide_eq_true (pw222_)
       lw222_
       have hw347_5 := hx347_5
       have hw347_4 := hx347_4
       have hw347_3 := hx347_3
       have hw347_2 := hx347_2
       have hw347_1 := hx347_1
       have hw347_0 := hx347_0
       obtain rfl : ad335 = ad347 := (by injection e347)
       replace hx347_0 := (HB.out.cell (World.block_lt_of_cell? w _ hx347_0)).trans hx347_0
       replace hx347_1 := (HB.out.cell (World.block_lt_of_cell? w _ hx347_1)).trans hx347_1
       replace hx347_2 := (HB.out.cell (World.block_lt_of_cell? w _ hx347_2)).trans hx347_2
       replace hx347_3 := (HB.out.cell (World.block_lt_of_cell? w _ hx347_3)).trans hx347_3
       replace hx347_4 := (HB.out.cell (World.block_lt_of_cell? w _ hx347_4)).trans hx347_4
       replace hx347_5 := (HB.out.cell (World.block_lt_of_cell? w _ hx347_5)).trans hx347_5
       have HR347_2 := Aside0.mk hi347_2
       have HC347_2 := Aside0.mk hl347_2
       clear hi347_2 hl347_2
       have HR347_4 := Aside0.mk hi347_4
       have HC347_4 := Aside0.mk hl347_4
       clear hi347_4 hl347_4
       replace p347 := eq_true p347
       replace q347 := eq_true q347
       have ea_ := Option.some.inj (hx335_2.symm.trans hx347_2)
       injection ea_ with ea_ en_ ec_
       subst ea_
       subst ec_
       clear en_
       have ea_ := Option.some.inj (hx335_4.symm.trans hx347_4)
       injection ea_ with ea_ en_ ec_
       subst ea_
       subst ec_
       clear en_
       lw223_
       generalize wr.drew = w10 at HB HR335_2 HR335_4 HR347_2 HR347_4 hx335_0 hx335_1 hx335_2 hx335_3 hx335_4 hx335_5 hx347_0 hx347_1 hx347_2 hx347_3 hx347_4 hx347_5 hHeld ⊢
       lw224_
       rotate_left
       ·intro w'
        go_simp
        with_reducible rfl
       rotate_left
       ·qp_
        rfl
       lw225_
       rotate_left
       ·intro w'
        go_simp
        with_reducible rfl
       rotate_left
       ·qp_
        rfl
       lw226_
       rotate_left
       ·intro w'
        go_simp
        with_reducible rfl
       rotate_left
       ·qp_
        rfl
       lw227_
       rotate_left
       ·intro w'
        go_simp
        with_reducible rfl
       rotate_left
       ·qp_
        rfl
       lw228_
       rotate_left
       ·intro w'
        go_simp
        with_reducible rfl
       rotate_left
       ·qp_
        rfl
       lw229_
       rotate_left
       ·intro w'
        go_simp
        with_reducible rfl
       rotate_left
       ·qp_
        rfl
       lw2210_
       rotate_left
       ·lw2211_
        go_simp
        with_reducible rfl
       rotate_left
       ·qp_
        rfl
       lw2212_
       rotate_left
       ·lw2211_
        go_simp
        with_reducible rfl
       rotate_left
       ·qp_
        rfl
       lw2213_
       lw2214_
       with_reducible refine (shibbolethlaw06_of.calls k1 ((rd_T62 l0 x3_1).f0) ((rd_T62 l0 x3_1).f1) _ _ ((rd_T62 l0 x3_1).f2) ((rd_T62 l0 x3_1).f3) _ _ ((rd_T62 l0 x3_1).f4) ((rd_T62 l0 x3_1).f5) t336 t337 t338 t341 t342 t345 _ ?side1 ?side2 ?side3 ?side4 A6.out).mono ?_
       lw2215_
       (case side2 => exact HC335_2.out)
       lw2216_
       (case side4 => exact HC335_4.out)
       rintro e w11 ⟨v339, v343, rfl, ho0, ho1, hb⟩
       refine ⟨_, rfl, ?_⟩
       have n0_ := Aside0.mk (Kd.R_lower ho0 (below_size (by qc0_)))
       have n1_ := Aside0.mk (Kd.R_lower ho1 (below_size (by qc0_)))
       lw2217_
       clear HB
       have HO340 := n0_
       have HO344 := n1_
       have HB := n2_
       clear n0_ n1_ n2_
       (try clear hb)
       (try clear hb2)
       (try clear hk)
       (try clear hi)
       (try clear ho0)
       (try clear ho1)
       obtain ⟨Ao12, co12, eo12⟩ := Kd.R_slice HO340.out
       (first | subst eo12 | (injection eo12 with f1_ f2_ f3_; have f4_ := f1_.symm; have f5_ := f3_.symm; clear f1_ f2_ f3_; subst f4_; subst f5_))
       obtain ⟨Ao13, co13, eo13⟩ := Kd.R_slice HO344.out
       (first | subst eo13 | (injection eo13 with f1_ f2_ f3_; have f4_ := f1_.symm; have f5_ := f3_.symm; clear f1_ f2_ f3_; subst f4_; subst f5_))
       lw2218_
       clear hK K
       refine norm_ (a' := ?_) ?_ ?_
       rotate_left
       ·show Act.put _ (some 21) _ = _
        qp_
        rfl
       lw2219_
       refine goes_ Tryd.func42 (by kernel_rfl) rfl #[.agg #[.int .i64 t336, .int .i64 t337, .slice Ao12 t338.length co12, .int .i64 t341, .slice Ao13 t342.length co13, .int .i64 t345]] (by rfl) rfl rfl (pw220_) ?_
       with_reducible refine (frame_Right.calls k1 t336 t337 _ _ t338 t341 _ _ t342 t345 t346 _ ?side1 ?side2 ?side3 ?side4 A7.out).mono ?_
       lw2220_
       (case side2 => exact (Kd.R_reads' HO340.out).2.1)
       lw2221_
       (case side4 => exact (Kd.R_reads' HO344.out).2.1)
       rintro e w14 ⟨rfl, hb⟩
       refine ⟨_, rfl, ?_⟩
       lw2222_
       lw2223_
       lw2217_
       clear HO340
       clear HO344
       clear HB
       have HO340 := n0_
       have HO344 := n1_
       have HB := n2_
       clear n0_ n1_ n2_
       (try clear hb)
       (try clear hb2)
       (try clear hk)
       (try clear hi)
       lw2218_
       clear hK K
       refine norm_ (a' := ?_) ?_ ?_
       rotate_left
       ·show Act.put _ (some 22) _ = _
        qp_
        rfl
       lw2224_
       lw2225_
       with_reducible refine (shibbolethref06_Right.calls k1 ((rd_T62 l0 x3_1).f0) ((rd_T62 l0 x3_1).f1) _ _ ((rd_T62 l0 x3_1).f2) ((rd_T62 l0 x3_1).f3) _ _ ((rd_T62 l0 x3_1).f4) ((rd_T62 l0 x3_1).f5) t348 _ ?side1 ?side2 ?side3 ?side4 A8.out).mono ?_
       lw2226_
       (case side2 => exact HC347_2.out)
       lw2227_
       (case side4 => exact HC347_4.out)
       rintro e w15 ⟨rfl, hb⟩
       refine ⟨_, rfl, ?_⟩
       lw2222_
       lw2223_
       lw2217_
       clear HO340
       clear HO344
       clear HB
       have HO340 := n0_
       have HO344 := n1_
       have HB := n2_
       clear n0_ n1_ n2_
       (try clear hb)
       (try clear hb2)
       (try clear hk)
       (try clear hi)
       lw2218_
       clear hK K
       refine norm_ (a' := ?_) ?_ ?_
       rotate_left
       ·show Act.put _ (some 27) _ = _
        qp_
        rfl
       lw2228_
       rotate_left
       ·intro w'
        go_simp
        with_reducible rfl
       rotate_left
       ·qp_
        rfl
       refine done_ (done_of HT_.out (by kernel_rfl)) ?_
       try go_wp2
       go_ret
       lw2229_
      ·rw [if_neg c9] at H
       have c9b0 : (t346 != t348) = false := by simpa using c9
       (try (have c9b1 : decide (t346 = t348) = true := by simpa using c9))
       (try (have c9b2 : (t346 == t348) = true := by simpa using c9))
       clear c9
       have H' := Aside0.mk H
       clear H
       try go_wp2
       have n0_ := Aside0.mk (below_drew1 HB.out)
       clear HB
       have HB := n0_
       clear n0_
       have p335 : 0 ≤ (x3_1 : Int) := of_decide_eq_true (pw222_)
       have q335 : x3_1 < (l0.length : Int) := of_decide_eq_true (pw222_)
       lw221_
       have hw335_5 := hx335_5
       have hw335_4 := hx335_4
       have hw335_3 := hx335_3
       have hw335_2 := hx335_2
       have hw335_1 := hx335_1
       have hw335_0 := hx335_0
       cases e335
       replace hx335_0 := (HB.out.cell (World.block_lt_of_cell? w _ hx335_0)).trans hx335_0
       replace hx335_1 := (HB.out.cell (World.block_lt_of_cell? w _ hx335_1)).trans hx335_1
       replace hx335_2 := (HB.out.cell (World.block_lt_of_cell? w _ hx335_2)).trans hx335_2
       replace hx335_3 := (HB.out.cell (World.block_lt_of_cell? w _ hx335_3)).trans hx335_3
       replace hx335_4 := (HB.out.cell (World.block_lt_of_cell? w _ hx335_4)).trans hx335_4
       replace hx335_5 := (HB.out.cell (World.block_lt_of_cell? w _ hx335_5)).trans hx335_5
       have HR335_2 := Aside0.mk hi335_2
       have HC335_2 := Aside0.mk hl335_2
       clear hi335_2 hl335_2
       have HR335_4 := Aside0.mk hi335_4
       have HC335_4 := Aside0.mk hl335_4
       clear hi335_4 hl335_4
       replace p335 := eq_true p335
       replace q335 := eq_true q335
       have p347 : 0 ≤ (x3_1 : Int) := of_decide_eq_true (pw222_)
       have q347 : x3_1 < (l0.length : Int) := of_decide_eq_true (pw222_)
       lw222_
       have hw347_5 := hx347_5
       have hw347_4 := hx347_4
       have hw347_3 := hx347_3
       have hw347_2 := hx347_2
       have hw347_1 := hx347_1
       have hw347_0 := hx347_0
       obtain rfl : ad335 = ad347 := (by injection e347)
       replace hx347_0 := (HB.out.cell (World.block_lt_of_cell? w _ hx347_0)).trans hx347_0
       replace hx347_1 := (HB.out.cell (World.block_lt_of_cell? w _ hx347_1)).trans hx347_1
       replace hx347_2 := (HB.out.cell (World.block_lt_of_cell? w _ hx347_2)).trans hx347_2
       replace hx347_3 := (HB.out.cell (World.block_lt_of_cell? w _ hx347_3)).trans hx347_3
       replace hx347_4 := (HB.out.cell (World.block_lt_of_cell? w _ hx347_4)).trans hx347_4
       replace hx347_5 := (HB.out.cell (World.block_lt_of_cell? w _ hx347_5)).trans hx347_5
       have HR347_2 := Aside0.mk hi347_2
       have HC347_2 := Aside0.mk hl347_2
       clear hi347_2 hl347_2
       have HR347_4 := Aside0.mk hi347_4
       have HC347_4 := Aside0.mk hl347_4
       clear hi347_4 hl347_4
       replace p347 := eq_true p347
       replace q347 := eq_true q347
       have ea_ := Option.some.inj (hx335_2.symm.trans hx347_2)
       injection ea_ with ea_ en_ ec_
       subst ea_
       subst ec_
       clear en_
       have ea_ := Option.some.inj (hx335_4.symm.trans hx347_4)
       injection ea_ with ea_ en_ ec_
       subst ea_
       subst ec_
       clear en_
       lw223_
       generalize wr.drew = w16 at HB HR335_2 HR335_4 HR347_2 HR347_4 hx335_0 hx335_1 hx335_2 hx335_3 hx335_4 hx335_5 hx347_0 hx347_1 hx347_2 hx347_3 hx347_4 hx347_5 hHeld ⊢
       lw224_
       rotate_left
       ·intro w'
        go_simp
        with_reducible rfl
       rotate_left
       ·qp_
        rfl
       lw225_
       rotate_left
       ·intro w'
        go_simp
        with_reducible rfl
       rotate_left
       ·qp_
        rfl
       lw226_
       rotate_left
       ·intro w'
        go_simp
        with_reducible rfl
       rotate_left
       ·qp_
        rfl
       lw227_
       rotate_left
       ·intro w'
        go_simp
        with_reducible rfl
       rotate_left
       ·qp_
        rfl
       lw228_
       rotate_left
       ·intro w'
        go_simp
        with_reducible rfl
       rotate_left
       ·qp_
        rfl
       lw229_
       rotate_left
       ·intro w'
        go_simp
        with_reducible rfl
       rotate_left
       ·qp_
        rfl
       lw2210_
       rotate_left
       ·lw2211_
        go_simp
        with_reducible rfl
       rotate_left
       ·qp_
        rfl
       lw2212_
       rotate_left
       ·lw2211_
        go_simp
        with_reducible rfl
       rotate_left
       ·qp_
        rfl
       lw2213_
       lw2214_
       with_reducible refine (shibbolethlaw06_of.calls k1 ((rd_T62 l0 x3_1).f0) ((rd_T62 l0 x3_1).f1) _ _ ((rd_T62 l0 x3_1).f2) ((rd_T62 l0 x3_1).f3) _ _ ((rd_T62 l0 x3_1).f4) ((rd_T62 l0 x3_1).f5) t336 t337 t338 t341 t342 t345 _ ?side1 ?side2 ?side3 ?side4 A6.out).mono ?_
       lw2215_
       (case side2 => exact HC335_2.out)
       lw2216_
       (case side4 => exact HC335_4.out)
       rintro e w17 ⟨v339, v343, rfl, ho0, ho1, hb⟩
       refine ⟨_, rfl, ?_⟩
       have n0_ := Aside0.mk (Kd.R_lower ho0 (below_size (by qc0_)))
       have n1_ := Aside0.mk (Kd.R_lower ho1 (below_size (by qc0_)))
       lw2217_
       clear HB
       have HO340 := n0_
       have HO344 := n1_
       have HB := n2_
       clear n0_ n1_ n2_
       (try clear hb)
       (try clear hb2)
       (try clear hk)
       (try clear hi)
       (try clear ho0)
       (try clear ho1)
       obtain ⟨Ao18, co18, eo18⟩ := Kd.R_slice HO340.out
       (first | subst eo18 | (injection eo18 with f1_ f2_ f3_; have f4_ := f1_.symm; have f5_ := f3_.symm; clear f1_ f2_ f3_; subst f4_; subst f5_))
       obtain ⟨Ao19, co19, eo19⟩ := Kd.R_slice HO344.out
       (first | subst eo19 | (injection eo19 with f1_ f2_ f3_; have f4_ := f1_.symm; have f5_ := f3_.symm; clear f1_ f2_ f3_; subst f4_; subst f5_))
       lw2218_
       clear hK K
       refine norm_ (a' := ?_) ?_ ?_
       rotate_left
       ·show Act.put _ (some 21) _ = _
        qp_
        rfl
       lw2219_
       refine goes_ Tryd.func42 (by kernel_rfl) rfl #[.agg #[.int .i64 t336, .int .i64 t337, .slice Ao18 t338.length co18, .int .i64 t341, .slice Ao19 t342.length co19, .int .i64 t345]] (by rfl) rfl rfl (pw220_) ?_
       with_reducible refine (frame_Right.calls k1 t336 t337 _ _ t338 t341 _ _ t342 t345 t346 _ ?side1 ?side2 ?side3 ?side4 A7.out).mono ?_
       lw2220_
       (case side2 => exact (Kd.R_reads' HO340.out).2.1)
       lw2221_
       (case side4 => exact (Kd.R_reads' HO344.out).2.1)
       rintro e w20 ⟨rfl, hb⟩
       refine ⟨_, rfl, ?_⟩
       lw2222_
       lw2223_
       lw2217_
       clear HO340
       clear HO344
       clear HB
       have HO340 := n0_
       have HO344 := n1_
       have HB := n2_
       clear n0_ n1_ n2_
       (try clear hb)
       (try clear hb2)
       (try clear hk)
       (try clear hi)
       lw2218_
       clear hK K
       refine norm_ (a' := ?_) ?_ ?_
       rotate_left
       ·show Act.put _ (some 22) _ = _
        qp_
        rfl
       lw2224_
       lw2225_
       with_reducible refine (shibbolethref06_Right.calls k1 ((rd_T62 l0 x3_1).f0) ((rd_T62 l0 x3_1).f1) _ _ ((rd_T62 l0 x3_1).f2) ((rd_T62 l0 x3_1).f3) _ _ ((rd_T62 l0 x3_1).f4) ((rd_T62 l0 x3_1).f5) t348 _ ?side1 ?side2 ?side3 ?side4 A8.out).mono ?_
       lw2226_
       (case side2 => exact HC347_2.out)
       lw2227_
       (case side4 => exact HC347_4.out)
       rintro e w21 ⟨rfl, hb⟩
       refine ⟨_, rfl, ?_⟩
       lw2222_
       lw2223_
       lw2217_
       clear HO340
       clear HO344
       clear HB
       have HO340 := n0_
       have HO344 := n1_
       have HB := n2_
       clear n0_ n1_ n2_
       (try clear hb)
       (try clear hb2)
       (try clear hk)
       (try clear hi)
       lw2218_
       clear hK K
       refine norm_ (a' := ?_) ?_ ?_
       rotate_left
       ·show Act.put _ (some 27) _ = _
        qp_
        rfl
       lw2228_
       rotate_left
       ·intro w'
        go_simp
        with_reducible rfl
       rotate_left
       ·qp_
        rfl
       refine done_ (done_of HT_.out (by kernel_rfl)) ?_
       try go_wp2
       go_roundg k1
       case measure => have := HK1.out; omega
       case rel => exact ⟨(wrap64 (x3_1 + 1)), (by first | rfl | (simp; done) | (simp [*]; done)), H', ⟨by have := HK1.out; omega⟩, ⟨by qc0_⟩⟩
     ·rw [if_neg c5] at H
      exact absurd H (by simp)
    ·rw [if_neg c4] at H
     have c4b0 : decide (x3_1 < (l0.length : Int)) = false := decide_eq_false c4
     clear c4
     lw220_
     obtain ⟨t349, A220, H⟩ := H
     replace H : ((frame_Write.f k1 t349).bind fun bt352 => ((shibbolethref06_Write.f k1 l0).bind fun bt356 => ((shibbolethlaw06_same.f k1 bt352.1 bt356.1).bind fun t360 => (if t360 = true then (if bt352.2 = bt356.2 then ((shibbolethlaw06_awake.f k1).bind fun t361 => (some t361)) else (some false)) else (some false))))) = some r := H
     have A22 := Aside0.mk A220
     clear A220
     lw220_
     obtain ⟨⟨t352, t353⟩, A230, H⟩ := H
     replace H : ((shibbolethref06_Write.f k1 l0).bind fun bt356 => ((shibbolethlaw06_same.f k1 t352 bt356.1).bind fun t360 => (if t360 = true then (if t353 = bt356.2 then ((shibbolethlaw06_awake.f k1).bind fun t361 => (some t361)) else (some false)) else (some false)))) = some r := H
     have A23 := Aside0.mk A230
     clear A230
     lw220_
     obtain ⟨⟨t356, t357⟩, A240, H⟩ := H
     replace H : ((shibbolethlaw06_same.f k1 t352 t356).bind fun t360 => (if t360 = true then (pw224_) else (some false))) = some r := H
     have A24 := Aside0.mk A240
     clear A240
     lw220_
     obtain ⟨t360, A250, H⟩ := H
     replace H : (if t360 = true then (pw224_) else (some false)) = some r := H
     have A25 := Aside0.mk A250
     clear A250
     by_cases c26 : t360 = true
     ·subst c26
      have H1 : (pw224_) = some r := by rw [if_pos rfl] at H; exact H
      clear H
      have H := H1
      clear H1
      by_cases c27 : t353 = t357
      ·rw [if_pos c27] at H
       have c27b0 : (t353 == t357) = true := beq_iff_eq.mpr c27
       have c27b1 : (t353 != t357) = false := bne_eq_false_iff_eq.mpr c27
       clear c27
       lw220_
       obtain ⟨t361, A280, H⟩ := H
       replace H : (some t361) = some r := H
       have A28 := Aside0.mk A280
       clear A280
       obtain rfl := Option.some.inj H
       go_wp2_with (first | ((with_reducible refine gate_callee (f := 46) rfl ?_); refine goesL_ (some 31) rfl rfl Tryd.func46 (by kernel_rfl) rfl #[.slice A0 l0.length c0] rfl (pw220_) ?_; (with_reducible refine (shibbolethlaw06_all.calls k1 _ _ l0 t349 _ ?side1 ?side2 A22.out).mono ?_); (case side1 => repeat (first | exact (Kd.C_below HR0.out HB.out) | exact HR0.out | (with_reducible refine Kd.C_alloc ?_ _) | (with_reducible refine Kd.C_drewN ?_ _) | (with_reducible refine Kd.C_drew ?_))); (case side2 => exact HC0.out); rintro e w29 ⟨v350, rfl, ho0, hb⟩; refine ⟨_, rfl, ?_⟩; have n0_ := Aside0.mk (Kd.S_lower ho0 (below_size (by qc0_))); have n1_ := Aside0.mk (below_step (by qc0_) hb); clear HB; have HO351 := n0_; have HB := n1_; clear n0_ n1_; (try clear hb); (try clear hb2); (try clear hk); (try clear hi); (try clear ho0); obtain ⟨Ao30, co30, eo30⟩ := Kd.S_slice HO351.out; subst eo30) | ((with_reducible refine gate_callee (f := 45) rfl ?_); refine goesL_ (some 32) rfl rfl Tryd.func45 (by kernel_rfl) rfl #[.slice Ao30 t349.length co30] rfl (pw220_) ?_; (with_reducible refine (frame_Write.calls k1 _ _ t349 t352 t353 _ ?side1 ?side2 ?sideT A23.out).mono ?_); (case sideT => repeat (first | exact HT.out | exact TB.below HT.out HB.out | exact TB.below HT.out HBW.out | (with_reducible refine TB.alloc ?_ _) | (with_reducible refine TB.drewN ?_ _) | (with_reducible refine TB.drew ?_))); (case side1 => repeat (first | exact (Kd.S_reads' HO351.out).2.2 | (with_reducible refine Kd.C_alloc ?_ _) | (with_reducible refine Kd.C_drewN ?_ _) | (with_reducible refine Kd.C_drew ?_))); (case side2 => exact (Kd.S_reads' HO351.out).2.1); rintro e w31 ⟨v354, rfl, ho0, hb⟩; refine ⟨_, rfl, ?_⟩; have n0_ := Aside0.mk (Kd.S_elder' (pw221_) (Kd.R_base ho0) hb); have n1_ := Aside0.mk (Kd.R_lower ho0 (below_size (by qc0_))); have n2_ := Aside0.mk (below_step (by qc0_) hb); clear HO351; clear HB; have HO351 := n0_; have HO355 := n1_; have HB := n2_; clear n0_ n1_ n2_; (try clear hb); (try clear hb2); (try clear hk); (try clear hi); (try clear ho0)) | ((with_reducible refine gate_callee (f := 47) rfl ?_); refine goesL_ (some 37) rfl rfl Tryd.func47 (by kernel_rfl) rfl #[.slice A0 l0.length c0] rfl (pw220_) ?_; (with_reducible refine (shibbolethref06_Write.calls k1 _ _ l0 t356 t357 _ ?side1 ?side2 A24.out).mono ?_); (case side1 => repeat (first | exact (Kd.C_below HR0.out HB.out) | exact HR0.out | (with_reducible refine Kd.C_alloc ?_ _) | (with_reducible refine Kd.C_drewN ?_ _) | (with_reducible refine Kd.C_drew ?_))); (case side2 => exact HC0.out); rintro e w32 ⟨v358, rfl, ho0, hb⟩; refine ⟨_, rfl, ?_⟩; have n0_ := Aside0.mk (Kd.S_elder' (pw221_) (Kd.R_base ho0) hb); have n1_ := Aside0.mk (Kd.R_elder' (by qR_; exact HO355.out) (Kd.R_base ho0) hb); have n2_ := Aside0.mk (Kd.R_lower (Kd.R_new' ho0 (Kd.R_lt (by qR_; exact HO355.out))) (below_size (by qc0_))); have n3_ := Aside0.mk (below_step (by qc0_) hb); clear HO351; clear HO355; clear HB; have HO351 := n0_; have HO355 := n1_; have HO359 := n2_; have HB := n3_; clear n0_ n1_ n2_ n3_; (try clear hb); (try clear hb2); (try clear hk); (try clear hi); (try clear ho0); obtain ⟨Ao33, co33, eo33⟩ := Kd.R_slice HO355.out; subst eo33; obtain ⟨Ao34, co34, eo34⟩ := Kd.R_slice HO359.out; subst eo34) | ((with_reducible refine gate_callee (f := 48) rfl ?_); refine goesL_ (some 42) rfl rfl Tryd.func48 (by kernel_rfl) rfl #[.slice Ao33 t352.length co33, .slice Ao34 t356.length co34] rfl (pw220_) ?_; (with_reducible refine (shibbolethlaw06_same.calls k1 _ _ t352 _ _ t356 true _ ?side1 ?side2 ?side3 ?side4 A25.out).mono ?_); (case side1 => repeat (first | exact (Kd.R_reads' HO355.out).2.2 | (with_reducible refine Kd.C_alloc ?_ _) | (with_reducible refine Kd.C_drewN ?_ _) | (with_reducible refine Kd.C_drew ?_))); (case side2 => exact (Kd.R_reads' HO355.out).2.1); (case side3 => repeat (first | exact (Kd.R_reads' HO359.out).2.2 | (with_reducible refine Kd.C_alloc ?_ _) | (with_reducible refine Kd.C_drewN ?_ _) | (with_reducible refine Kd.C_drew ?_))); (case side4 => exact (Kd.R_reads' HO359.out).2.1); rintro e w' ⟨rfl, ⟨nd, rfl⟩⟩; refine ⟨_, rfl, ?_⟩) | (go_at_call 49; (with_reducible refine (shibbolethlaw06_awake.calls k1  t361 _ ?sideT A28.out).mono ?_); (case sideT => repeat (first | exact HT.out | exact TB.below HT.out HB.out | exact TB.below HT.out HBW.out | (with_reducible refine TB.alloc ?_ _) | (with_reducible refine TB.drewN ?_ _) | (with_reducible refine TB.drew ?_))); rintro e w35 ⟨rfl, hb⟩; have n0_ := Aside0.mk (Kd.S_below (pw221_) hb); have n1_ := Aside0.mk (Kd.R_below (by qR_; exact HO355.out) hb); have n2_ := Aside0.mk (Kd.R_below (by qR_; exact HO359.out) hb); have n3_ := Aside0.mk (below_step (by qc0_) hb); clear HO351; clear HO355; clear HO359; clear HB; have HO351 := n0_; have HO355 := n1_; have HO359 := n2_; have HB := n3_; clear n0_ n1_ n2_ n3_; (try clear hb); (try clear hb2); (try clear hk); (try clear hi)))
       go_ret
       lw2229_
      ·rw [if_neg c27] at H
       have c27b0 : (t353 == t357) = false := beq_eq_false_iff_ne.mpr c27
       have c27b1 : (t353 != t357) = true := bne_iff_ne.mpr c27
       obtain rfl := Option.some.inj H
       go_wp2_with (first | ((with_reducible refine gate_callee (f := 46) rfl ?_); refine goesL_ (some 31) rfl rfl Tryd.func46 (by kernel_rfl) rfl #[.slice A0 l0.length c0] rfl (pw220_) ?_; (with_reducible refine (shibbolethlaw06_all.calls k1 _ _ l0 t349 _ ?side1 ?side2 A22.out).mono ?_); (case side1 => repeat (first | exact (Kd.C_below HR0.out HB.out) | exact HR0.out | (with_reducible refine Kd.C_alloc ?_ _) | (with_reducible refine Kd.C_drewN ?_ _) | (with_reducible refine Kd.C_drew ?_))); (case side2 => exact HC0.out); rintro e w36 ⟨v350, rfl, ho0, hb⟩; refine ⟨_, rfl, ?_⟩; have n0_ := Aside0.mk (Kd.S_lower ho0 (below_size (by qc0_))); have n1_ := Aside0.mk (below_step (by qc0_) hb); clear HB; have HO351 := n0_; have HB := n1_; clear n0_ n1_; (try clear hb); (try clear hb2); (try clear hk); (try clear hi); (try clear ho0); obtain ⟨Ao37, co37, eo37⟩ := Kd.S_slice HO351.out; subst eo37) | ((with_reducible refine gate_callee (f := 45) rfl ?_); refine goesL_ (some 32) rfl rfl Tryd.func45 (by kernel_rfl) rfl #[.slice Ao37 t349.length co37] rfl (pw220_) ?_; (with_reducible refine (frame_Write.calls k1 _ _ t349 t352 t353 _ ?side1 ?side2 ?sideT A23.out).mono ?_); (case sideT => repeat (first | exact HT.out | exact TB.below HT.out HB.out | exact TB.below HT.out HBW.out | (with_reducible refine TB.alloc ?_ _) | (with_reducible refine TB.drewN ?_ _) | (with_reducible refine TB.drew ?_))); (case side1 => repeat (first | exact (Kd.S_reads' HO351.out).2.2 | (with_reducible refine Kd.C_alloc ?_ _) | (with_reducible refine Kd.C_drewN ?_ _) | (with_reducible refine Kd.C_drew ?_))); (case side2 => exact (Kd.S_reads' HO351.out).2.1); rintro e w38 ⟨v354, rfl, ho0, hb⟩; refine ⟨_, rfl, ?_⟩; have n0_ := Aside0.mk (Kd.S_elder' (pw221_) (Kd.R_base ho0) hb); have n1_ := Aside0.mk (Kd.R_lower ho0 (below_size (by qc0_))); have n2_ := Aside0.mk (below_step (by qc0_) hb); clear HO351; clear HB; have HO351 := n0_; have HO355 := n1_; have HB := n2_; clear n0_ n1_ n2_; (try clear hb); (try clear hb2); (try clear hk); (try clear hi); (try clear ho0)) | ((with_reducible refine gate_callee (f := 47) rfl ?_); refine goesL_ (some 37) rfl rfl Tryd.func47 (by kernel_rfl) rfl #[.slice A0 l0.length c0] rfl (pw220_) ?_; (with_reducible refine (shibbolethref06_Write.calls k1 _ _ l0 t356 t357 _ ?side1 ?side2 A24.out).mono ?_); (case side1 => repeat (first | exact (Kd.C_below HR0.out HB.out) | exact HR0.out | (with_reducible refine Kd.C_alloc ?_ _) | (with_reducible refine Kd.C_drewN ?_ _) | (with_reducible refine Kd.C_drew ?_))); (case side2 => exact HC0.out); rintro e w39 ⟨v358, rfl, ho0, hb⟩; refine ⟨_, rfl, ?_⟩; have n0_ := Aside0.mk (Kd.S_elder' (pw221_) (Kd.R_base ho0) hb); have n1_ := Aside0.mk (Kd.R_elder' (by qR_; exact HO355.out) (Kd.R_base ho0) hb); have n2_ := Aside0.mk (Kd.R_lower (Kd.R_new' ho0 (Kd.R_lt (by qR_; exact HO355.out))) (below_size (by qc0_))); have n3_ := Aside0.mk (below_step (by qc0_) hb); clear HO351; clear HO355; clear HB; have HO351 := n0_; have HO355 := n1_; have HO359 := n2_; have HB := n3_; clear n0_ n1_ n2_ n3_; (try clear hb); (try clear hb2); (try clear hk); (try clear hi); (try clear ho0); obtain ⟨Ao40, co40, eo40⟩ := Kd.R_slice HO355.out; subst eo40; obtain ⟨Ao41, co41, eo41⟩ := Kd.R_slice HO359.out; subst eo41) | ((with_reducible refine gate_callee (f := 48) rfl ?_); refine goesL_ (some 42) rfl rfl Tryd.func48 (by kernel_rfl) rfl #[.slice Ao40 t352.length co40, .slice Ao41 t356.length co41] rfl (pw220_) ?_; (with_reducible refine (shibbolethlaw06_same.calls k1 _ _ t352 _ _ t356 true _ ?side1 ?side2 ?side3 ?side4 A25.out).mono ?_); (case side1 => repeat (first | exact (Kd.R_reads' HO355.out).2.2 | (with_reducible refine Kd.C_alloc ?_ _) | (with_reducible refine Kd.C_drewN ?_ _) | (with_reducible refine Kd.C_drew ?_))); (case side2 => exact (Kd.R_reads' HO355.out).2.1); (case side3 => repeat (first | exact (Kd.R_reads' HO359.out).2.2 | (with_reducible refine Kd.C_alloc ?_ _) | (with_reducible refine Kd.C_drewN ?_ _) | (with_reducible refine Kd.C_drew ?_))); (case side4 => exact (Kd.R_reads' HO359.out).2.1); rintro e w' ⟨rfl, ⟨nd, rfl⟩⟩; refine ⟨_, rfl, ?_⟩))
       go_ret
       lw2229_
     ·replace c26 := Bool.eq_false_iff.mpr c26
      subst c26
      have H1 : (some false) = some r := by rw [if_neg (show ¬ (false = true) by decide)] at H; exact H
      clear H
      have H := H1
      clear H1
      obtain rfl := Option.some.inj H
      go_wp2_with (first | ((with_reducible refine gate_callee (f := 46) rfl ?_); refine goesL_ (some 31) rfl rfl Tryd.func46 (by kernel_rfl) rfl #[.slice A0 l0.length c0] rfl (pw220_) ?_; (with_reducible refine (shibbolethlaw06_all.calls k1 _ _ l0 t349 _ ?side1 ?side2 A22.out).mono ?_); (case side1 => repeat (first | exact (Kd.C_below HR0.out HB.out) | exact HR0.out | (with_reducible refine Kd.C_alloc ?_ _) | (with_reducible refine Kd.C_drewN ?_ _) | (with_reducible refine Kd.C_drew ?_))); (case side2 => exact HC0.out); rintro e w42 ⟨v350, rfl, ho0, hb⟩; refine ⟨_, rfl, ?_⟩; have n0_ := Aside0.mk (Kd.S_lower ho0 (below_size (by qc0_))); have n1_ := Aside0.mk (below_step (by qc0_) hb); clear HB; have HO351 := n0_; have HB := n1_; clear n0_ n1_; (try clear hb); (try clear hb2); (try clear hk); (try clear hi); (try clear ho0); obtain ⟨Ao43, co43, eo43⟩ := Kd.S_slice HO351.out; subst eo43) | ((with_reducible refine gate_callee (f := 45) rfl ?_); refine goesL_ (some 32) rfl rfl Tryd.func45 (by kernel_rfl) rfl #[.slice Ao43 t349.length co43] rfl (pw220_) ?_; (with_reducible refine (frame_Write.calls k1 _ _ t349 t352 t353 _ ?side1 ?side2 ?sideT A23.out).mono ?_); (case sideT => repeat (first | exact HT.out | exact TB.below HT.out HB.out | exact TB.below HT.out HBW.out | (with_reducible refine TB.alloc ?_ _) | (with_reducible refine TB.drewN ?_ _) | (with_reducible refine TB.drew ?_))); (case side1 => repeat (first | exact (Kd.S_reads' HO351.out).2.2 | (with_reducible refine Kd.C_alloc ?_ _) | (with_reducible refine Kd.C_drewN ?_ _) | (with_reducible refine Kd.C_drew ?_))); (case side2 => exact (Kd.S_reads' HO351.out).2.1); rintro e w44 ⟨v354, rfl, ho0, hb⟩; refine ⟨_, rfl, ?_⟩; have n0_ := Aside0.mk (Kd.S_elder' (pw221_) (Kd.R_base ho0) hb); have n1_ := Aside0.mk (Kd.R_lower ho0 (below_size (by qc0_))); have n2_ := Aside0.mk (below_step (by qc0_) hb); clear HO351; clear HB; have HO351 := n0_; have HO355 := n1_; have HB := n2_; clear n0_ n1_ n2_; (try clear hb); (try clear hb2); (try clear hk); (try clear hi); (try clear ho0)) | ((with_reducible refine gate_callee (f := 47) rfl ?_); refine goesL_ (some 37) rfl rfl Tryd.func47 (by kernel_rfl) rfl #[.slice A0 l0.length c0] rfl (pw220_) ?_; (with_reducible refine (shibbolethref06_Write.calls k1 _ _ l0 t356 t357 _ ?side1 ?side2 A24.out).mono ?_); (case side1 => repeat (first | exact (Kd.C_below HR0.out HB.out) | exact HR0.out | (with_reducible refine Kd.C_alloc ?_ _) | (with_reducible refine Kd.C_drewN ?_ _) | (with_reducible refine Kd.C_drew ?_))); (case side2 => exact HC0.out); rintro e w45 ⟨v358, rfl, ho0, hb⟩; refine ⟨_, rfl, ?_⟩; have n0_ := Aside0.mk (Kd.S_elder' (pw221_) (Kd.R_base ho0) hb); have n1_ := Aside0.mk (Kd.R_elder' (by qR_; exact HO355.out) (Kd.R_base ho0) hb); have n2_ := Aside0.mk (Kd.R_lower (Kd.R_new' ho0 (Kd.R_lt (by qR_; exact HO355.out))) (below_size (by qc0_))); have n3_ := Aside0.mk (below_step (by qc0_) hb); clear HO351; clear HO355; clear HB; have HO351 := n0_; have HO355 := n1_; have HO359 := n2_; have HB := n3_; clear n0_ n1_ n2_ n3_; (try clear hb); (try clear hb2); (try clear hk); (try clear hi); (try clear ho0); obtain ⟨Ao46, co46, eo46⟩ := Kd.R_slice HO355.out; subst eo46; obtain ⟨Ao47, co47, eo47⟩ := Kd.R_slice HO359.out; subst eo47) | ((with_reducible refine gate_callee (f := 48) rfl ?_); refine goesL_ (some 42) rfl rfl Tryd.func48 (by kernel_rfl) rfl #[.slice Ao46 t352.length co46, .slice Ao47 t356.length co47] rfl (pw220_) ?_; (with_reducible refine (shibbolethlaw06_same.calls k1 _ _ t352 _ _ t356 false _ ?side1 ?side2 ?side3 ?side4 A25.out).mono ?_); (case side1 => repeat (first | exact (Kd.R_reads' HO355.out).2.2 | (with_reducible refine Kd.C_alloc ?_ _) | (with_reducible refine Kd.C_drewN ?_ _) | (with_reducible refine Kd.C_drew ?_))); (case side2 => exact (Kd.R_reads' HO355.out).2.1); (case side3 => repeat (first | exact (Kd.R_reads' HO359.out).2.2 | (with_reducible refine Kd.C_alloc ?_ _) | (with_reducible refine Kd.C_drewN ?_ _) | (with_reducible refine Kd.C_drew ?_))); (case side4 => exact (Kd.R_reads' HO359.out).2.1); rintro e w' ⟨rfl, ⟨nd, rfl⟩⟩; refine ⟨_, rfl, ?_⟩))
      go_ret
      lw2229_
 ·replace c3 := Bool.eq_false_iff.mpr c3
  subst c3
  have H1 : (some true) = some r := by rw [if_neg (show ¬ (false = true) by decide)] at H; exact H
  clear H
  have H := H1
  clear H1
  obtain rfl := Option.some.inj H
  go_enter Tryd.func10, Tryd.ntmps10
  go_wp2_with (first | ((with_reducible refine gate_callee (f := 41) rfl ?_); refine goesL_ (some 9) rfl rfl Tryd.func41 (by kernel_rfl) rfl #[.slice A0 l0.length c0] rfl (pw220_) ?_; (with_reducible refine (shibbolethlaw06_light.calls k _ _ l0 false _ ?side1 ?side2 A2.out).mono ?_); (case side1 => repeat (first | exact HR0.out | (with_reducible refine Kd.C_alloc ?_ _) | (with_reducible refine Kd.C_drewN ?_ _) | (with_reducible refine Kd.C_drew ?_))); (case side2 => exact HC0.out); rintro e w' ⟨rfl, ⟨nd, rfl⟩⟩; refine ⟨_, rfl, ?_⟩))
  go_ret
  lw2229_
end Go.Proofs.YtbcleckapamicaaDoor.QFr
