/- A part of the proof of the law FrameReads: QFrx6. -/
import Derived.Test.YtbcleckapamicaaDoorZFrd02
namespace Go.Proofs.YtbcleckapamicaaDoor.QFr
open Go.RowKit Go.Proofs.YtbcleckapamicaaDoorW.PrintWords Go.Proofs.YtbcleckapamicaaDoorW.PrintLast Go.Proofs.YtbcleckapamicaaDoorW.PrintMore
attribute [local go_sem] max2_int min2_int max_two min_two max_three min_three max_four min_four
set_option linter.unusedVariables false
set_option linter.unusedSimpArgs false
open Go.Proofs.YtbcleckapamicaaDoor.Gv (TB TB.below TB.alloc TB.drew TB.drewN)
open Go.Proofs.YtbcleckapamicaaDoor.QVa (varint_Append.f varint_Append.calls varint_Append.mono varint_Give.f varint_Give.calls varint_Give.mono)
open Go.Proofs.YtbcleckapamicaaDoor.Gf (ideal_Number.f ideal_Number.calls)
set_option hygiene false
local macro "om120_" : term => `(.cells #[.int .i64 ((rd_T103 l0 x18_1).f0), .int .i64 ((rd_T103 l0 x18_1).f1)] 103 (0, 0))
local macro "om121_" : term => `(.cells #[.int .i64 a0_0, .int .i64 a0_1, .slice A0_2 l0_2.length c0_2, .int .i64 a0_3, .slice A0_4 l0_4.length c0_4, .int .i64 a0_5] 58 (0, 0))
local macro "pm120_" : term => `((if a0_0 = 0 then (if 0 ≤ a0_1 then (if (a0_1 : Int).toNat ≤ 281474976710656 then (some (List.replicate (a0_1 : Int).toNat 0)) else (none)) else (none)) else (if a0_0 = 2 then ((frame_acked.f k l0_2).bind fun t168 => (if y162.length + t168.length < 140737488355328 then (some (y162 ++ t168)) else (none))) else (if a0_0 = 6 then ((varint_Append.f k y162 a0_3).bind fun t174 => ((varint_Give.f k t174 l0_4).bind fun t177 => (some t177))) else (if a0_0 = 7 then ((ideal_Number.f a0_5).bind fun t180 => (if y162.length + t180.length < 140737488355328 then (some (y162 ++ t180)) else (none))) else (if a0_0 = 8 then ((varint_Append.f k y162 a0_1).bind fun t186 => ((ideal_Number.f a0_5).bind fun t189 => (if t186.length + t189.length < 140737488355328 then (some (t186 ++ t189)) else (none)))) else (if a0_0 = 28 then ((varint_Append.f k y162 a0_1).bind fun t195 => (some t195)) else (some y162))))))))
local macro "pm121_" : term => `((by (try simp only [List.map_toArray, List.map_cons, List.map_nil]); first | done | rfl | (simp only [List.length_drop, List.length_take]; rfl)))
local macro "pm122_" : term => `((by rw [hg]; exact (below_size (by qc0_)) : w.heap.size ≤ gb161))
local macro "pm123_" : term => `((by qR_; exact (Kd.R_mono (Kd.R_far (p := ⟨gb150, 1, none⟩) (Kd.R_far (p := ⟨gb150, 0, none⟩) (Kd.R_types HO_3.out BK150.out (by decide)) (fun _ hk => hk.2) (.int .i64 ((rd_T103 l0 x18_1).f0))) (fun _ hk => hk.2) (.int .i64 ((rd_T103 l0 x18_1).f1))) (fun _ h_ => h_.1))))
local macro "pm124_" : term => `((by first | (with_reducible assumption) | assumption))
local macro "pm125_" : term => `((by rw [hg]; exact (below_size (by qc0_)) : w.heap.size ≤ gb150))
local macro "lm120_" : tactic => `(tactic| (replace H := Option.bind_eq_some_iff.mp H))
local macro "lm121_" : tactic => `(tactic| ((case sideT => repeat (first | exact HT.out | exact TB.below HT.out HB.out | (with_reducible refine TB.alloc ?_ _) | (with_reducible refine TB.drewN ?_ _) | (with_reducible refine TB.drew ?_)))))
local macro "lm122_" : tactic => `(tactic| ((case side1 => repeat (first | exact (Kd.R_reads' HO164.out).2.2 | (with_reducible refine Kd.C_alloc ?_ _) | (with_reducible refine Kd.C_drewN ?_ _) | (with_reducible refine Kd.C_drew ?_)))))
local macro "lm123_" : tactic => `(tactic| (have n0_ := Aside0.mk (Kd.R_elder' (by qR_; exact HO164.out) (Kd.R_base ho0) hb)))
local macro "lm124_" : tactic => `(tactic| (refine hK.out _ _ ⟨(blk_cell BK161.out 0).trans rfl, (blk_cell BK161.out 1).trans rfl, (blk_cell BK161.out 2).trans rfl, (blk_cell BK161.out 3).trans rfl, (blk_cell BK161.out 4).trans rfl, (blk_cell BK161.out 5).trans rfl⟩ (fun hHeld => ?_)))
set_option hygiene true
def frame_acked.l0 : Nat → List (S103) → List Int → List (S103) → Int → Int → Option (List Int)
 | 0, _, _, _, _, _ => none
 | k + 1, x0, x3, x16, x17, x18 => if x18 < x17 then (if 0 ≤ x18 then (if x18 < (x16.length : Int) then (if x18 > 0 then (if 0 ≤ (wrap64 (x18 - 1)) then (if (wrap64 (x18 - 1)) < (x0.length : Int) then ((varint_Append.f k x3 (wrap64 ((wrap64 (((rd_T103 x0 (wrap64 (x18 - 1))).f0) - ((rd_T103 x16 x18).f1))) - 2))).bind fun t152 => ((varint_Append.f k t152 (wrap64 (((rd_T103 x16 x18).f1) - ((rd_T103 x16 x18).f0)))).bind fun t155 => (frame_acked.l0 k x0 t155 x16 x17 (wrap64 (x18 + 1))))) else (none)) else (none)) else ((varint_Append.f k x3 (wrap64 (((rd_T103 x16 x18).f1) - ((rd_T103 x16 x18).f0)))).bind fun t158 => (frame_acked.l0 k x0 t158 x16 x17 (wrap64 (x18 + 1))))) else (none)) else (none)) else (some x3)
def frame_acked.f (k : Nat) (l0 : List (S103)) : Option (List Int) := if 0 < (l0.length : Int) then ((varint_Append.f k ([] : List Int) ((rd_T103 l0 0).f1)).bind fun t143 => ((varint_Append.f k t143 (wrap64 ((l0.length : Int) - 1))).bind fun t146 => (frame_acked.l0 k l0 t146 l0 (l0.length : Int) 0))) else (none)
theorem frame_acked.mono_l : ∀ k, (∀ y0 y1 y2 y3 y4, LeO (frame_acked.l0 k y0 y1 y2 y3 y4) (frame_acked.l0 (k + 1) y0 y1 y2 y3 y4))
 | 0 => fun _ _ _ _ _ r h => by simp [frame_acked.l0] at h
 | k + 1 => by
  have ih0 := frame_acked.mono_l k
  ·intro y0 y1 y2 y3 y4
   unfold frame_acked.l0
   repeat' first
   | (with_reducible exact ih0 _ _ _ _ _)
   | (with_reducible exact varint_Append.mono _ _ _)
   | (with_reducible exact LeO.refl _)
   | (with_reducible exact LeO.none _)
   | (with_reducible refine LeO.ite ?_ ?_)
   | (with_reducible refine LeO.bind ?_ (fun _ => ?_))
   | exact ih0 _ _ _ _ _
   | exact varint_Append.mono _ _ _
   | exact LeO.none _
   | refine LeO.ite ?_ ?_
   | refine LeO.bind ?_ (fun _ => ?_)
theorem frame_acked.mono : ∀ a0 k, LeO (frame_acked.f k a0) (frame_acked.f (k + 1) a0) := by
 intro a0 k
 have ih0 := frame_acked.mono_l k
 unfold frame_acked.f
 repeat' first
   | (with_reducible exact ih0 _ _ _ _ _)
   | (with_reducible exact varint_Append.mono _ _ _)
   | (with_reducible exact LeO.refl _)
   | (with_reducible exact LeO.none _)
   | (with_reducible refine LeO.ite ?_ ?_)
   | (with_reducible refine LeO.bind ?_ (fun _ => ?_))
   | exact ih0 _ _ _ _ _
   | exact varint_Append.mono _ _ _
   | exact LeO.none _
   | refine LeO.ite ?_ ?_
   | refine LeO.bind ?_ (fun _ => ?_)
def frame_acked.T7 : Bool × List (List Nat × List Nat) := (true, [([], []), ([], []), ([], []), ([2], [2]), ([1, 3], [1, 3]), ([4], [4]), ([5], [5]), ([], []), ([7], [7]), ([6, 8], [6, 8]), ([9], [9]), ([0, 10], [0, 10]), ([11, 11, 0, 1, 2, 3, 4, 5, 6, 7, 8, 9, 10, 11], [0, 11])])
def frame_acked.B7 : List Nat := [0, 0, 0, 4, 14, 30, 62, 0, 128, 510, 1022, 2047, 4095]
theorem frame_acked.tab7 : rtab .any (opsOf Tryd.f88 7) = frame_acked.T7 := by kernel_rfl
theorem frame_acked.bits7 : waitsOk frame_acked.T7.2 frame_acked.B7 = true := by kernel_rfl
set_option maxHeartbeats 8000000 in
set_option maxRecDepth 100000 in
theorem frame_acked.calls (k : Nat) (A0 : Option Addr) (c0 : Nat) (l0 : List (S103)) (r : List Int) (w : World) (hr0 : Kd.C k103 w A0 l0.length l0) (hc0 : l0.length ≤ c0) (ht : TB w) (h : frame_acked.f k l0 = some r) :
  Calls Tryd.prog 88 #[.slice A0 l0.length c0] w fun e w' => ∃ v0_ : Value, e = .returned (v0_) ∧ Kd.R (Kd.int .u8) 5 w' w.heap.size (fun _ => True) v0_ r ∧ Below w.heap.size w w' := by
 have HT := Aside0.mk ht
 clear ht
 have hu103 := Tryd.underlying103
 have HR0 := Aside0.mk hr0
 have HC0 := Aside0.mk hc0
 clear hr0 hc0
 have HB := Aside0.mk (Below.refl w.heap.size w)
 have H : (if 0 < (l0.length : Int) then ((varint_Append.f k ([] : List Int) ((rd_T103 l0 0).f1)).bind fun t143 => ((varint_Append.f k t143 (wrap64 ((l0.length : Int) - 1))).bind fun t146 => (frame_acked.l0 k l0 t146 l0 (l0.length : Int) 0))) else (none)) = some r := h
 clear h
 by_cases c2 : 0 < (l0.length : Int)
 ·rw [if_pos c2] at H
  have c2b0 : decide (0 < (l0.length : Int)) = true := decide_eq_true c2
  have c2b1 : decide (0 < l0.length) = true := decide_eq_true (by omega)
  clear c2
  lm120_
  obtain ⟨t143, A30, H⟩ := H
  replace H : ((varint_Append.f k t143 (wrap64 ((l0.length : Int) - 1))).bind fun t146 => (frame_acked.l0 k l0 t146 l0 (l0.length : Int) 0)) = some r := H
  have A3 := Aside0.mk A30
  clear A30
  lm120_
  obtain ⟨t146, A40, H⟩ := H
  replace H : (frame_acked.l0 k l0 t146 l0 (l0.length : Int) 0) = some r := H
  have A4 := Aside0.mk A40
  clear A40
  have H' := Aside0.mk H
  clear H
  have p142 : 0 ≤ (0 : Int) := (by omega)
  have q142 : 0 < (l0.length : Int) := of_decide_eq_true (pm124_)
  obtain ⟨ad142, e142, hx142_0, hx142_1⟩ := at_T103 HR0.out 0 p142 q142
  cases e142
  have qi142 : (0 < l0.length) = True := eq_true (by omega)
  (try rw [show ((0 : Int)).toNat = 0 from rfl] at hx142_0)
  (try rw [show 0 * 2 = 0 from rfl] at hx142_0)
  (try rw [Addr.add_zero'] at hx142_0)
  (try rw [show ((0 : Int)).toNat = 0 from rfl] at hx142_1)
  (try rw [show 0 * 2 = 0 from rfl] at hx142_1)
  (try rw [Addr.add_zero'] at hx142_1)
  replace p142 := eq_true p142
  replace q142 := eq_true q142
  go_enter Tryd.func88, Tryd.ntmps88
  go_wp2_with (first | ((with_reducible refine gate_callee (f := 21) rfl ?_); refine goesL_ (some 10) rfl rfl Tryd.func21 (by kernel_rfl) rfl #[.slice none 0 0, .int .i64 ((rd_T103 l0 0).f1)] rfl (pm121_) ?_; (refine (varint_Append.calls k _ _ ([] : List Int) ((rd_T103 l0 0).f1) t143 _ ?side1 ?side2 ?sideT A3.out).mono ?_); (case sideT => repeat (first | exact HT.out | exact TB.below HT.out HB.out | exact TB.below HT.out HBW.out | (with_reducible refine TB.alloc ?_ _) | (with_reducible refine TB.drewN ?_ _) | (with_reducible refine TB.drew ?_))); (case side1 => exact Kd.C_nil _ _); (case side2 => exact Nat.le_refl _); rintro e w5 ⟨v144, rfl, ho0, hb⟩; refine ⟨_, rfl, ?_⟩; have n0_ := Aside0.mk (Kd.R_lower ho0 (below_size (by qc0_))); have n1_ := Aside0.mk (below_step (by qc0_) hb); clear HB; have HO145 := n0_; have HB := n1_; clear n0_ n1_; (try clear hb); (try clear hb2); (try clear hk); (try clear hi); (try clear ho0); obtain ⟨Ao6, co6, eo6⟩ := Kd.R_slice HO145.out; subst eo6) | ((with_reducible refine gate_callee (f := 21) rfl ?_); refine goesL_ (some 15) rfl rfl Tryd.func21 (by kernel_rfl) rfl #[.slice Ao6 t143.length co6, .int .i64 (wrap64 ((l0.length : Int) - 1))] rfl (pm121_) ?_; (with_reducible refine (varint_Append.calls k _ _ t143 (wrap64 ((l0.length : Int) - 1)) t146 _ ?side1 ?side2 ?sideT A4.out).mono ?_); (case sideT => repeat (first | exact HT.out | exact TB.below HT.out HB.out | exact TB.below HT.out HBW.out | (with_reducible refine TB.alloc ?_ _) | (with_reducible refine TB.drewN ?_ _) | (with_reducible refine TB.drew ?_))); (case side1 => repeat (first | exact (Kd.R_reads' HO145.out).2.2 | (with_reducible refine Kd.C_alloc ?_ _) | (with_reducible refine Kd.C_drewN ?_ _) | (with_reducible refine Kd.C_drew ?_))); (case side2 => exact (Kd.R_reads' HO145.out).2.1); rintro e w7 ⟨v147, rfl, ho0, hb⟩; refine ⟨_, rfl, ?_⟩; have n0_ := Aside0.mk (Kd.R_elder' (by qR_; exact HO145.out) (Kd.R_base ho0) hb); have n1_ := Aside0.mk (Kd.R_lower (Kd.R_new' ho0 (Kd.R_lt (by qR_; exact HO145.out))) (below_size (by qc0_))); have n2_ := Aside0.mk (below_step (by qc0_) hb); clear HO145; clear HB; have HO145 := n0_; have HO148 := n1_; have HB := n2_; clear n0_ n1_ n2_; (try clear hb); (try clear hb2); (try clear hk); (try clear hi); (try clear ho0)))
  go_loopg [3, 18] k (fun kq v3 v18 w' => ∃ (x3_1 : List Int) (x18_1 : Int), v18 = .int .i64 x18_1 ∧ Aside0 (frame_acked.l0 kq l0 x3_1 l0 (l0.length : Int) x18_1 = some r) ∧ Aside0 (kq ≤ k) ∧ Aside0 (Kd.R (Kd.int .u8) 5 w' w.heap.size (fun _ => True) v3 x3_1) ∧ Aside0 (Below w.heap.size w w'))
  case atStart => exact ⟨(t146), (0), (by first | rfl | (simp; done) | (simp [*]; done)), H', ⟨Nat.le_refl _⟩, ⟨by qR_; exact Kd.R_mono HO148.out (fun _ hk => trivial)⟩, ⟨by qc0_⟩⟩
  case round =>
   clear H'
   try clear p1
   try clear q1
   try clear hx1
   try clear qi1
   try clear c2
   try clear c2b0
   try clear c2b1
   try clear p2
   try clear p6
   try clear hx142_0
   try clear hx142_1
   try clear p142
   try clear q142
   obtain ⟨x3_1, x18_1, rfl, HA, HK1, HO_3, HB⟩ := hrel
   cases gk with
   | zero => exact absurd HA.out (by simp [frame_acked.l0])
   | succ k1 =>
    have H := HA.out
    clear HA
    simp only [frame_acked.l0] at H
    by_cases c8 : x18_1 < (l0.length : Int)
    ·rw [if_pos c8] at H
     have c8b0 : decide (x18_1 < (l0.length : Int)) = true := decide_eq_true c8
     clear c8
     by_cases c9 : 0 ≤ x18_1
     ·rw [if_pos c9] at H
      have c9b0 : decide (0 ≤ x18_1) = true := decide_eq_true c9
      clear c9
      by_cases c10 : x18_1 < (l0.length : Int)
      ·rw [if_pos c10] at H
       have c10b0 : decide (x18_1 < (l0.length : Int)) = true := decide_eq_true c10
       clear c10
       by_cases c11 : x18_1 > 0
       ·rw [if_pos c11] at H
        have c11b0 : decide (0 < x18_1) = true := decide_eq_true c11
        clear c11
        obtain ⟨ji12, hji12⟩ : ∃ j_ : Int, (wrap64 (x18_1 - 1)) = j_ := ⟨_, rfl⟩
        replace H : (if 0 ≤ (ji12) then (if (ji12) < (l0.length : Int) then ((varint_Append.f k1 x3_1 (wrap64 ((wrap64 (((rd_T103 l0 (ji12)).f0) - ((rd_T103 l0 x18_1).f1))) - 2))).bind fun t152 => ((varint_Append.f k1 t152 (wrap64 (((rd_T103 l0 x18_1).f1) - ((rd_T103 l0 x18_1).f0)))).bind fun t155 => (frame_acked.l0 k1 l0 t155 l0 (l0.length : Int) (wrap64 (x18_1 + 1))))) else (none)) else (none)) = some r := by first | (rw [hji12] at H; exact H) | (simp only [hji12] at H ⊢; exact H)
        have hji12w : (IntKind.i64.wrap (x18_1 - 1)) = ji12 := (i64_w _).trans hji12
        by_cases c13 : 0 ≤ (ji12)
        ·rw [if_pos c13] at H
         have c13b0 : decide (0 ≤ (ji12)) = true := decide_eq_true c13
         clear c13
         by_cases c14 : (ji12) < (l0.length : Int)
         ·rw [if_pos c14] at H
          have c14b0 : decide ((ji12) < (l0.length : Int)) = true := decide_eq_true c14
          clear c14
          lm120_
          obtain ⟨t152, A150, H⟩ := H
          replace H : ((varint_Append.f k1 t152 (wrap64 (((rd_T103 l0 x18_1).f1) - ((rd_T103 l0 x18_1).f0)))).bind fun t155 => (frame_acked.l0 k1 l0 t155 l0 (l0.length : Int) (wrap64 (x18_1 + 1)))) = some r := H
          have A15 := Aside0.mk A150
          clear A150
          lm120_
          obtain ⟨t155, A160, H⟩ := H
          replace H : (frame_acked.l0 k1 l0 t155 l0 (l0.length : Int) (wrap64 (x18_1 + 1))) = some r := H
          have A16 := Aside0.mk A160
          clear A160
          have H' := Aside0.mk H
          clear H
          have p149 : 0 ≤ (x18_1 : Int) := of_decide_eq_true (pm124_)
          have q149 : x18_1 < (l0.length : Int) := of_decide_eq_true (pm124_)
          obtain ⟨ad149, e149, hx149_0, hx149_1⟩ := at_T103 HR0.out x18_1 p149 q149
          obtain rfl : ad142 = ad149 := (by injection e149)
          replace hx149_0 := (HB.out.cell (World.block_lt_of_cell? w _ hx149_0)).trans hx149_0
          replace hx149_1 := (HB.out.cell (World.block_lt_of_cell? w _ hx149_1)).trans hx149_1
          replace p149 := eq_true p149
          replace q149 := eq_true q149
          try go_wp2_with (first | ((with_reducible refine gate_dst (N := 5) rfl ?_); refine box_event ?hg (N := 5) ?hd (cs := #[.int .i64 0, .int .i64 0]) (t := 103) ?hr ?_; (case hd => rfl); (case hg => rfl); (case hr => first | (go_simp; done) | (go_simp; rfl)); intro gb150 hg w17 hbox hb; have n0_ := Aside0.mk (Kd.R_below (by qR_; exact HO_3.out) hb); have n1_ := Aside0.mk (below_step (by qc0_) hb); have n2_ := Aside0.mk (hbox); have n3_ := Aside0.mk ((pm125_)); have n4_ := Aside0.mk ((pm125_)); clear HO_3; clear HB; have HO_3 := n0_; have HB := n1_; have BK150 := n2_; have GW150 := n3_; have GE150 := n4_; clear n0_ n1_ n2_ n3_ n4_; clear hb hbox hg; have hcz18_0 : w17.cell? ⟨gb150, 0, none⟩ = some (.int .i64 0) := (blk_cell BK150.out 0).trans rfl; have hcz18_1 : w17.cell? ⟨gb150, 1, none⟩ = some (.int .i64 0) := (blk_cell BK150.out 1).trans rfl; have hfz18_0 := blk_frozen BK150.out 0; have hfz18_1 := blk_frozen BK150.out 1))
          have n0_ : Aside0 (Kd.R (Kd.int .u8) 5 ((w17.setCell ⟨gb150, 0, none⟩ (.int .i64 ((rd_T103 l0 x18_1).f0))).setCell ⟨gb150, 1, none⟩ (.int .i64 ((rd_T103 l0 x18_1).f1))) w.heap.size (fun _ => True) u3 x3_1) := ⟨by qR_; exact Kd.R_mono (Kd.R_far (p := ⟨gb150, 1, none⟩) (Kd.R_far (p := ⟨gb150, 0, none⟩) (Kd.R_types HO_3.out BK150.out (by decide)) (fun _ hk => hk.2) (.int .i64 ((rd_T103 l0 x18_1).f0))) (fun _ hk => hk.2) (.int .i64 ((rd_T103 l0 x18_1).f1))) (fun _ hk => trivial)⟩
          have n1_ : Aside0 (((w17.setCell ⟨gb150, 0, none⟩ (.int .i64 ((rd_T103 l0 x18_1).f0))).setCell ⟨gb150, 1, none⟩ (.int .i64 ((rd_T103 l0 x18_1).f1))).heap[gb150]? = some ((om120_))) := ⟨by qk_; refine blk_put (cs := #[.int .i64 ((rd_T103 l0 x18_1).f0), .int .i64 0]) ?_ 1 _ rfl; qk_; refine blk_put (cs := #[.int .i64 0, .int .i64 0]) ?_ 0 _ rfl; qk_; exact BK150.out⟩
          have n2_ : Aside0 (Below w.heap.size w ((w17.setCell ⟨gb150, 0, none⟩ (.int .i64 ((rd_T103 l0 x18_1).f0))).setCell ⟨gb150, 1, none⟩ (.int .i64 ((rd_T103 l0 x18_1).f1)))) := ⟨by qb1_ GE150⟩
          (try clear HO_3)
          (try clear BK150)
          (try clear HB)
          generalize ((w17.setCell ⟨gb150, 0, none⟩ (.int .i64 ((rd_T103 l0 x18_1).f0))).setCell ⟨gb150, 1, none⟩ (.int .i64 ((rd_T103 l0 x18_1).f1))) = w19 at n0_ n1_ n2_ ⊢
          have HO_3 := n0_
          have BK150 := n1_
          have HB := n2_
          clear n0_ n1_ n2_
          have n0_ := Aside0.mk (Kd.R_drew HO_3.out)
          have n1_ := Aside0.mk (blk_drew BK150.out)
          have n2_ := Aside0.mk (below_drew1 HB.out)
          clear HO_3
          clear BK150
          clear HB
          have HO_3 := n0_
          have BK150 := n1_
          have HB := n2_
          clear n0_ n1_ n2_
          have p151 : 0 ≤ ((ji12) : Int) := of_decide_eq_true (pm124_)
          have q151 : (ji12) < (l0.length : Int) := of_decide_eq_true (pm124_)
          obtain ⟨ad151, e151, hx151_0, hx151_1⟩ := at_T103 HR0.out (ji12) p151 q151
          have hw151_1 := hx151_1
          have hw151_0 := hx151_0
          obtain rfl : ad142 = ad151 := (by injection e151)
          replace hx151_0 := (HB.out.cell (World.block_lt_of_cell? w _ hx151_0)).trans hx151_0
          replace hx151_1 := (HB.out.cell (World.block_lt_of_cell? w _ hx151_1)).trans hx151_1
          replace p151 := eq_true p151
          replace q151 := eq_true q151
          obtain ⟨Ao21, co21, eo21⟩ := Kd.R_slice HO_3.out
          (first | subst eo21 | (injection eo21 with f1_ f2_ f3_; have f4_ := f1_.symm; have f5_ := f3_.symm; clear f1_ f2_ f3_; subst f4_; subst f5_))
          refine start_ (n := 13) (S := fun w' => w'.cell? ⟨gb150, 0, none⟩ = some (.int .i64 ((rd_T103 l0 x18_1).f0)) ∧ w'.cell? ⟨gb150, 1, none⟩ = some (.int .i64 ((rd_T103 l0 x18_1).f1)) ∧ w'.cell? (ad142.add (((ji12)).toNat * 2)) = some (.int .i64 ((rd_T103 l0 (ji12)).f0)) ∧ w'.cell? ⟨(ad142.add (((ji12)).toNat * 2)).block, (ad142.add (((ji12)).toNat * 2)).off + 1, none⟩ = some (.int .i64 ((rd_T103 l0 (ji12)).f1))) (ds := []) #[false, false, false, false, false, false, false, false, false, false, false, false, false] (by kernel_rfl) rfl rfl ⟨(blk_cell BK150.out 0).trans rfl, (blk_cell BK150.out 1).trans rfl, ((HB.out.cell (World.block_lt_of_cell? w _ hw151_0)).trans hw151_0), ((HB.out.cell (World.block_lt_of_cell? w _ hw151_1)).trans hw151_1)⟩ (fun hHeld => ?_); refine with_tabW frame_acked.tab7 frame_acked.bits7 (fun HT_ HW_ => ?_)
          generalize w19.drew = w20 at HO_3 BK150 HB hx151_0 hx151_1 hHeld ⊢
          refine pure_ (i := 0) (N := some 25) (v := ?_) (a' := ?_) #[true, false, false, false, false, false, false, false, false, false, false, false, false] rfl rfl (any_of HT_.out (by kernel_rfl)) (fun _ _ _ h => h) (Or.inl ⟨by rfl, ?_⟩) ?_ ?_
          rotate_left
          ·intro w'
           go_simp
           with_reducible rfl
          rotate_left
          ·qp_
           rfl
          refine pure_ (i := 1) (N := some 26) (v := ?_) (a' := ?_) #[true, true, false, false, false, false, false, false, false, false, false, false, false] rfl rfl (any_of HT_.out (by kernel_rfl)) (fun _ _ _ h => h) (Or.inl ⟨by rfl, ?_⟩) ?_ ?_
          rotate_left
          ·intro w'
           go_simp
           with_reducible rfl
          rotate_left
          ·qp_
           rfl
          refine pure_ (i := 2) (N := some 27) (v := ?_) (a' := ?_) #[true, true, true, false, false, false, false, false, false, false, false, false, false] rfl rfl (any_of HT_.out (by kernel_rfl)) (fun _ _ _ h => h) (Or.inl ⟨by rfl, ?_⟩) ?_ ?_
          rotate_left
          ·intro w'
           go_simp
           with_reducible rfl
          rotate_left
          ·qp_
           rfl
          refine pure_ (i := 3) (N := some 28) (v := ?_) (a' := ?_) #[true, true, true, true, false, false, false, false, false, false, false, false, false] rfl rfl (any_of HT_.out (by kernel_rfl)) (fun _ _ _ h => h) (Or.inl ⟨by rfl, ?_⟩) ?_ ?_
          rotate_left
          ·intro w'
           go_simp
           with_reducible rfl
          rotate_left
          ·qp_
           rfl
          refine pure_ (i := 4) (N := some 29) (v := ?_) (a' := ?_) #[true, true, true, true, true, false, false, false, false, false, false, false, false] rfl rfl (any_of HT_.out (by kernel_rfl)) (fun _ _ _ h => h) (Or.inl ⟨by rfl, ?_⟩) ?_ ?_
          rotate_left
          ·intro w'
           go_simp
           with_reducible rfl
          rotate_left
          ·qp_
           rfl
          refine pure_ (i := 5) (N := some 30) (v := ?_) (a' := ?_) #[true, true, true, true, true, true, false, false, false, false, false, false, false] rfl rfl (any_of HT_.out (by kernel_rfl)) (fun _ _ _ h => h) (Or.inl ⟨by rfl, ?_⟩) ?_ ?_
          rotate_left
          ·intro w'
           go_simp
           with_reducible rfl
          rotate_left
          ·qp_
           rfl
          refine pure_ (i := 7) (N := some 32) (v := ?_) (a' := ?_) #[true, true, true, true, true, true, false, true, false, false, false, false, false] rfl rfl (any_of HT_.out (by kernel_rfl)) (fun _ _ _ h => h) (Or.inl ⟨by rfl, ?_⟩) ?_ ?_
          rotate_left
          ·intro w'
           go_simp
           with_reducible rfl
          rotate_left
          ·qp_
           rfl
          refine take_ (i := 6) (N := some 31) (v := ?_) (a' := ?_) #[true, true, true, true, true, true, true, true, false, false, false, false, false] rfl rfl (take_ofW HT_.out HW_.out (by kernel_rfl)) (fun _ _ _ h => h) (Or.inl ⟨by rfl, ?_⟩) hHeld ?_ ?_
          rotate_left
          ·rintro w' ⟨s0, s1, s2, s3⟩
           go_simp
           with_reducible rfl
          rotate_left
          ·qp_
           rfl
          refine take_ (i := 8) (N := some 33) (v := ?_) (a' := ?_) #[true, true, true, true, true, true, true, true, true, false, false, false, false] rfl rfl (take_ofW HT_.out HW_.out (by kernel_rfl)) (fun _ _ _ h => h) (Or.inl ⟨by rfl, ?_⟩) hHeld ?_ ?_
          rotate_left
          ·rintro w' ⟨s0, s1, s2, s3⟩
           go_simp
           with_reducible rfl
          rotate_left
          ·qp_
           rfl
          refine pure_ (i := 9) (N := some 34) (v := ?_) (a' := ?_) #[true, true, true, true, true, true, true, true, true, true, false, false, false] rfl rfl (any_of HT_.out (by kernel_rfl)) (fun _ _ _ h => h) (Or.inl ⟨by rfl, ?_⟩) ?_ ?_
          rotate_left
          ·intro w'
           go_simp
           with_reducible rfl
          rotate_left
          ·qp_
           rfl
          refine pure_ (i := 10) (N := some 35) (v := ?_) (a' := ?_) #[true, true, true, true, true, true, true, true, true, true, true, false, false] rfl rfl (any_of HT_.out (by kernel_rfl)) (fun _ _ _ h => h) (Or.inl ⟨by rfl, ?_⟩) ?_ ?_
          rotate_left
          ·intro w'
           go_simp
           with_reducible rfl
          rotate_left
          ·qp_
           rfl
          refine one_ (i := 11) (N := some 36) #[true, true, true, true, true, true, true, true, true, true, true, true, false] rfl rfl (one_of HT_.out (by kernel_rfl)) (by decide) (fun K hK => ?_)
          refine goes_ Tryd.func21 (by kernel_rfl) rfl #[.slice Ao21 x3_1.length co21, .int .i64 (wrap64 ((wrap64 (((rd_T103 l0 (ji12)).f0) - ((rd_T103 l0 x18_1).f1))) - 2))] (by rfl) rfl rfl (by (try simp only [List.map_toArray, List.map_cons, List.map_nil]); first | done | (simp only [hji12]; rfl) | rfl | (simp only [List.length_drop, List.length_take]; rfl)) ?_
          with_reducible refine (varint_Append.calls k1 _ _ x3_1 (wrap64 ((wrap64 (((rd_T103 l0 (ji12)).f0) - ((rd_T103 l0 x18_1).f1))) - 2)) t152 _ ?side1 ?side2 ?sideT A15.out).mono ?_
          lm121_
          (case side1 => repeat (first | exact (Kd.R_reads' HO_3.out).2.2 | (with_reducible refine Kd.C_alloc ?_ _) | (with_reducible refine Kd.C_drewN ?_ _) | (with_reducible refine Kd.C_drew ?_)))
          (case side2 => exact (Kd.R_reads' HO_3.out).2.1)
          rintro e w22 ⟨v153, rfl, ho0, hb⟩
          refine ⟨_, rfl, ?_⟩
          have n0_ := Aside0.mk (Kd.R_elder' (by qR_; exact HO_3.out) (Kd.R_base ho0) hb)
          have n1_ := Aside0.mk (Kd.R_lower (Kd.R_new' ho0 (Kd.R_lt (by qR_; exact HO_3.out))) (below_size (by qb1_ GE150)))
          have n2_ := Aside0.mk (blk_below (g := gb150) (o := (om120_)) (by qk_; exact BK150.out) hb)
          have n3_ := Aside0.mk (below_step (by qb1_ GE150) hb)
          clear HO_3
          clear BK150
          clear HB
          have HO_3 := n0_
          have HO154 := n1_
          have BK150 := n2_
          have HB := n3_
          clear n0_ n1_ n2_ n3_
          (try clear hb)
          (try clear hb2)
          (try clear hk)
          (try clear hi)
          (try clear ho0)
          refine hK.out _ _ ⟨(blk_cell BK150.out 0).trans rfl, (blk_cell BK150.out 1).trans rfl, ((HB.out.cell (World.block_lt_of_cell? w _ hw151_0)).trans hw151_0), ((HB.out.cell (World.block_lt_of_cell? w _ hw151_1)).trans hw151_1)⟩ (fun hHeld => ?_)
          clear hK K
          refine norm_ (a' := ?_) ?_ ?_
          rotate_left
          ·show Act.put _ (some 36) _ = _
           qp_
           rfl
          refine pure_ (i := 12) (N := some 3) (v := ?_) (a' := ?_) #[true, true, true, true, true, true, true, true, true, true, true, true, true] rfl rfl (any_of HT_.out (by kernel_rfl)) (fun _ _ _ h => h) (Or.inl ⟨by rfl, ?_⟩) ?_ ?_
          rotate_left
          ·intro w'
           go_simp
           with_reducible rfl
          rotate_left
          ·qp_
           rfl
          refine done_ (done_of HT_.out (by kernel_rfl)) ?_
          have hcz23_0 : w22.cell? ⟨gb150, 0, none⟩ = some (.int .i64 ((rd_T103 l0 x18_1).f0)) := (blk_cell BK150.out 0).trans rfl
          have hcz23_1 : w22.cell? ⟨gb150, 1, none⟩ = some (.int .i64 ((rd_T103 l0 x18_1).f1)) := (blk_cell BK150.out 1).trans rfl
          have hfz23_0 := blk_frozen BK150.out 0
          have hfz23_1 := blk_frozen BK150.out 1
          obtain ⟨Ao24, co24, eo24⟩ := Kd.R_slice HO154.out
          subst eo24
          try go_wp2_with (first | ((with_reducible refine gate_callee (f := 21) rfl ?_); refine goesL_ (some 43) rfl rfl Tryd.func21 (by kernel_rfl) rfl #[.slice Ao24 t152.length co24, .int .i64 (wrap64 (((rd_T103 l0 x18_1).f1) - ((rd_T103 l0 x18_1).f0)))] rfl (pm121_) ?_; (with_reducible refine (varint_Append.calls k1 _ _ t152 (wrap64 (((rd_T103 l0 x18_1).f1) - ((rd_T103 l0 x18_1).f0))) t155 _ ?side1 ?side2 ?sideT A16.out).mono ?_); (case sideT => repeat (first | exact TB.below HT.out (by qb1_ GE150) | exact HT.out | exact TB.below HT.out HB.out | exact TB.below HT.out HBW.out | (with_reducible refine TB.alloc ?_ _) | (with_reducible refine TB.drewN ?_ _) | (with_reducible refine TB.drew ?_))); (case side1 => repeat (first | exact (Kd.R_reads' HO154.out).2.2 | (with_reducible refine Kd.C_alloc ?_ _) | (with_reducible refine Kd.C_drewN ?_ _) | (with_reducible refine Kd.C_drew ?_))); (case side2 => exact (Kd.R_reads' HO154.out).2.1); rintro e w25 ⟨v156, rfl, ho0, hb⟩; refine ⟨_, rfl, ?_⟩; have n0_ := Aside0.mk (Kd.R_elder' (by qR_; exact HO_3.out) (Kd.R_base ho0) hb); have n1_ := Aside0.mk (Kd.R_elder' (by qR_; exact HO154.out) (Kd.R_base ho0) hb); have n2_ := Aside0.mk (Kd.R_lower (Kd.R_new' (Kd.R_new' ho0 (Kd.R_lt (by qR_; exact HO_3.out))) (Kd.R_lt (by qR_; exact HO154.out))) (below_size (by qb1_ GE150))); have n3_ := Aside0.mk (blk_below (g := gb150) (o := (om120_)) (by qk_; exact BK150.out) hb); have n4_ := Aside0.mk (below_step (by qb1_ GE150) hb); clear HO_3; clear HO154; clear BK150; clear HB; have HO_3 := n0_; have HO154 := n1_; have HO157 := n2_; have BK150 := n3_; have HB := n4_; clear n0_ n1_ n2_ n3_ n4_; (try clear hb); (try clear hb2); (try clear hk); (try clear hi); (try clear ho0)))
          go_roundg k1
          case measure => have := HK1.out; omega
          case rel => exact ⟨(t155), (wrap64 (x18_1 + 1)), (by first | rfl | (simp; done) | (simp [*]; done)), H', ⟨by have := HK1.out; omega⟩, ⟨by qR_; exact Kd.R_mono HO157.out (fun _ hk => trivial)⟩, ⟨by qb1_ GE150⟩⟩
         ·rw [if_neg c14] at H
          exact absurd H (by simp)
        ·rw [if_neg c13] at H
         exact absurd H (by simp)
       ·rw [if_neg c11] at H
        have c11b0 : decide (0 < x18_1) = false := decide_eq_false c11
        clear c11
        lm120_
        obtain ⟨t158, A260, H⟩ := H
        replace H : (frame_acked.l0 k1 l0 t158 l0 (l0.length : Int) (wrap64 (x18_1 + 1))) = some r := H
        have A26 := Aside0.mk A260
        clear A260
        have H' := Aside0.mk H
        clear H
        have p149 : 0 ≤ (x18_1 : Int) := of_decide_eq_true (pm124_)
        have q149 : x18_1 < (l0.length : Int) := of_decide_eq_true (pm124_)
        obtain ⟨ad149, e149, hx149_0, hx149_1⟩ := at_T103 HR0.out x18_1 p149 q149
        obtain rfl : ad142 = ad149 := (by injection e149)
        replace hx149_0 := (HB.out.cell (World.block_lt_of_cell? w _ hx149_0)).trans hx149_0
        replace hx149_1 := (HB.out.cell (World.block_lt_of_cell? w _ hx149_1)).trans hx149_1
        replace p149 := eq_true p149
        replace q149 := eq_true q149
        go_wp2_with (first | ((with_reducible refine gate_dst (N := 5) rfl ?_); refine box_event ?hg (N := 5) ?hd (cs := #[.int .i64 0, .int .i64 0]) (t := 103) ?hr ?_; (case hd => rfl); (case hg => rfl); (case hr => first | (go_simp; done) | (go_simp; rfl)); intro gb150 hg w27 hbox hb; have n0_ := Aside0.mk (Kd.R_below (by qR_; exact HO_3.out) hb); have n1_ := Aside0.mk (below_step (by qc0_) hb); have n2_ := Aside0.mk (hbox); have n3_ := Aside0.mk ((pm125_)); have n4_ := Aside0.mk ((pm125_)); clear HO_3; clear HB; have HO_3 := n0_; have HB := n1_; have BK150 := n2_; have GW150 := n3_; have GE150 := n4_; clear n0_ n1_ n2_ n3_ n4_; clear hb hbox hg; have hcz28_0 : w27.cell? ⟨gb150, 0, none⟩ = some (.int .i64 0) := (blk_cell BK150.out 0).trans rfl; have hcz28_1 : w27.cell? ⟨gb150, 1, none⟩ = some (.int .i64 0) := (blk_cell BK150.out 1).trans rfl; have hfz28_0 := blk_frozen BK150.out 0; have hfz28_1 := blk_frozen BK150.out 1; obtain ⟨Ao29, co29, eo29⟩ := Kd.R_slice HO_3.out; subst eo29) | ((with_reducible refine gate_callee (f := 21) rfl ?_); refine goesL_ (some 43) rfl rfl Tryd.func21 (by kernel_rfl) rfl #[.slice Ao29 x3_1.length co29, .int .i64 (wrap64 (((rd_T103 l0 x18_1).f1) - ((rd_T103 l0 x18_1).f0)))] rfl (pm121_) ?_; (with_reducible refine (varint_Append.calls k1 _ _ x3_1 (wrap64 (((rd_T103 l0 x18_1).f1) - ((rd_T103 l0 x18_1).f0))) t158 _ ?side1 ?side2 ?sideT A26.out).mono ?_); (case sideT => repeat (first | exact TB.below HT.out (by qb1_ GE150) | exact HT.out | exact TB.below HT.out HB.out | exact TB.below HT.out HBW.out | (with_reducible refine TB.alloc ?_ _) | (with_reducible refine TB.drewN ?_ _) | (with_reducible refine TB.drew ?_))); (case side1 => refine (Kd.R_reads' (e := 5) (base := w.heap.size) (ok := fun k_ => True) (n := x3_1.length) (c := co29) ?_).2.2; exact (pm123_)); (case side2 => exact (Kd.R_reads' HO_3.out).2.1); rintro e w30 ⟨v159, rfl, ho0, hb⟩; refine ⟨_, rfl, ?_⟩; have n0_ := Aside0.mk (Kd.R_elder' (pm123_) (Kd.R_base ho0) hb); have n1_ := Aside0.mk (Kd.R_lower (Kd.R_new' ho0 (Kd.R_lt (pm123_))) (below_size (by qb1_ GE150))); have n2_ := Aside0.mk (blk_below (g := gb150) (o := (om120_)) (by qk_; refine blk_put (cs := #[.int .i64 ((rd_T103 l0 x18_1).f0), .int .i64 0]) ?_ 1 _ rfl; qk_; refine blk_put (cs := #[.int .i64 0, .int .i64 0]) ?_ 0 _ rfl; qk_; exact BK150.out) hb); have n3_ := Aside0.mk (below_step (by qb1_ GE150) hb); clear HO_3; clear BK150; clear HB; have HO_3 := n0_; have HO160 := n1_; have BK150 := n2_; have HB := n3_; clear n0_ n1_ n2_ n3_; (try clear hb); (try clear hb2); (try clear hk); (try clear hi); (try clear ho0)))
        go_roundg k1
        case measure => have := HK1.out; omega
        case rel => exact ⟨(t158), (wrap64 (x18_1 + 1)), (by first | rfl | (simp; done) | (simp [*]; done)), H', ⟨by have := HK1.out; omega⟩, ⟨by qR_; exact Kd.R_mono HO160.out (fun _ hk => trivial)⟩, ⟨by qb1_ GE150⟩⟩
      ·rw [if_neg c10] at H
       exact absurd H (by simp)
     ·rw [if_neg c9] at H
      exact absurd H (by simp)
    ·rw [if_neg c8] at H
     have c8b0 : decide (x18_1 < (l0.length : Int)) = false := decide_eq_false c8
     clear c8
     obtain rfl := Option.some.inj H
     go_wp2
     go_ret
     exact ⟨_, by first | rfl | (simp [errW_none, errW_some] <;> rfl) | (simp [*, errW_none, errW_some] <;> rfl), by qR_; exact HO_3.out, by qc0_⟩
 ·rw [if_neg c2] at H
  exact absurd H (by simp)
def frame_bytes.f (k : Nat) (a0_0 : Int) (a0_1 : Int) (l0_2 : List (S103)) (a0_3 : Int) (l0_4 : List Int) (a0_5 : Int) : Option (List Int) := (some (([(a0_0) % 256] : List Int) : List Int)).bind fun y162 => (pm120_)
theorem frame_bytes.mono : ∀ a0 a1 a2 a3 a4 a5 k, LeO (frame_bytes.f k a0 a1 a2 a3 a4 a5) (frame_bytes.f (k + 1) a0 a1 a2 a3 a4 a5) := by
 intro a0 a1 a2 a3 a4 a5 k
 unfold frame_bytes.f
 repeat' first
   | (with_reducible exact frame_acked.mono _ _)
   | (with_reducible exact varint_Append.mono _ _ _)
   | (with_reducible exact varint_Give.mono _ _ _)
   | (with_reducible exact LeO.refl _)
   | (with_reducible exact LeO.none _)
   | (with_reducible refine LeO.ite ?_ ?_)
   | (with_reducible refine LeO.bind ?_ (fun _ => ?_))
   | exact frame_acked.mono _ _
   | exact varint_Append.mono _ _ _
   | exact varint_Give.mono _ _ _
   | exact LeO.none _
   | refine LeO.ite ?_ ?_
   | refine LeO.bind ?_ (fun _ => ?_)
def frame_bytes.T8 : Bool × List (List Nat × List Nat) := (true, [([], []), ([], []), ([1], [1]), ([0, 2], [0, 2]), ([], []), ([4], [4]), ([3, 5, 3], [3, 5]), ([6, 6, 0, 1, 2, 3, 4, 5, 6], [6])])
def frame_bytes.B8 : List Nat := [0, 0, 2, 7, 0, 16, 63, 127]
theorem frame_bytes.tab8 : rtab .any (opsOf Tryd.f68 8) = frame_bytes.T8 := by kernel_rfl
theorem frame_bytes.bits8 : waitsOk frame_bytes.T8.2 frame_bytes.B8 = true := by kernel_rfl
def frame_bytes.T12 : Bool × List (List Nat × List Nat) := (true, [([], []), ([], []), ([1], [1]), ([0, 2], [0, 2]), ([], []), ([4], [4]), ([5, 3], [5]), ([3, 6, 6], [3, 6]), ([7, 7, 0, 1, 2, 3, 4, 5, 6, 7], [7])])
def frame_bytes.B12 : List Nat := [0, 0, 2, 7, 0, 16, 63, 127, 255]
theorem frame_bytes.tab12 : rtab .any (opsOf Tryd.f68 12) = frame_bytes.T12 := by kernel_rfl
theorem frame_bytes.bits12 : waitsOk frame_bytes.T12.2 frame_bytes.B12 = true := by kernel_rfl
set_option maxHeartbeats 8000000 in
set_option maxRecDepth 100000 in
theorem frame_bytes.calls (k : Nat) (a0_0 : Int) (a0_1 : Int) (A0_2 : Option Addr) (c0_2 : Nat) (l0_2 : List (S103)) (a0_3 : Int) (A0_4 : Option Addr) (c0_4 : Nat) (l0_4 : List Int) (a0_5 : Int) (r : List Int) (w : World) (hr0_2 : Kd.C k103 w A0_2 l0_2.length l0_2) (hc0_2 : l0_2.length ≤ c0_2) (hr0_4 : Kd.C (Kd.int .u8) w A0_4 l0_4.length l0_4) (hc0_4 : l0_4.length ≤ c0_4) (ht : TB w) (h : frame_bytes.f k a0_0 a0_1 l0_2 a0_3 l0_4 a0_5 = some r) :
  Calls Tryd.prog 68 #[.agg #[.int .i64 a0_0, .int .i64 a0_1, .slice A0_2 l0_2.length c0_2, .int .i64 a0_3, .slice A0_4 l0_4.length c0_4, .int .i64 a0_5]] w fun e w' => ∃ v0_ : Value, e = .returned (v0_) ∧ Kd.R (Kd.int .u8) 5 w' w.heap.size (fun _ => True) v0_ r ∧ Below w.heap.size w w' := by
 have HT := Aside0.mk ht
 clear ht
 have hu58 := Tryd.underlying58
 have HR0_2 := Aside0.mk hr0_2
 have HC0_2 := Aside0.mk hc0_2
 clear hr0_2 hc0_2
 have HR0_4 := Aside0.mk hr0_4
 have HC0_4 := Aside0.mk hc0_4
 clear hr0_4 hc0_4
 have HB := Aside0.mk (Below.refl w.heap.size w)
 have H : ((some (([(a0_0) % 256] : List Int) : List Int)).bind fun y162 => (pm120_)) = some r := h
 clear h
 obtain ⟨y162, hy162⟩ : ∃ y_ : List Int, y_ = (([(a0_0) % 256] : List Int)) := ⟨_, rfl⟩
 replace H : (pm120_) = some r := by first | (rw [hy162]; with_reducible exact H) | (have H2_ := (Option.bind_some _ _).symm.trans H; rw [hy162]; with_reducible exact H2_) | (have H2_ := (Option.bind_some _ _).symm.trans H; with_reducible exact H2_) | with_reducible exact H | (rw [hy162]; exact H) | exact H
 have Ny162 := Aside0.mk hy162
 clear hy162
 by_cases c2 : a0_0 = 0
 ·rw [if_pos c2] at H
  have c2b0 : (a0_0 == 0) = true := beq_iff_eq.mpr c2
  have c2b1 : (a0_0 != 0) = false := bne_eq_false_iff_eq.mpr c2
  clear c2
  by_cases c3 : 0 ≤ a0_1
  ·rw [if_pos c3] at H
   have c3b0 := eq_true c3
   have c3b1 : decide (0 ≤ a0_1) = true := decide_eq_true c3
   clear c3
   by_cases c4 : (a0_1 : Int).toNat ≤ 281474976710656
   ·rw [if_pos c4] at H
    have c4b0 := eq_true c4
    have c4b1 : decide ((a0_1 : Int).toNat ≤ 281474976710656) = true := decide_eq_true c4
    clear c4
    obtain ⟨y165, hy165⟩ : ∃ y_ : List Int, y_ = (List.replicate (a0_1 : Int).toNat 0) := ⟨_, rfl⟩
    replace H : (some y165) = some r := by first | (rw [hy165]; with_reducible exact H) | (have H2_ := (Option.bind_some _ _).symm.trans H; rw [hy165]; with_reducible exact H2_) | (have H2_ := (Option.bind_some _ _).symm.trans H; with_reducible exact H2_) | with_reducible exact H | (rw [hy165]; exact H) | exact H
    have Ny165 := Aside0.mk hy165
    clear hy165
    obtain rfl := Option.some.inj H
    go_enter Tryd.func68, Tryd.ntmps68
    go_wp2_with (first | ((with_reducible refine gate_dst (N := 1) rfl ?_); refine box_event ?hg (N := 1) ?hd (cs := #[.int .i64 a0_0, .int .i64 a0_1, .slice A0_2 l0_2.length c0_2, .int .i64 a0_3, .slice A0_4 l0_4.length c0_4, .int .i64 a0_5]) (t := 58) ?hr ?_; (case hd => rfl); (case hg => rfl); (case hr => first | (go_simp; done) | (go_simp; rfl)); intro gb161 hg w5 hbox hb; have n0_ := Aside0.mk (below_step (by qc0_) hb); have n1_ := Aside0.mk (hbox); have n2_ := Aside0.mk ((pm122_)); have n3_ := Aside0.mk ((pm122_)); clear HB; have HB := n0_; have BK161 := n1_; have GW161 := n2_; have GE161 := n3_; clear n0_ n1_ n2_ n3_; clear hb hbox hg; have hcz6_0 : w5.cell? ⟨gb161, 0, none⟩ = some (.int .i64 a0_0) := (blk_cell BK161.out 0).trans rfl; have hcz6_1 : w5.cell? ⟨gb161, 1, none⟩ = some (.int .i64 a0_1) := (blk_cell BK161.out 1).trans rfl; have hcz6_2 : w5.cell? ⟨gb161, 2, none⟩ = some (.slice A0_2 l0_2.length c0_2) := (blk_cell BK161.out 2).trans rfl; have hcz6_3 : w5.cell? ⟨gb161, 3, none⟩ = some (.int .i64 a0_3) := (blk_cell BK161.out 3).trans rfl; have hcz6_4 : w5.cell? ⟨gb161, 4, none⟩ = some (.slice A0_4 l0_4.length c0_4) := (blk_cell BK161.out 4).trans rfl; have hcz6_5 : w5.cell? ⟨gb161, 5, none⟩ = some (.int .i64 a0_5) := (blk_cell BK161.out 5).trans rfl; have hfz6_0 := blk_frozen BK161.out 0; have hfz6_1 := blk_frozen BK161.out 1; have hfz6_2 := blk_frozen BK161.out 2; have hfz6_3 := blk_frozen BK161.out 3; have hfz6_4 := blk_frozen BK161.out 4; have hfz6_5 := blk_frozen BK161.out 5) | ((with_reducible refine gate_dst (N := 7) rfl ?_); refine Kd.R_lit (Kd.int .u8) _ 5 ?hg (N := 7) ?hd (xs := ([(a0_0) % 256] : List Int)) (inner := [.int .u8 ((a0_0) % 256)]) (ok := fun _ => True) (okp := fun _ => True) ?hr ?hp (fun _ hk => hk) trivial (Below.refl _ _) (Nat.le_refl _) (by simp) ?_; (case hd => rfl); (case hg => rfl); (case hr => first | (go_simp; done) | (go_simp; rfl)); (case hp => exact (Reps.one (show Kd.M (Kd.int .u8) _ _ _ ((a0_0) % 256) [.int .u8 ((a0_0) % 256)] from rfl) (Reps.none _ _))); intro v163 w7 ho8 hb hg_ hnew_; clear hg_ hnew_; (first | rw [← Ny162.out] at ho8 | (simp only [Int.reduceToNat] at ho8; rw [← Ny162.out] at ho8)); have n0_ := Aside0.mk (Kd.R_lower ho8 (below_size (by qb1_ GE161))); have n1_ := Aside0.mk (blk_below (g := gb161) (o := (om121_)) (by qk_; exact BK161.out) hb); have n2_ := Aside0.mk (below_step (by qb1_ GE161) hb); clear BK161; clear HB; have HO164 := n0_; have BK161 := n1_; have HB := n2_; clear n0_ n1_ n2_; clear hb ho8; have hcz9_0 : w7.cell? ⟨gb161, 0, none⟩ = some (.int .i64 a0_0) := (blk_cell BK161.out 0).trans rfl; have hcz9_1 : w7.cell? ⟨gb161, 1, none⟩ = some (.int .i64 a0_1) := (blk_cell BK161.out 1).trans rfl; have hcz9_2 : w7.cell? ⟨gb161, 2, none⟩ = some (.slice A0_2 l0_2.length c0_2) := (blk_cell BK161.out 2).trans rfl; have hcz9_3 : w7.cell? ⟨gb161, 3, none⟩ = some (.int .i64 a0_3) := (blk_cell BK161.out 3).trans rfl; have hcz9_4 : w7.cell? ⟨gb161, 4, none⟩ = some (.slice A0_4 l0_4.length c0_4) := (blk_cell BK161.out 4).trans rfl; have hcz9_5 : w7.cell? ⟨gb161, 5, none⟩ = some (.int .i64 a0_5) := (blk_cell BK161.out 5).trans rfl; have hfz9_0 := blk_frozen BK161.out 0; have hfz9_1 := blk_frozen BK161.out 1; have hfz9_2 := blk_frozen BK161.out 2; have hfz9_3 := blk_frozen BK161.out 3; have hfz9_4 := blk_frozen BK161.out 4; have hfz9_5 := blk_frozen BK161.out 5) | ((with_reducible refine gate_dst (N := 14) rfl ?_); refine Kd.R_make (Kd.int .u8) _ 5 rfl (N := 14) rfl 22 _ _ rfl a0_1 rfl rfl Tryd.underlying22 (.int .u8 0) 1 info5 rfl (by decide) (by omega) 0 (ok := fun _ => True) (okp := fun _ => True) rfl (fun _ hk => hk) trivial (of_decide_eq_true (pm124_)) (Nat.le_trans (Nat.mul_le_mul_right _ (of_decide_eq_true (pm124_) : a0_1.toNat ≤ 281474976710656)) (by omega)) (Below.refl _ _) (Nat.le_refl _) ?_; intro v166 w10 ho11 hb hg_ hnew_; clear hg_ hnew_; (first | rw [← Ny165.out] at ho11 | (simp only [Int.reduceToNat] at ho11; rw [← Ny165.out] at ho11)); have n0_ := Aside0.mk (Kd.R_elder' (by qR_; exact HO164.out) (Kd.R_base ho11) hb); have n1_ := Aside0.mk (Kd.R_lower (Kd.R_new' ho11 (Kd.R_lt (by qR_; exact HO164.out))) (below_size (by qb1_ GE161))); have n2_ := Aside0.mk (blk_below (g := gb161) (o := (om121_)) (by qk_; exact BK161.out) hb); have n3_ := Aside0.mk (below_step (by qb1_ GE161) hb); clear HO164; clear BK161; clear HB; have HO164 := n0_; have HO167 := n1_; have BK161 := n2_; have HB := n3_; clear n0_ n1_ n2_ n3_; clear hb ho11))
    go_ret
    exact ⟨_, by first | rfl | (simp [errW_none, errW_some] <;> rfl) | (simp [*, errW_none, errW_some] <;> rfl), by qR_; exact Kd.R_mono HO167.out (fun _ hk => trivial), by qb1_ GE161⟩
   ·rw [if_neg c4] at H
    exact absurd H (by simp)
  ·rw [if_neg c3] at H
   exact absurd H (by simp)
 ·rw [if_neg c2] at H
  have c2b0 : (a0_0 == 0) = false := beq_eq_false_iff_ne.mpr c2
  have c2b1 : (a0_0 != 0) = true := bne_iff_ne.mpr c2
  by_cases c12 : a0_0 = 2
  ·rw [if_pos c12] at H
   have c12b0 : (a0_0 == 2) = true := beq_iff_eq.mpr c12
   have c12b1 : (a0_0 != 2) = false := bne_eq_false_iff_eq.mpr c12
   clear c12
   lm120_
   obtain ⟨t168, A130, H⟩ := H
   replace H : (if y162.length + t168.length < 140737488355328 then (some (y162 ++ t168)) else (none)) = some r := H
   have A13 := Aside0.mk A130
   clear A130
   by_cases c14 : y162.length + t168.length < 140737488355328
   ·rw [if_pos c14] at H
    have LMc14 := Aside0.mk c14
    clear c14
    obtain ⟨y171, hy171⟩ : ∃ y_ : List Int, y_ = (y162 ++ t168) := ⟨_, rfl⟩
    replace H : (some y171) = some r := by first | (rw [hy171]; with_reducible exact H) | (have H2_ := (Option.bind_some _ _).symm.trans H; rw [hy171]; with_reducible exact H2_) | (have H2_ := (Option.bind_some _ _).symm.trans H; with_reducible exact H2_) | with_reducible exact H | (rw [hy171]; exact H) | exact H
    have Ny171 := Aside0.mk hy171
    clear hy171
    obtain rfl := Option.some.inj H
    go_enter Tryd.func68, Tryd.ntmps68
    go_wp2_with (first | ((with_reducible refine gate_dst (N := 1) rfl ?_); refine box_event ?hg (N := 1) ?hd (cs := #[.int .i64 a0_0, .int .i64 a0_1, .slice A0_2 l0_2.length c0_2, .int .i64 a0_3, .slice A0_4 l0_4.length c0_4, .int .i64 a0_5]) (t := 58) ?hr ?_; (case hd => rfl); (case hg => rfl); (case hr => first | (go_simp; done) | (go_simp; rfl)); intro gb161 hg w15 hbox hb; have n0_ := Aside0.mk (below_step (by qc0_) hb); have n1_ := Aside0.mk (hbox); have n2_ := Aside0.mk ((pm122_)); have n3_ := Aside0.mk ((pm122_)); clear HB; have HB := n0_; have BK161 := n1_; have GW161 := n2_; have GE161 := n3_; clear n0_ n1_ n2_ n3_; clear hb hbox hg; have hcz16_0 : w15.cell? ⟨gb161, 0, none⟩ = some (.int .i64 a0_0) := (blk_cell BK161.out 0).trans rfl; have hcz16_1 : w15.cell? ⟨gb161, 1, none⟩ = some (.int .i64 a0_1) := (blk_cell BK161.out 1).trans rfl; have hcz16_2 : w15.cell? ⟨gb161, 2, none⟩ = some (.slice A0_2 l0_2.length c0_2) := (blk_cell BK161.out 2).trans rfl; have hcz16_3 : w15.cell? ⟨gb161, 3, none⟩ = some (.int .i64 a0_3) := (blk_cell BK161.out 3).trans rfl; have hcz16_4 : w15.cell? ⟨gb161, 4, none⟩ = some (.slice A0_4 l0_4.length c0_4) := (blk_cell BK161.out 4).trans rfl; have hcz16_5 : w15.cell? ⟨gb161, 5, none⟩ = some (.int .i64 a0_5) := (blk_cell BK161.out 5).trans rfl; have hfz16_0 := blk_frozen BK161.out 0; have hfz16_1 := blk_frozen BK161.out 1; have hfz16_2 := blk_frozen BK161.out 2; have hfz16_3 := blk_frozen BK161.out 3; have hfz16_4 := blk_frozen BK161.out 4; have hfz16_5 := blk_frozen BK161.out 5) | ((with_reducible refine gate_dst (N := 7) rfl ?_); refine Kd.R_lit (Kd.int .u8) _ 5 ?hg (N := 7) ?hd (xs := ([(a0_0) % 256] : List Int)) (inner := [.int .u8 ((a0_0) % 256)]) (ok := fun _ => True) (okp := fun _ => True) ?hr ?hp (fun _ hk => hk) trivial (Below.refl _ _) (Nat.le_refl _) (by simp) ?_; (case hd => rfl); (case hg => rfl); (case hr => first | (go_simp; done) | (go_simp; rfl)); (case hp => exact (Reps.one (show Kd.M (Kd.int .u8) _ _ _ ((a0_0) % 256) [.int .u8 ((a0_0) % 256)] from rfl) (Reps.none _ _))); intro v163 w17 ho18 hb hg_ hnew_; clear hg_ hnew_; (first | rw [← Ny162.out] at ho18 | (simp only [Int.reduceToNat] at ho18; rw [← Ny162.out] at ho18)); have n0_ := Aside0.mk (Kd.R_lower ho18 (below_size (by qb1_ GE161))); have n1_ := Aside0.mk (blk_below (g := gb161) (o := (om121_)) (by qk_; exact BK161.out) hb); have n2_ := Aside0.mk (below_step (by qb1_ GE161) hb); clear BK161; clear HB; have HO164 := n0_; have BK161 := n1_; have HB := n2_; clear n0_ n1_ n2_; clear hb ho18; have hcz19_0 : w17.cell? ⟨gb161, 0, none⟩ = some (.int .i64 a0_0) := (blk_cell BK161.out 0).trans rfl; have hcz19_1 : w17.cell? ⟨gb161, 1, none⟩ = some (.int .i64 a0_1) := (blk_cell BK161.out 1).trans rfl; have hcz19_2 : w17.cell? ⟨gb161, 2, none⟩ = some (.slice A0_2 l0_2.length c0_2) := (blk_cell BK161.out 2).trans rfl; have hcz19_3 : w17.cell? ⟨gb161, 3, none⟩ = some (.int .i64 a0_3) := (blk_cell BK161.out 3).trans rfl; have hcz19_4 : w17.cell? ⟨gb161, 4, none⟩ = some (.slice A0_4 l0_4.length c0_4) := (blk_cell BK161.out 4).trans rfl; have hcz19_5 : w17.cell? ⟨gb161, 5, none⟩ = some (.int .i64 a0_5) := (blk_cell BK161.out 5).trans rfl; have hfz19_0 := blk_frozen BK161.out 0; have hfz19_1 := blk_frozen BK161.out 1; have hfz19_2 := blk_frozen BK161.out 2; have hfz19_3 := blk_frozen BK161.out 3; have hfz19_4 := blk_frozen BK161.out 4; have hfz19_5 := blk_frozen BK161.out 5) | ((with_reducible refine gate_callee (f := 88) rfl ?_); refine goesL_ (some 20) rfl rfl Tryd.func88 (by kernel_rfl) rfl #[.slice A0_2 l0_2.length c0_2] rfl (pm121_) ?_; (with_reducible refine (frame_acked.calls k _ _ l0_2 t168 _ ?side1 ?side2 ?sideT A13.out).mono ?_); (case sideT => repeat (first | exact TB.below HT.out (by qb1_ GE161) | exact HT.out | exact TB.below HT.out HB.out | exact TB.below HT.out HBW.out | (with_reducible refine TB.alloc ?_ _) | (with_reducible refine TB.drewN ?_ _) | (with_reducible refine TB.drew ?_))); (case side1 => repeat (first | exact (Kd.C_below HR0_2.out HB.out) | exact HR0_2.out | (with_reducible refine Kd.C_alloc ?_ _) | (with_reducible refine Kd.C_drewN ?_ _) | (with_reducible refine Kd.C_drew ?_))); (case side2 => exact HC0_2.out); rintro e w20 ⟨v169, rfl, ho0, hb⟩; refine ⟨_, rfl, ?_⟩; have n0_ := Aside0.mk (Kd.R_elder' (by qR_; exact HO164.out) (Kd.R_base ho0) hb); have n1_ := Aside0.mk (Kd.R_lower (Kd.R_new' ho0 (Kd.R_lt (by qR_; exact HO164.out))) (below_size (by qb1_ GE161))); have n2_ := Aside0.mk (blk_below (g := gb161) (o := (om121_)) (by qk_; exact BK161.out) hb); have n3_ := Aside0.mk (below_step (by qb1_ GE161) hb); clear HO164; clear BK161; clear HB; have HO164 := n0_; have HO170 := n1_; have BK161 := n2_; have HB := n3_; clear n0_ n1_ n2_ n3_; (try clear hb); (try clear hb2); (try clear hk); (try clear hi); (try clear ho0); obtain ⟨Ao22, co22, eo22⟩ := Kd.R_slice HO170.out; subst eo22) | ((with_reducible refine gate_builtin (b := .append) (xs := #[.tmp 17, .tmp 20]) rfl ?_); at_builtin; refine Kd.R_append_rows (Kd.int .u8) (w0 := w) w.heap.size rfl (.tmp 17) (.tmp 20) 22 5 (.int .u8 0) 1 rfl Tryd.underlying22 info5 rfl (by decide) (by omega) v163 y162 t168 _ _ _ (fun k_ => some k_ ≠ (.slice Ao22 t168.length co22 : Value).ownBlock) (fun _ => False) rfl rfl ?aO ?aR (fun _ _ h => h) (fun _ h => h.elim) ?aF ?aB ?aS ?aL ?_; (case aR => repeat (first | exact (Kd.R_reads' HO170.out).2.2 | (with_reducible refine Kd.C_alloc ?_ _) | (with_reducible refine Kd.C_drewN ?_ _) | (with_reducible refine Kd.C_drew ?_))); (case aB => exact (by qb1_ GE161)); (case aF => exact (fun k_ hk => Kd.fresh' (Kd.R_lt (by qR_; exact HO170.out)) k_ hk)); (case aO => exact (by qR_; exact Kd.R_mono HO164.out (fun _ hk => hk.2))); (case aS => exact (below_size (by qb1_ GE161))); (case aL => have := LMc14.out; omega); intro v172 w21 ho hb hg hat; rw [← Ny171.out] at ho; have n0_ := Aside0.mk (blk_grown (g := gb161) (o := (om121_)) (by qk_; exact BK161.out) hg (Kd.R_ne HO164.out BK161.out (by decide))); have n1_ := Aside0.mk (Kd.R_after (ok := (fun _ => True)) (by qR_; exact HO170.out) hg hat); have n2_ := Aside0.mk (hb); have n3_ := Aside0.mk (ho); clear BK161; clear HO170; clear HB; clear HO164; have BK161 := n0_; have HO170 := n1_; have HB := n2_; have HO173 := n3_; clear n0_ n1_ n2_ n3_; clear ho hb hg hat))
    go_ret
    exact ⟨_, by first | rfl | (simp [errW_none, errW_some] <;> rfl) | (simp [*, errW_none, errW_some] <;> rfl), by qR_; exact Kd.R_mono HO173.out (fun _ hk => trivial), by qb1_ GE161⟩
   ·rw [if_neg c14] at H
    exact absurd H (by simp)
  ·rw [if_neg c12] at H
   have c12b0 : (a0_0 == 2) = false := beq_eq_false_iff_ne.mpr c12
   have c12b1 : (a0_0 != 2) = true := bne_iff_ne.mpr c12
   by_cases c23 : a0_0 = 6
   ·rw [if_pos c23] at H
    have c23b0 : (a0_0 == 6) = true := beq_iff_eq.mpr c23
    have c23b1 : (a0_0 != 6) = false := bne_eq_false_iff_eq.mpr c23
    clear c23
    lm120_
    obtain ⟨t174, A240, H⟩ := H
    replace H : ((varint_Give.f k t174 l0_4).bind fun t177 => (some t177)) = some r := H
    have A24 := Aside0.mk A240
    clear A240
    lm120_
    obtain ⟨t177, A250, H⟩ := H
    replace H : (some t177) = some r := H
    have A25 := Aside0.mk A250
    clear A250
    obtain rfl := Option.some.inj H
    go_enter Tryd.func68, Tryd.ntmps68
    try go_wp2_with (first | ((with_reducible refine gate_dst (N := 1) rfl ?_); refine box_event ?hg (N := 1) ?hd (cs := #[.int .i64 a0_0, .int .i64 a0_1, .slice A0_2 l0_2.length c0_2, .int .i64 a0_3, .slice A0_4 l0_4.length c0_4, .int .i64 a0_5]) (t := 58) ?hr ?_; (case hd => rfl); (case hg => rfl); (case hr => first | (go_simp; done) | (go_simp; rfl)); intro gb161 hg w26 hbox hb; have n0_ := Aside0.mk (below_step (by qc0_) hb); have n1_ := Aside0.mk (hbox); have n2_ := Aside0.mk ((pm122_)); have n3_ := Aside0.mk ((pm122_)); clear HB; have HB := n0_; have BK161 := n1_; have GW161 := n2_; have GE161 := n3_; clear n0_ n1_ n2_ n3_; clear hb hbox hg; have hcz27_0 : w26.cell? ⟨gb161, 0, none⟩ = some (.int .i64 a0_0) := (blk_cell BK161.out 0).trans rfl; have hcz27_1 : w26.cell? ⟨gb161, 1, none⟩ = some (.int .i64 a0_1) := (blk_cell BK161.out 1).trans rfl; have hcz27_2 : w26.cell? ⟨gb161, 2, none⟩ = some (.slice A0_2 l0_2.length c0_2) := (blk_cell BK161.out 2).trans rfl; have hcz27_3 : w26.cell? ⟨gb161, 3, none⟩ = some (.int .i64 a0_3) := (blk_cell BK161.out 3).trans rfl; have hcz27_4 : w26.cell? ⟨gb161, 4, none⟩ = some (.slice A0_4 l0_4.length c0_4) := (blk_cell BK161.out 4).trans rfl; have hcz27_5 : w26.cell? ⟨gb161, 5, none⟩ = some (.int .i64 a0_5) := (blk_cell BK161.out 5).trans rfl; have hfz27_0 := blk_frozen BK161.out 0; have hfz27_1 := blk_frozen BK161.out 1; have hfz27_2 := blk_frozen BK161.out 2; have hfz27_3 := blk_frozen BK161.out 3; have hfz27_4 := blk_frozen BK161.out 4; have hfz27_5 := blk_frozen BK161.out 5) | ((with_reducible refine gate_dst (N := 7) rfl ?_); refine Kd.R_lit (Kd.int .u8) _ 5 ?hg (N := 7) ?hd (xs := ([(a0_0) % 256] : List Int)) (inner := [.int .u8 ((a0_0) % 256)]) (ok := fun _ => True) (okp := fun _ => True) ?hr ?hp (fun _ hk => hk) trivial (Below.refl _ _) (Nat.le_refl _) (by simp) ?_; (case hd => rfl); (case hg => rfl); (case hr => first | (go_simp; done) | (go_simp; rfl)); (case hp => exact (Reps.one (show Kd.M (Kd.int .u8) _ _ _ ((a0_0) % 256) [.int .u8 ((a0_0) % 256)] from rfl) (Reps.none _ _))); intro v163 w28 ho29 hb hg_ hnew_; clear hg_ hnew_; (first | rw [← Ny162.out] at ho29 | (simp only [Int.reduceToNat] at ho29; rw [← Ny162.out] at ho29)); have n0_ := Aside0.mk (Kd.R_lower ho29 (below_size (by qb1_ GE161))); have n1_ := Aside0.mk (blk_below (g := gb161) (o := (om121_)) (by qk_; exact BK161.out) hb); have n2_ := Aside0.mk (below_step (by qb1_ GE161) hb); clear BK161; clear HB; have HO164 := n0_; have BK161 := n1_; have HB := n2_; clear n0_ n1_ n2_; clear hb ho29; have hcz30_0 : w28.cell? ⟨gb161, 0, none⟩ = some (.int .i64 a0_0) := (blk_cell BK161.out 0).trans rfl; have hcz30_1 : w28.cell? ⟨gb161, 1, none⟩ = some (.int .i64 a0_1) := (blk_cell BK161.out 1).trans rfl; have hcz30_2 : w28.cell? ⟨gb161, 2, none⟩ = some (.slice A0_2 l0_2.length c0_2) := (blk_cell BK161.out 2).trans rfl; have hcz30_3 : w28.cell? ⟨gb161, 3, none⟩ = some (.int .i64 a0_3) := (blk_cell BK161.out 3).trans rfl; have hcz30_4 : w28.cell? ⟨gb161, 4, none⟩ = some (.slice A0_4 l0_4.length c0_4) := (blk_cell BK161.out 4).trans rfl; have hcz30_5 : w28.cell? ⟨gb161, 5, none⟩ = some (.int .i64 a0_5) := (blk_cell BK161.out 5).trans rfl; have hfz30_0 := blk_frozen BK161.out 0; have hfz30_1 := blk_frozen BK161.out 1; have hfz30_2 := blk_frozen BK161.out 2; have hfz30_3 := blk_frozen BK161.out 3; have hfz30_4 := blk_frozen BK161.out 4; have hfz30_5 := blk_frozen BK161.out 5))
    have n0_ := Aside0.mk (Kd.R_drew HO164.out)
    have n1_ := Aside0.mk (blk_drew BK161.out)
    have n2_ := Aside0.mk (below_drew1 HB.out)
    clear HO164
    clear BK161
    clear HB
    have HO164 := n0_
    have BK161 := n1_
    have HB := n2_
    clear n0_ n1_ n2_
    obtain ⟨Ao32, co32, eo32⟩ := Kd.R_slice HO164.out
    (first | subst eo32 | (injection eo32 with f1_ f2_ f3_; have f4_ := f1_.symm; have f5_ := f3_.symm; clear f1_ f2_ f3_; subst f4_; subst f5_))
    refine start_ (n := 8) (S := fun w' => w'.cell? ⟨gb161, 0, none⟩ = some (.int .i64 a0_0) ∧ w'.cell? ⟨gb161, 1, none⟩ = some (.int .i64 a0_1) ∧ w'.cell? ⟨gb161, 2, none⟩ = some (.slice A0_2 l0_2.length c0_2) ∧ w'.cell? ⟨gb161, 3, none⟩ = some (.int .i64 a0_3) ∧ w'.cell? ⟨gb161, 4, none⟩ = some (.slice A0_4 l0_4.length c0_4) ∧ w'.cell? ⟨gb161, 5, none⟩ = some (.int .i64 a0_5)) (ds := []) #[false, false, false, false, false, false, false, false] (by kernel_rfl) rfl rfl ⟨(blk_cell BK161.out 0).trans rfl, (blk_cell BK161.out 1).trans rfl, (blk_cell BK161.out 2).trans rfl, (blk_cell BK161.out 3).trans rfl, (blk_cell BK161.out 4).trans rfl, (blk_cell BK161.out 5).trans rfl⟩ (fun hHeld => ?_); refine with_tabW frame_bytes.tab8 frame_bytes.bits8 (fun HT_ HW_ => ?_)
    generalize w28.drew = w31 at HO164 BK161 HB hHeld ⊢
    refine pure_ (i := 0) (N := some 24) (v := ?_) (a' := ?_) #[true, false, false, false, false, false, false, false] rfl rfl (any_of HT_.out (by kernel_rfl)) (fun _ _ _ h => h) (Or.inl ⟨by rfl, ?_⟩) ?_ ?_
    rotate_left
    ·intro w'
     go_simp
     with_reducible rfl
    rotate_left
    ·qp_
     rfl
    refine pure_ (i := 1) (N := some 25) (v := ?_) (a' := ?_) #[true, true, false, false, false, false, false, false] rfl rfl (any_of HT_.out (by kernel_rfl)) (fun _ _ _ h => h) (Or.inl ⟨by rfl, ?_⟩) ?_ ?_
    rotate_left
    ·intro w'
     go_simp
     with_reducible rfl
    rotate_left
    ·qp_
     rfl
    refine pure_ (i := 4) (N := some 28) (v := ?_) (a' := ?_) #[true, true, false, false, true, false, false, false] rfl rfl (any_of HT_.out (by kernel_rfl)) (fun _ _ _ h => h) (Or.inl ⟨by rfl, ?_⟩) ?_ ?_
    rotate_left
    ·intro w'
     go_simp
     with_reducible rfl
    rotate_left
    ·qp_
     rfl
    refine take_ (i := 2) (N := some 26) (v := ?_) (a' := ?_) #[true, true, true, false, true, false, false, false] rfl rfl (take_ofW HT_.out HW_.out (by kernel_rfl)) (fun _ _ _ h => h) (Or.inl ⟨by rfl, ?_⟩) hHeld ?_ ?_
    rotate_left
    ·rintro w' ⟨s0, s1, s2, s3, s4, s5⟩
     go_simp
     with_reducible rfl
    rotate_left
    ·qp_
     rfl
    refine take_ (i := 5) (N := some 29) (v := ?_) (a' := ?_) #[true, true, true, false, true, true, false, false] rfl rfl (take_ofW HT_.out HW_.out (by kernel_rfl)) (fun _ _ _ h => h) (Or.inl ⟨by rfl, ?_⟩) hHeld ?_ ?_
    rotate_left
    ·rintro w' ⟨s0, s1, s2, s3, s4, s5⟩
     go_simp
     with_reducible rfl
    rotate_left
    ·qp_
     rfl
    refine one_ (i := 3) (N := some 27) #[true, true, true, true, true, true, false, false] rfl rfl (one_of HT_.out (by kernel_rfl)) (by decide) (fun K hK => ?_)
    refine goes_ Tryd.func21 (by kernel_rfl) rfl #[.slice Ao32 y162.length co32, .int .i64 a0_3] (by rfl) rfl rfl (pm121_) ?_
    with_reducible refine (varint_Append.calls k _ _ y162 a0_3 t174 _ ?side1 ?side2 ?sideT A24.out).mono ?_
    lm121_
    lm122_
    (case side2 => exact (Kd.R_reads' HO164.out).2.1)
    rintro e w33 ⟨v175, rfl, ho0, hb⟩
    refine ⟨_, rfl, ?_⟩
    lm123_
    have n1_ := Aside0.mk (Kd.R_lower (Kd.R_new' ho0 (Kd.R_lt (by qR_; exact HO164.out))) (below_size (by qb1_ GE161)))
    have n2_ := Aside0.mk (blk_below (g := gb161) (o := (om121_)) (by qk_; exact BK161.out) hb)
    have n3_ := Aside0.mk (below_step (by qb1_ GE161) hb)
    clear HO164
    clear BK161
    clear HB
    have HO164 := n0_
    have HO176 := n1_
    have BK161 := n2_
    have HB := n3_
    clear n0_ n1_ n2_ n3_
    (try clear hb)
    (try clear hb2)
    (try clear hk)
    (try clear hi)
    (try clear ho0)
    obtain ⟨Ao34, co34, eo34⟩ := Kd.R_slice HO176.out
    (first | subst eo34 | (injection eo34 with f1_ f2_ f3_; have f4_ := f1_.symm; have f5_ := f3_.symm; clear f1_ f2_ f3_; subst f4_; subst f5_))
    lm124_
    clear hK K
    refine norm_ (a' := ?_) ?_ ?_
    rotate_left
    ·show Act.put _ (some 27) _ = _
     qp_
     rfl
    refine one_ (i := 6) (N := some 30) #[true, true, true, true, true, true, true, false] rfl rfl (one_of HT_.out (by kernel_rfl)) (by decide) (fun K hK => ?_)
    refine goes_ Tryd.func31 (by kernel_rfl) rfl #[.slice Ao34 t174.length co34, .slice A0_4 l0_4.length c0_4] (by rfl) rfl rfl (pm121_) ?_
    with_reducible refine (varint_Give.calls k _ _ t174 _ _ l0_4 t177 _ ?side1 ?side2 ?side3 ?side4 ?sideT A25.out).mono ?_
    lm121_
    (case side1 => repeat (first | exact (Kd.R_reads' HO176.out).2.2 | (with_reducible refine Kd.C_alloc ?_ _) | (with_reducible refine Kd.C_drewN ?_ _) | (with_reducible refine Kd.C_drew ?_)))
    (case side2 => exact (Kd.R_reads' HO176.out).2.1)
    (case side3 => repeat (first | exact (Kd.C_below HR0_4.out HB.out) | exact HR0_4.out | (with_reducible refine Kd.C_alloc ?_ _) | (with_reducible refine Kd.C_drewN ?_ _) | (with_reducible refine Kd.C_drew ?_)))
    (case side4 => exact HC0_4.out)
    rintro e w35 ⟨v178, rfl, ho0, hb⟩
    refine ⟨_, rfl, ?_⟩
    lm123_
    have n1_ := Aside0.mk (Kd.R_elder' (by qR_; exact HO176.out) (Kd.R_base ho0) hb)
    have n2_ := Aside0.mk (Kd.R_lower (Kd.R_new' (Kd.R_new' ho0 (Kd.R_lt (by qR_; exact HO164.out))) (Kd.R_lt (by qR_; exact HO176.out))) (below_size (by qb1_ GE161)))
    have n3_ := Aside0.mk (blk_below (g := gb161) (o := (om121_)) (by qk_; exact BK161.out) hb)
    have n4_ := Aside0.mk (below_step (by qb1_ GE161) hb)
    clear HO164
    clear HO176
    clear BK161
    clear HB
    have HO164 := n0_
    have HO176 := n1_
    have HO179 := n2_
    have BK161 := n3_
    have HB := n4_
    clear n0_ n1_ n2_ n3_ n4_
    (try clear hb)
    (try clear hb2)
    (try clear hk)
    (try clear hi)
    (try clear ho0)
    lm124_
    clear hK K
    refine norm_ (a' := ?_) ?_ ?_
    rotate_left
    ·show Act.put _ (some 30) _ = _
     qp_
     rfl
    refine pure_ (i := 7) (N := some 2) (v := ?_) (a' := ?_) #[true, true, true, true, true, true, true, true] rfl rfl (any_of HT_.out (by kernel_rfl)) (fun _ _ _ h => h) (Or.inl ⟨by rfl, ?_⟩) ?_ ?_
    rotate_left
    ·intro w'
     go_simp
     with_reducible rfl
    rotate_left
    ·qp_
     rfl
    refine done_ (done_of HT_.out (by kernel_rfl)) ?_
    try go_wp2
    go_ret
    exact ⟨_, by first | rfl | (simp [errW_none, errW_some] <;> rfl) | (simp [*, errW_none, errW_some] <;> rfl), by qR_; exact Kd.R_mono HO179.out (fun _ hk => trivial), by qb1_ GE161⟩
   ·rw [if_neg c23] at H
    have c23b0 : (a0_0 == 6) = false := beq_eq_false_iff_ne.mpr c23
    have c23b1 : (a0_0 != 6) = true := bne_iff_ne.mpr c23
    by_cases c36 : a0_0 = 7
    ·rw [if_pos c36] at H
     have c36b0 : (a0_0 == 7) = true := beq_iff_eq.mpr c36
     have c36b1 : (a0_0 != 7) = false := bne_eq_false_iff_eq.mpr c36
     clear c36
     lm120_
     obtain ⟨t180, A370, H⟩ := H
     replace H : (if y162.length + t180.length < 140737488355328 then (some (y162 ++ t180)) else (none)) = some r := H
     have A37 := Aside0.mk A370
     clear A370
     by_cases c38 : y162.length + t180.length < 140737488355328
     ·rw [if_pos c38] at H
      have LMc38 := Aside0.mk c38
      clear c38
      obtain ⟨y183, hy183⟩ : ∃ y_ : List Int, y_ = (y162 ++ t180) := ⟨_, rfl⟩
      replace H : (some y183) = some r := by first | (rw [hy183]; with_reducible exact H) | (have H2_ := (Option.bind_some _ _).symm.trans H; rw [hy183]; with_reducible exact H2_) | (have H2_ := (Option.bind_some _ _).symm.trans H; with_reducible exact H2_) | with_reducible exact H | (rw [hy183]; exact H) | exact H
      have Ny183 := Aside0.mk hy183
      clear hy183
      obtain rfl := Option.some.inj H
      go_enter Tryd.func68, Tryd.ntmps68
      go_wp2_with (first | ((with_reducible refine gate_dst (N := 1) rfl ?_); refine box_event ?hg (N := 1) ?hd (cs := #[.int .i64 a0_0, .int .i64 a0_1, .slice A0_2 l0_2.length c0_2, .int .i64 a0_3, .slice A0_4 l0_4.length c0_4, .int .i64 a0_5]) (t := 58) ?hr ?_; (case hd => rfl); (case hg => rfl); (case hr => first | (go_simp; done) | (go_simp; rfl)); intro gb161 hg w39 hbox hb; have n0_ := Aside0.mk (below_step (by qc0_) hb); have n1_ := Aside0.mk (hbox); have n2_ := Aside0.mk ((pm122_)); have n3_ := Aside0.mk ((pm122_)); clear HB; have HB := n0_; have BK161 := n1_; have GW161 := n2_; have GE161 := n3_; clear n0_ n1_ n2_ n3_; clear hb hbox hg; have hcz40_0 : w39.cell? ⟨gb161, 0, none⟩ = some (.int .i64 a0_0) := (blk_cell BK161.out 0).trans rfl; have hcz40_1 : w39.cell? ⟨gb161, 1, none⟩ = some (.int .i64 a0_1) := (blk_cell BK161.out 1).trans rfl; have hcz40_2 : w39.cell? ⟨gb161, 2, none⟩ = some (.slice A0_2 l0_2.length c0_2) := (blk_cell BK161.out 2).trans rfl; have hcz40_3 : w39.cell? ⟨gb161, 3, none⟩ = some (.int .i64 a0_3) := (blk_cell BK161.out 3).trans rfl; have hcz40_4 : w39.cell? ⟨gb161, 4, none⟩ = some (.slice A0_4 l0_4.length c0_4) := (blk_cell BK161.out 4).trans rfl; have hcz40_5 : w39.cell? ⟨gb161, 5, none⟩ = some (.int .i64 a0_5) := (blk_cell BK161.out 5).trans rfl; have hfz40_0 := blk_frozen BK161.out 0; have hfz40_1 := blk_frozen BK161.out 1; have hfz40_2 := blk_frozen BK161.out 2; have hfz40_3 := blk_frozen BK161.out 3; have hfz40_4 := blk_frozen BK161.out 4; have hfz40_5 := blk_frozen BK161.out 5) | ((with_reducible refine gate_dst (N := 7) rfl ?_); refine Kd.R_lit (Kd.int .u8) _ 5 ?hg (N := 7) ?hd (xs := ([(a0_0) % 256] : List Int)) (inner := [.int .u8 ((a0_0) % 256)]) (ok := fun _ => True) (okp := fun _ => True) ?hr ?hp (fun _ hk => hk) trivial (Below.refl _ _) (Nat.le_refl _) (by simp) ?_; (case hd => rfl); (case hg => rfl); (case hr => first | (go_simp; done) | (go_simp; rfl)); (case hp => exact (Reps.one (show Kd.M (Kd.int .u8) _ _ _ ((a0_0) % 256) [.int .u8 ((a0_0) % 256)] from rfl) (Reps.none _ _))); intro v163 w41 ho42 hb hg_ hnew_; clear hg_ hnew_; (first | rw [← Ny162.out] at ho42 | (simp only [Int.reduceToNat] at ho42; rw [← Ny162.out] at ho42)); have n0_ := Aside0.mk (Kd.R_lower ho42 (below_size (by qb1_ GE161))); have n1_ := Aside0.mk (blk_below (g := gb161) (o := (om121_)) (by qk_; exact BK161.out) hb); have n2_ := Aside0.mk (below_step (by qb1_ GE161) hb); clear BK161; clear HB; have HO164 := n0_; have BK161 := n1_; have HB := n2_; clear n0_ n1_ n2_; clear hb ho42; have hcz43_0 : w41.cell? ⟨gb161, 0, none⟩ = some (.int .i64 a0_0) := (blk_cell BK161.out 0).trans rfl; have hcz43_1 : w41.cell? ⟨gb161, 1, none⟩ = some (.int .i64 a0_1) := (blk_cell BK161.out 1).trans rfl; have hcz43_2 : w41.cell? ⟨gb161, 2, none⟩ = some (.slice A0_2 l0_2.length c0_2) := (blk_cell BK161.out 2).trans rfl; have hcz43_3 : w41.cell? ⟨gb161, 3, none⟩ = some (.int .i64 a0_3) := (blk_cell BK161.out 3).trans rfl; have hcz43_4 : w41.cell? ⟨gb161, 4, none⟩ = some (.slice A0_4 l0_4.length c0_4) := (blk_cell BK161.out 4).trans rfl; have hcz43_5 : w41.cell? ⟨gb161, 5, none⟩ = some (.int .i64 a0_5) := (blk_cell BK161.out 5).trans rfl; have hfz43_0 := blk_frozen BK161.out 0; have hfz43_1 := blk_frozen BK161.out 1; have hfz43_2 := blk_frozen BK161.out 2; have hfz43_3 := blk_frozen BK161.out 3; have hfz43_4 := blk_frozen BK161.out 4; have hfz43_5 := blk_frozen BK161.out 5) | ((with_reducible refine gate_callee (f := 65) rfl ?_); refine goesL_ (some 36) rfl rfl Tryd.func65 (by kernel_rfl) rfl #[.int .i64 a0_5] rfl (pm121_) ?_; (with_reducible refine (ideal_Number.calls a0_5 t180 _ A37.out).mono ?_); rintro e w44 ⟨v181, rfl, ho0, hb⟩; refine ⟨_, rfl, ?_⟩; have n0_ := Aside0.mk (Kd.R_elder' (by qR_; exact HO164.out) (Kd.R_base ho0) hb); have n1_ := Aside0.mk (Kd.R_lower (Kd.R_new' ho0 (Kd.R_lt (by qR_; exact HO164.out))) (below_size (by qb1_ GE161))); have n2_ := Aside0.mk (blk_below (g := gb161) (o := (om121_)) (by qk_; exact BK161.out) hb); have n3_ := Aside0.mk (below_step (by qb1_ GE161) hb); clear HO164; clear BK161; clear HB; have HO164 := n0_; have HO182 := n1_; have BK161 := n2_; have HB := n3_; clear n0_ n1_ n2_ n3_; (try clear hb); (try clear hb2); (try clear hk); (try clear hi); (try clear ho0); obtain ⟨Ao46, co46, eo46⟩ := Kd.R_slice HO182.out; subst eo46) | ((with_reducible refine gate_builtin (b := .append) (xs := #[.tmp 33, .tmp 36]) rfl ?_); at_builtin; refine Kd.R_append_rows (Kd.int .u8) (w0 := w) w.heap.size rfl (.tmp 33) (.tmp 36) 22 5 (.int .u8 0) 1 rfl Tryd.underlying22 info5 rfl (by decide) (by omega) v163 y162 t180 _ _ _ (fun k_ => some k_ ≠ (.slice Ao46 t180.length co46 : Value).ownBlock) (fun _ => False) rfl rfl ?aO ?aR (fun _ _ h => h) (fun _ h => h.elim) ?aF ?aB ?aS ?aL ?_; (case aR => repeat (first | exact (Kd.R_reads' HO182.out).2.2 | (with_reducible refine Kd.C_alloc ?_ _) | (with_reducible refine Kd.C_drewN ?_ _) | (with_reducible refine Kd.C_drew ?_))); (case aB => exact (by qb1_ GE161)); (case aF => exact (fun k_ hk => Kd.fresh' (Kd.R_lt (by qR_; exact HO182.out)) k_ hk)); (case aO => exact (by qR_; exact Kd.R_mono HO164.out (fun _ hk => hk.2))); (case aS => exact (below_size (by qb1_ GE161))); (case aL => have := LMc38.out; omega); intro v184 w45 ho hb hg hat; rw [← Ny183.out] at ho; have n0_ := Aside0.mk (blk_grown (g := gb161) (o := (om121_)) (by qk_; exact BK161.out) hg (Kd.R_ne HO164.out BK161.out (by decide))); have n1_ := Aside0.mk (Kd.R_after (ok := (fun _ => True)) (by qR_; exact HO182.out) hg hat); have n2_ := Aside0.mk (hb); have n3_ := Aside0.mk (ho); clear BK161; clear HO182; clear HB; clear HO164; have BK161 := n0_; have HO182 := n1_; have HB := n2_; have HO185 := n3_; clear n0_ n1_ n2_ n3_; clear ho hb hg hat))
      go_ret
      exact ⟨_, by first | rfl | (simp [errW_none, errW_some] <;> rfl) | (simp [*, errW_none, errW_some] <;> rfl), by qR_; exact Kd.R_mono HO185.out (fun _ hk => trivial), by qb1_ GE161⟩
     ·rw [if_neg c38] at H
      exact absurd H (by simp)
    ·rw [if_neg c36] at H
     have c36b0 : (a0_0 == 7) = false := beq_eq_false_iff_ne.mpr c36
     have c36b1 : (a0_0 != 7) = true := bne_iff_ne.mpr c36
     by_cases c47 : a0_0 = 8
     ·rw [if_pos c47] at H
      have c47b0 : (a0_0 == 8) = true := beq_iff_eq.mpr c47
      have c47b1 : (a0_0 != 8) = false := bne_eq_false_iff_eq.mpr c47
      clear c47
      lm120_
      obtain ⟨t186, A480, H⟩ := H
      replace H : ((ideal_Number.f a0_5).bind fun t189 => (if t186.length + t189.length < 140737488355328 then (some (t186 ++ t189)) else (none))) = some r := H
      have A48 := Aside0.mk A480
      clear A480
      lm120_
      obtain ⟨t189, A490, H⟩ := H
      replace H : (if t186.length + t189.length < 140737488355328 then (some (t186 ++ t189)) else (none)) = some r := H
      have A49 := Aside0.mk A490
      clear A490
      by_cases c50 : t186.length + t189.length < 140737488355328
      ·rw [if_pos c50] at H
       have LMc50 := Aside0.mk c50
       clear c50
       obtain ⟨y192, hy192⟩ : ∃ y_ : List Int, y_ = (t186 ++ t189) := ⟨_, rfl⟩
       replace H : (some y192) = some r := by first | (rw [hy192]; with_reducible exact H) | (have H2_ := (Option.bind_some _ _).symm.trans H; rw [hy192]; with_reducible exact H2_) | (have H2_ := (Option.bind_some _ _).symm.trans H; with_reducible exact H2_) | with_reducible exact H | (rw [hy192]; exact H) | exact H
       have Ny192 := Aside0.mk hy192
       clear hy192
       obtain rfl := Option.some.inj H
       go_enter Tryd.func68, Tryd.ntmps68
       try go_wp2_with (first | ((with_reducible refine gate_dst (N := 1) rfl ?_); refine box_event ?hg (N := 1) ?hd (cs := #[.int .i64 a0_0, .int .i64 a0_1, .slice A0_2 l0_2.length c0_2, .int .i64 a0_3, .slice A0_4 l0_4.length c0_4, .int .i64 a0_5]) (t := 58) ?hr ?_; (case hd => rfl); (case hg => rfl); (case hr => first | (go_simp; done) | (go_simp; rfl)); intro gb161 hg w51 hbox hb; have n0_ := Aside0.mk (below_step (by qc0_) hb); have n1_ := Aside0.mk (hbox); have n2_ := Aside0.mk ((pm122_)); have n3_ := Aside0.mk ((pm122_)); clear HB; have HB := n0_; have BK161 := n1_; have GW161 := n2_; have GE161 := n3_; clear n0_ n1_ n2_ n3_; clear hb hbox hg; have hcz52_0 : w51.cell? ⟨gb161, 0, none⟩ = some (.int .i64 a0_0) := (blk_cell BK161.out 0).trans rfl; have hcz52_1 : w51.cell? ⟨gb161, 1, none⟩ = some (.int .i64 a0_1) := (blk_cell BK161.out 1).trans rfl; have hcz52_2 : w51.cell? ⟨gb161, 2, none⟩ = some (.slice A0_2 l0_2.length c0_2) := (blk_cell BK161.out 2).trans rfl; have hcz52_3 : w51.cell? ⟨gb161, 3, none⟩ = some (.int .i64 a0_3) := (blk_cell BK161.out 3).trans rfl; have hcz52_4 : w51.cell? ⟨gb161, 4, none⟩ = some (.slice A0_4 l0_4.length c0_4) := (blk_cell BK161.out 4).trans rfl; have hcz52_5 : w51.cell? ⟨gb161, 5, none⟩ = some (.int .i64 a0_5) := (blk_cell BK161.out 5).trans rfl; have hfz52_0 := blk_frozen BK161.out 0; have hfz52_1 := blk_frozen BK161.out 1; have hfz52_2 := blk_frozen BK161.out 2; have hfz52_3 := blk_frozen BK161.out 3; have hfz52_4 := blk_frozen BK161.out 4; have hfz52_5 := blk_frozen BK161.out 5) | ((with_reducible refine gate_dst (N := 7) rfl ?_); refine Kd.R_lit (Kd.int .u8) _ 5 ?hg (N := 7) ?hd (xs := ([(a0_0) % 256] : List Int)) (inner := [.int .u8 ((a0_0) % 256)]) (ok := fun _ => True) (okp := fun _ => True) ?hr ?hp (fun _ hk => hk) trivial (Below.refl _ _) (Nat.le_refl _) (by simp) ?_; (case hd => rfl); (case hg => rfl); (case hr => first | (go_simp; done) | (go_simp; rfl)); (case hp => exact (Reps.one (show Kd.M (Kd.int .u8) _ _ _ ((a0_0) % 256) [.int .u8 ((a0_0) % 256)] from rfl) (Reps.none _ _))); intro v163 w53 ho54 hb hg_ hnew_; clear hg_ hnew_; (first | rw [← Ny162.out] at ho54 | (simp only [Int.reduceToNat] at ho54; rw [← Ny162.out] at ho54)); have n0_ := Aside0.mk (Kd.R_lower ho54 (below_size (by qb1_ GE161))); have n1_ := Aside0.mk (blk_below (g := gb161) (o := (om121_)) (by qk_; exact BK161.out) hb); have n2_ := Aside0.mk (below_step (by qb1_ GE161) hb); clear BK161; clear HB; have HO164 := n0_; have BK161 := n1_; have HB := n2_; clear n0_ n1_ n2_; clear hb ho54; have hcz55_0 : w53.cell? ⟨gb161, 0, none⟩ = some (.int .i64 a0_0) := (blk_cell BK161.out 0).trans rfl; have hcz55_1 : w53.cell? ⟨gb161, 1, none⟩ = some (.int .i64 a0_1) := (blk_cell BK161.out 1).trans rfl; have hcz55_2 : w53.cell? ⟨gb161, 2, none⟩ = some (.slice A0_2 l0_2.length c0_2) := (blk_cell BK161.out 2).trans rfl; have hcz55_3 : w53.cell? ⟨gb161, 3, none⟩ = some (.int .i64 a0_3) := (blk_cell BK161.out 3).trans rfl; have hcz55_4 : w53.cell? ⟨gb161, 4, none⟩ = some (.slice A0_4 l0_4.length c0_4) := (blk_cell BK161.out 4).trans rfl; have hcz55_5 : w53.cell? ⟨gb161, 5, none⟩ = some (.int .i64 a0_5) := (blk_cell BK161.out 5).trans rfl; have hfz55_0 := blk_frozen BK161.out 0; have hfz55_1 := blk_frozen BK161.out 1; have hfz55_2 := blk_frozen BK161.out 2; have hfz55_3 := blk_frozen BK161.out 3; have hfz55_4 := blk_frozen BK161.out 4; have hfz55_5 := blk_frozen BK161.out 5))
       have n0_ := Aside0.mk (Kd.R_drew HO164.out)
       have n1_ := Aside0.mk (blk_drew BK161.out)
       have n2_ := Aside0.mk (below_drew1 HB.out)
       clear HO164
       clear BK161
       clear HB
       have HO164 := n0_
       have BK161 := n1_
       have HB := n2_
       clear n0_ n1_ n2_
       obtain ⟨Ao57, co57, eo57⟩ := Kd.R_slice HO164.out
       (first | subst eo57 | (injection eo57 with f1_ f2_ f3_; have f4_ := f1_.symm; have f5_ := f3_.symm; clear f1_ f2_ f3_; subst f4_; subst f5_))
       refine start_ (n := 9) (S := fun w' => w'.cell? ⟨gb161, 0, none⟩ = some (.int .i64 a0_0) ∧ w'.cell? ⟨gb161, 1, none⟩ = some (.int .i64 a0_1) ∧ w'.cell? ⟨gb161, 2, none⟩ = some (.slice A0_2 l0_2.length c0_2) ∧ w'.cell? ⟨gb161, 3, none⟩ = some (.int .i64 a0_3) ∧ w'.cell? ⟨gb161, 4, none⟩ = some (.slice A0_4 l0_4.length c0_4) ∧ w'.cell? ⟨gb161, 5, none⟩ = some (.int .i64 a0_5)) (ds := []) #[false, false, false, false, false, false, false, false, false] (by kernel_rfl) rfl rfl ⟨(blk_cell BK161.out 0).trans rfl, (blk_cell BK161.out 1).trans rfl, (blk_cell BK161.out 2).trans rfl, (blk_cell BK161.out 3).trans rfl, (blk_cell BK161.out 4).trans rfl, (blk_cell BK161.out 5).trans rfl⟩ (fun hHeld => ?_); refine with_tabW frame_bytes.tab12 frame_bytes.bits12 (fun HT_ HW_ => ?_)
       generalize w53.drew = w56 at HO164 BK161 HB hHeld ⊢
       refine pure_ (i := 0) (N := some 40) (v := ?_) (a' := ?_) #[true, false, false, false, false, false, false, false, false] rfl rfl (any_of HT_.out (by kernel_rfl)) (fun _ _ _ h => h) (Or.inl ⟨by rfl, ?_⟩) ?_ ?_
       rotate_left
       ·intro w'
        go_simp
        with_reducible rfl
       rotate_left
       ·qp_
        rfl
       refine pure_ (i := 1) (N := some 41) (v := ?_) (a' := ?_) #[true, true, false, false, false, false, false, false, false] rfl rfl (any_of HT_.out (by kernel_rfl)) (fun _ _ _ h => h) (Or.inl ⟨by rfl, ?_⟩) ?_ ?_
       rotate_left
       ·intro w'
        go_simp
        with_reducible rfl
       rotate_left
       ·qp_
        rfl
       refine pure_ (i := 4) (N := some 44) (v := ?_) (a' := ?_) #[true, true, false, false, true, false, false, false, false] rfl rfl (any_of HT_.out (by kernel_rfl)) (fun _ _ _ h => h) (Or.inl ⟨by rfl, ?_⟩) ?_ ?_
       rotate_left
       ·intro w'
        go_simp
        with_reducible rfl
       rotate_left
       ·qp_
        rfl
       refine take_ (i := 2) (N := some 42) (v := ?_) (a' := ?_) #[true, true, true, false, true, false, false, false, false] rfl rfl (take_ofW HT_.out HW_.out (by kernel_rfl)) (fun _ _ _ h => h) (Or.inl ⟨by rfl, ?_⟩) hHeld ?_ ?_
       rotate_left
       ·rintro w' ⟨s0, s1, s2, s3, s4, s5⟩
        go_simp
        with_reducible rfl
       rotate_left
       ·qp_
        rfl
       refine take_ (i := 5) (N := some 45) (v := ?_) (a' := ?_) #[true, true, true, false, true, true, false, false, false] rfl rfl (take_ofW HT_.out HW_.out (by kernel_rfl)) (fun _ _ _ h => h) (Or.inl ⟨by rfl, ?_⟩) hHeld ?_ ?_
       rotate_left
       ·rintro w' ⟨s0, s1, s2, s3, s4, s5⟩
        go_simp
        with_reducible rfl
       rotate_left
       ·qp_
        rfl
       refine one_ (i := 3) (N := some 43) #[true, true, true, true, true, true, false, false, false] rfl rfl (one_of HT_.out (by kernel_rfl)) (by decide) (fun K hK => ?_)
       refine goes_ Tryd.func21 (by kernel_rfl) rfl #[.slice Ao57 y162.length co57, .int .i64 a0_1] (by rfl) rfl rfl (pm121_) ?_
       with_reducible refine (varint_Append.calls k _ _ y162 a0_1 t186 _ ?side1 ?side2 ?sideT A48.out).mono ?_
       lm121_
       lm122_
       (case side2 => exact (Kd.R_reads' HO164.out).2.1)
       rintro e w58 ⟨v187, rfl, ho0, hb⟩
       refine ⟨_, rfl, ?_⟩
       lm123_
       have n1_ := Aside0.mk (Kd.R_lower (Kd.R_new' ho0 (Kd.R_lt (by qR_; exact HO164.out))) (below_size (by qb1_ GE161)))
       have n2_ := Aside0.mk (blk_below (g := gb161) (o := (om121_)) (by qk_; exact BK161.out) hb)
       have n3_ := Aside0.mk (below_step (by qb1_ GE161) hb)
       clear HO164
       clear BK161
       clear HB
       have HO164 := n0_
       have HO188 := n1_
       have BK161 := n2_
       have HB := n3_
       clear n0_ n1_ n2_ n3_
       (try clear hb)
       (try clear hb2)
       (try clear hk)
       (try clear hi)
       (try clear ho0)
       lm124_
       clear hK K
       refine norm_ (a' := ?_) ?_ ?_
       rotate_left
       ·show Act.put _ (some 43) _ = _
        qp_
        rfl
       refine one_ (i := 6) (N := some 46) #[true, true, true, true, true, true, true, false, false] rfl rfl (one_of HT_.out (by kernel_rfl)) (by decide) (fun K hK => ?_)
       refine goes_ Tryd.func65 (by kernel_rfl) rfl #[.int .i64 a0_5] (by rfl) rfl rfl (pm121_) ?_
       with_reducible refine (ideal_Number.calls a0_5 t189 _ A49.out).mono ?_
       rintro e w59 ⟨v190, rfl, ho0, hb⟩
       refine ⟨_, rfl, ?_⟩
       lm123_
       have n1_ := Aside0.mk (Kd.R_elder' (by qR_; exact HO188.out) (Kd.R_base ho0) hb)
       have n2_ := Aside0.mk (Kd.R_lower (Kd.R_new' (Kd.R_new' ho0 (Kd.R_lt (by qR_; exact HO164.out))) (Kd.R_lt (by qR_; exact HO188.out))) (below_size (by qb1_ GE161)))
       have n3_ := Aside0.mk (blk_below (g := gb161) (o := (om121_)) (by qk_; exact BK161.out) hb)
       have n4_ := Aside0.mk (below_step (by qb1_ GE161) hb)
       clear HO164
       clear HO188
       clear BK161
       clear HB
       have HO164 := n0_
       have HO188 := n1_
       have HO191 := n2_
       have BK161 := n3_
       have HB := n4_
       clear n0_ n1_ n2_ n3_ n4_
       (try clear hb)
       (try clear hb2)
       (try clear hk)
       (try clear hi)
       (try clear ho0)
       obtain ⟨Ao61, co61, eo61⟩ := Kd.R_slice HO191.out
       (first | subst eo61 | (injection eo61 with f1_ f2_ f3_; have f4_ := f1_.symm; have f5_ := f3_.symm; clear f1_ f2_ f3_; subst f4_; subst f5_))
       lm124_
       clear hK K
       refine norm_ (a' := ?_) ?_ ?_
       rotate_left
       ·show Act.put _ (some 46) _ = _
        qp_
        rfl
       refine one_ (i := 7) (N := some 47) #[true, true, true, true, true, true, true, true, false] rfl rfl (one_of HT_.out (by kernel_rfl)) (by decide) (fun K hK => ?_)
       refine Kd.R_append_rows_step (Kd.int .u8) (w0 := w) w.heap.size (by rfl) (.tmp 43) (.tmp 46) 22 5 (.int .u8 0) 1 rfl Tryd.underlying22 info5 rfl (by decide) (by omega) v187 t186 t189 _ _ _ (fun k_ => some k_ ≠ (.slice Ao57 y162.length co57 : Value).ownBlock ∧ some k_ ≠ (.slice Ao61 t189.length co61 : Value).ownBlock) (fun _ => False) rfl rfl ?aO ?aR (fun _ _ h => h) (fun _ h => h.elim) ?aF ?aB ?aS ?aL ?_
       (case aR => repeat (first | exact (Kd.R_reads' HO191.out).2.2 | (with_reducible refine Kd.C_alloc ?_ _) | (with_reducible refine Kd.C_drewN ?_ _) | (with_reducible refine Kd.C_drew ?_)))
       (case aB => exact (by qb1_ GE161))
       (case aF => exact (fun k_ hk => ⟨Kd.fresh' (Kd.R_lt (by qR_; exact HO164.out)) k_ hk, Kd.fresh' (Kd.R_lt (by qR_; exact HO191.out)) k_ hk⟩))
       (case aO => exact (by qR_; exact Kd.R_mono HO188.out (fun _ hk => ⟨hk.1.2, hk.2⟩)))
       (case aS => exact (below_size (by qb1_ GE161)))
       (case aL => have := LMc50.out; omega)
       intro v193 w60 ho hb hg hat
       rw [← Ny192.out] at ho
       have n0_ := Aside0.mk (blk_grown (g := gb161) (o := (om121_)) (by qk_; exact BK161.out) hg (Kd.R_ne HO188.out BK161.out (by decide)))
       have n1_ := Aside0.mk (Kd.R_after (ok := (fun k_ => some k_ ≠ (.slice Ao61 t189.length co61 : Value).ownBlock)) (by qR_; exact Kd.R_mono HO164.out (fun _ hk => ⟨hk.2, hk.1.2⟩)) hg hat)
       have n2_ := Aside0.mk (Kd.R_after (ok := (fun k_ => some k_ ≠ (.slice Ao57 y162.length co57 : Value).ownBlock)) (by qR_; exact Kd.R_mono HO191.out (fun _ hk => ⟨hk.1.2, hk.2⟩)) hg hat)
       have n3_ := Aside0.mk (hb)
       have n4_ := Aside0.mk (ho)
       clear BK161
       clear HO164
       clear HO191
       clear HB
       clear HO188
       have BK161 := n0_
       have HO164 := n1_
       have HO191 := n2_
       have HB := n3_
       have HO194 := n4_
       clear n0_ n1_ n2_ n3_ n4_
       clear ho hb hg hat
       lm124_
       clear hK K
       refine norm_ (a' := ?_) ?_ ?_
       rotate_left
       ·show Act.put _ (some 47) _ = _
        qp_
        rfl
       refine pure_ (i := 8) (N := some 2) (v := ?_) (a' := ?_) #[true, true, true, true, true, true, true, true, true] rfl rfl (any_of HT_.out (by kernel_rfl)) (fun _ _ _ h => h) (Or.inl ⟨by rfl, ?_⟩) ?_ ?_
       rotate_left
       ·intro w'
        go_simp
        with_reducible rfl
       rotate_left
       ·qp_
        rfl
       refine done_ (done_of HT_.out (by kernel_rfl)) ?_
       try go_wp2
       go_ret
       exact ⟨_, by first | rfl | (simp [errW_none, errW_some] <;> rfl) | (simp [*, errW_none, errW_some] <;> rfl), by qR_; exact Kd.R_mono HO194.out (fun _ hk => trivial), by qb1_ GE161⟩
      ·rw [if_neg c50] at H
       exact absurd H (by simp)
     ·rw [if_neg c47] at H
      have c47b0 : (a0_0 == 8) = false := beq_eq_false_iff_ne.mpr c47
      have c47b1 : (a0_0 != 8) = true := bne_iff_ne.mpr c47
      by_cases c62 : a0_0 = 28
      ·rw [if_pos c62] at H
       have c62b0 : (a0_0 == 28) = true := beq_iff_eq.mpr c62
       have c62b1 : (a0_0 != 28) = false := bne_eq_false_iff_eq.mpr c62
       clear c62
       lm120_
       obtain ⟨t195, A630, H⟩ := H
       replace H : (some t195) = some r := H
       have A63 := Aside0.mk A630
       clear A630
       obtain rfl := Option.some.inj H
       go_enter Tryd.func68, Tryd.ntmps68
       go_wp2_with (first | ((with_reducible refine gate_dst (N := 1) rfl ?_); refine box_event ?hg (N := 1) ?hd (cs := #[.int .i64 a0_0, .int .i64 a0_1, .slice A0_2 l0_2.length c0_2, .int .i64 a0_3, .slice A0_4 l0_4.length c0_4, .int .i64 a0_5]) (t := 58) ?hr ?_; (case hd => rfl); (case hg => rfl); (case hr => first | (go_simp; done) | (go_simp; rfl)); intro gb161 hg w64 hbox hb; have n0_ := Aside0.mk (below_step (by qc0_) hb); have n1_ := Aside0.mk (hbox); have n2_ := Aside0.mk ((pm122_)); have n3_ := Aside0.mk ((pm122_)); clear HB; have HB := n0_; have BK161 := n1_; have GW161 := n2_; have GE161 := n3_; clear n0_ n1_ n2_ n3_; clear hb hbox hg; have hcz65_0 : w64.cell? ⟨gb161, 0, none⟩ = some (.int .i64 a0_0) := (blk_cell BK161.out 0).trans rfl; have hcz65_1 : w64.cell? ⟨gb161, 1, none⟩ = some (.int .i64 a0_1) := (blk_cell BK161.out 1).trans rfl; have hcz65_2 : w64.cell? ⟨gb161, 2, none⟩ = some (.slice A0_2 l0_2.length c0_2) := (blk_cell BK161.out 2).trans rfl; have hcz65_3 : w64.cell? ⟨gb161, 3, none⟩ = some (.int .i64 a0_3) := (blk_cell BK161.out 3).trans rfl; have hcz65_4 : w64.cell? ⟨gb161, 4, none⟩ = some (.slice A0_4 l0_4.length c0_4) := (blk_cell BK161.out 4).trans rfl; have hcz65_5 : w64.cell? ⟨gb161, 5, none⟩ = some (.int .i64 a0_5) := (blk_cell BK161.out 5).trans rfl; have hfz65_0 := blk_frozen BK161.out 0; have hfz65_1 := blk_frozen BK161.out 1; have hfz65_2 := blk_frozen BK161.out 2; have hfz65_3 := blk_frozen BK161.out 3; have hfz65_4 := blk_frozen BK161.out 4; have hfz65_5 := blk_frozen BK161.out 5) | ((with_reducible refine gate_dst (N := 7) rfl ?_); refine Kd.R_lit (Kd.int .u8) _ 5 ?hg (N := 7) ?hd (xs := ([(a0_0) % 256] : List Int)) (inner := [.int .u8 ((a0_0) % 256)]) (ok := fun _ => True) (okp := fun _ => True) ?hr ?hp (fun _ hk => hk) trivial (Below.refl _ _) (Nat.le_refl _) (by simp) ?_; (case hd => rfl); (case hg => rfl); (case hr => first | (go_simp; done) | (go_simp; rfl)); (case hp => exact (Reps.one (show Kd.M (Kd.int .u8) _ _ _ ((a0_0) % 256) [.int .u8 ((a0_0) % 256)] from rfl) (Reps.none _ _))); intro v163 w66 ho67 hb hg_ hnew_; clear hg_ hnew_; (first | rw [← Ny162.out] at ho67 | (simp only [Int.reduceToNat] at ho67; rw [← Ny162.out] at ho67)); have n0_ := Aside0.mk (Kd.R_lower ho67 (below_size (by qb1_ GE161))); have n1_ := Aside0.mk (blk_below (g := gb161) (o := (om121_)) (by qk_; exact BK161.out) hb); have n2_ := Aside0.mk (below_step (by qb1_ GE161) hb); clear BK161; clear HB; have HO164 := n0_; have BK161 := n1_; have HB := n2_; clear n0_ n1_ n2_; clear hb ho67; have hcz68_0 : w66.cell? ⟨gb161, 0, none⟩ = some (.int .i64 a0_0) := (blk_cell BK161.out 0).trans rfl; have hcz68_1 : w66.cell? ⟨gb161, 1, none⟩ = some (.int .i64 a0_1) := (blk_cell BK161.out 1).trans rfl; have hcz68_2 : w66.cell? ⟨gb161, 2, none⟩ = some (.slice A0_2 l0_2.length c0_2) := (blk_cell BK161.out 2).trans rfl; have hcz68_3 : w66.cell? ⟨gb161, 3, none⟩ = some (.int .i64 a0_3) := (blk_cell BK161.out 3).trans rfl; have hcz68_4 : w66.cell? ⟨gb161, 4, none⟩ = some (.slice A0_4 l0_4.length c0_4) := (blk_cell BK161.out 4).trans rfl; have hcz68_5 : w66.cell? ⟨gb161, 5, none⟩ = some (.int .i64 a0_5) := (blk_cell BK161.out 5).trans rfl; have hfz68_0 := blk_frozen BK161.out 0; have hfz68_1 := blk_frozen BK161.out 1; have hfz68_2 := blk_frozen BK161.out 2; have hfz68_3 := blk_frozen BK161.out 3; have hfz68_4 := blk_frozen BK161.out 4; have hfz68_5 := blk_frozen BK161.out 5; obtain ⟨Ao69, co69, eo69⟩ := Kd.R_slice HO164.out; subst eo69) | ((with_reducible refine gate_callee (f := 21) rfl ?_); refine goesL_ (some 53) rfl rfl Tryd.func21 (by kernel_rfl) rfl #[.slice Ao69 y162.length co69, .int .i64 a0_1] rfl (pm121_) ?_; (with_reducible refine (varint_Append.calls k _ _ y162 a0_1 t195 _ ?side1 ?side2 ?sideT A63.out).mono ?_); (case sideT => repeat (first | exact TB.below HT.out (by qb1_ GE161) | exact HT.out | exact TB.below HT.out HB.out | exact TB.below HT.out HBW.out | (with_reducible refine TB.alloc ?_ _) | (with_reducible refine TB.drewN ?_ _) | (with_reducible refine TB.drew ?_))); (case side1 => repeat (first | exact (Kd.R_reads' HO164.out).2.2 | (with_reducible refine Kd.C_alloc ?_ _) | (with_reducible refine Kd.C_drewN ?_ _) | (with_reducible refine Kd.C_drew ?_))); (case side2 => exact (Kd.R_reads' HO164.out).2.1); rintro e w70 ⟨v196, rfl, ho0, hb⟩; refine ⟨_, rfl, ?_⟩; have n0_ := Aside0.mk (Kd.R_elder' (by qR_; exact HO164.out) (Kd.R_base ho0) hb); have n1_ := Aside0.mk (Kd.R_lower (Kd.R_new' ho0 (Kd.R_lt (by qR_; exact HO164.out))) (below_size (by qb1_ GE161))); have n2_ := Aside0.mk (blk_below (g := gb161) (o := (om121_)) (by qk_; exact BK161.out) hb); have n3_ := Aside0.mk (below_step (by qb1_ GE161) hb); clear HO164; clear BK161; clear HB; have HO164 := n0_; have HO197 := n1_; have BK161 := n2_; have HB := n3_; clear n0_ n1_ n2_ n3_; (try clear hb); (try clear hb2); (try clear hk); (try clear hi); (try clear ho0)))
       go_ret
       exact ⟨_, by first | rfl | (simp [errW_none, errW_some] <;> rfl) | (simp [*, errW_none, errW_some] <;> rfl), by qR_; exact Kd.R_mono HO197.out (fun _ hk => trivial), by qb1_ GE161⟩
      ·rw [if_neg c62] at H
       have c62b0 : (a0_0 == 28) = false := beq_eq_false_iff_ne.mpr c62
       have c62b1 : (a0_0 != 28) = true := bne_iff_ne.mpr c62
       obtain rfl := Option.some.inj H
       go_enter Tryd.func68, Tryd.ntmps68
       go_wp2_with (first | ((with_reducible refine gate_dst (N := 1) rfl ?_); refine box_event ?hg (N := 1) ?hd (cs := #[.int .i64 a0_0, .int .i64 a0_1, .slice A0_2 l0_2.length c0_2, .int .i64 a0_3, .slice A0_4 l0_4.length c0_4, .int .i64 a0_5]) (t := 58) ?hr ?_; (case hd => rfl); (case hg => rfl); (case hr => first | (go_simp; done) | (go_simp; rfl)); intro gb161 hg w71 hbox hb; have n0_ := Aside0.mk (below_step (by qc0_) hb); have n1_ := Aside0.mk (hbox); have n2_ := Aside0.mk ((pm122_)); have n3_ := Aside0.mk ((pm122_)); clear HB; have HB := n0_; have BK161 := n1_; have GW161 := n2_; have GE161 := n3_; clear n0_ n1_ n2_ n3_; clear hb hbox hg; have hcz72_0 : w71.cell? ⟨gb161, 0, none⟩ = some (.int .i64 a0_0) := (blk_cell BK161.out 0).trans rfl; have hcz72_1 : w71.cell? ⟨gb161, 1, none⟩ = some (.int .i64 a0_1) := (blk_cell BK161.out 1).trans rfl; have hcz72_2 : w71.cell? ⟨gb161, 2, none⟩ = some (.slice A0_2 l0_2.length c0_2) := (blk_cell BK161.out 2).trans rfl; have hcz72_3 : w71.cell? ⟨gb161, 3, none⟩ = some (.int .i64 a0_3) := (blk_cell BK161.out 3).trans rfl; have hcz72_4 : w71.cell? ⟨gb161, 4, none⟩ = some (.slice A0_4 l0_4.length c0_4) := (blk_cell BK161.out 4).trans rfl; have hcz72_5 : w71.cell? ⟨gb161, 5, none⟩ = some (.int .i64 a0_5) := (blk_cell BK161.out 5).trans rfl; have hfz72_0 := blk_frozen BK161.out 0; have hfz72_1 := blk_frozen BK161.out 1; have hfz72_2 := blk_frozen BK161.out 2; have hfz72_3 := blk_frozen BK161.out 3; have hfz72_4 := blk_frozen BK161.out 4; have hfz72_5 := blk_frozen BK161.out 5) | ((with_reducible refine gate_dst (N := 7) rfl ?_); refine Kd.R_lit (Kd.int .u8) _ 5 ?hg (N := 7) ?hd (xs := ([(a0_0) % 256] : List Int)) (inner := [.int .u8 ((a0_0) % 256)]) (ok := fun _ => True) (okp := fun _ => True) ?hr ?hp (fun _ hk => hk) trivial (Below.refl _ _) (Nat.le_refl _) (by simp) ?_; (case hd => rfl); (case hg => rfl); (case hr => first | (go_simp; done) | (go_simp; rfl)); (case hp => exact (Reps.one (show Kd.M (Kd.int .u8) _ _ _ ((a0_0) % 256) [.int .u8 ((a0_0) % 256)] from rfl) (Reps.none _ _))); intro v163 w73 ho74 hb hg_ hnew_; clear hg_ hnew_; (first | rw [← Ny162.out] at ho74 | (simp only [Int.reduceToNat] at ho74; rw [← Ny162.out] at ho74)); have n0_ := Aside0.mk (Kd.R_lower ho74 (below_size (by qb1_ GE161))); have n1_ := Aside0.mk (blk_below (g := gb161) (o := (om121_)) (by qk_; exact BK161.out) hb); have n2_ := Aside0.mk (below_step (by qb1_ GE161) hb); clear BK161; clear HB; have HO164 := n0_; have BK161 := n1_; have HB := n2_; clear n0_ n1_ n2_; clear hb ho74; have hcz75_0 : w73.cell? ⟨gb161, 0, none⟩ = some (.int .i64 a0_0) := (blk_cell BK161.out 0).trans rfl; have hcz75_1 : w73.cell? ⟨gb161, 1, none⟩ = some (.int .i64 a0_1) := (blk_cell BK161.out 1).trans rfl; have hcz75_2 : w73.cell? ⟨gb161, 2, none⟩ = some (.slice A0_2 l0_2.length c0_2) := (blk_cell BK161.out 2).trans rfl; have hcz75_3 : w73.cell? ⟨gb161, 3, none⟩ = some (.int .i64 a0_3) := (blk_cell BK161.out 3).trans rfl; have hcz75_4 : w73.cell? ⟨gb161, 4, none⟩ = some (.slice A0_4 l0_4.length c0_4) := (blk_cell BK161.out 4).trans rfl; have hcz75_5 : w73.cell? ⟨gb161, 5, none⟩ = some (.int .i64 a0_5) := (blk_cell BK161.out 5).trans rfl; have hfz75_0 := blk_frozen BK161.out 0; have hfz75_1 := blk_frozen BK161.out 1; have hfz75_2 := blk_frozen BK161.out 2; have hfz75_3 := blk_frozen BK161.out 3; have hfz75_4 := blk_frozen BK161.out 4; have hfz75_5 := blk_frozen BK161.out 5))
       go_ret
       exact ⟨_, by first | rfl | (simp [errW_none, errW_some] <;> rfl) | (simp [*, errW_none, errW_some] <;> rfl), by qR_; exact HO164.out, by qb1_ GE161⟩
end Go.Proofs.YtbcleckapamicaaDoor.QFr
