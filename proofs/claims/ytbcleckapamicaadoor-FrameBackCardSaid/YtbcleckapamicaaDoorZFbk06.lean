/- A part of the proof of the law FrameBack: QFrx4. -/
import Derived.Test.YtbcleckapamicaaDoorZFbk02
namespace Go.Proofs.YtbcleckapamicaaDoor.QFr
open Go.RowKit Go.Proofs.YtbcleckapamicaaDoorW.PrintWords Go.Proofs.YtbcleckapamicaaDoorW.PrintLast Go.Proofs.YtbcleckapamicaaDoorW.PrintMore
attribute [local go_sem] max2_int min2_int max_two min_two max_three min_three max_four min_four
set_option linter.unusedVariables false
set_option linter.unusedSimpArgs false
set_option hygiene false
local macro "oj90_" : term => `(.cells #[.int .i64 a0_0, .int .i64 a0_1, .slice A0_2 l0_2.length c0_2, .int .i64 a0_3, .slice A0_4 l0_4.length c0_4, .int .i64 a0_5] 62 (0, 0))
local macro "oj91_" : term => `(.cells #[.int .i64 0, .int .i64 0, .slice none 0 0, .int .i64 0, .slice none 0 0, .int .i64 0] 58 (0, 0))
local macro "pj90_" : term => `((if y123.length + l0_4.length < 140737488355328 then (shibbolethlaw06_of.l0 k 0 a0_0 a0_1 l0_2 a0_3 l0_4 a0_5 a0_0 a0_1 ([] : List (S103)) a0_3 (y123 ++ l0_4) a0_5) else (none)))
local macro "pj91_" : term => `((by rw [hg]; exact (below_size (by qb2_ GE121 GE122)) : w.heap.size ≤ gb129))
local macro "pj92_" : term => `((by rw [hg]; exact Nat.ne_of_lt (blk_lt (g := gb122) (o := (oj91_)) (by qk_; exact BK122.out)) : gb122 ≠ gb129))
local macro "pj93_" : term => `((by rw [hg]; exact Nat.ne_of_lt (blk_lt (g := gb121) (o := (oj90_)) (by qk_; exact BK121.out)) : gb121 ≠ gb129))
local macro "pj94_" : term => `((by rw [hg]; exact Nat.ne_of_gt (blk_lt (g := gb122) (o := (oj91_)) (by qk_; exact BK122.out)) : gb129 ≠ gb122))
local macro "pj95_" : term => `((by rw [hg]; exact Nat.ne_of_gt (blk_lt (g := gb121) (o := (oj90_)) (by qk_; exact BK121.out)) : gb129 ≠ gb121))
local macro "pj96_" : term => `((by simp only [putAll, Act.put, List.setIfInBounds_toArray, List.set_cons_zero, List.set_cons_succ]))
local macro "lj90_" : tactic => `(tactic| (refine Kd.R_lit_step (Kd.int .u8) _ 5 ?hg (N := 11) ?hd (xs := ([] : List Int)) (inner := []) (ok := fun _ => True) (okp := fun _ => True) ?hr ?hp (fun _ hk => hk) trivial (Below.refl _ _) (Nat.le_refl _) (by simp) ?_; (case hd => rfl); (case hg => rfl); (case hr => first | (go_simp; done) | (go_simp; rfl)); (case hp => exact (Reps.none _ _))))
local macro "lj91_" : tactic => `(tactic| (have n1_ := Aside0.mk (blk_below (g := gb121) (o := (oj90_)) (by qk_; exact BK121.out) hb)))
local macro "lj92_" : tactic => `(tactic| (have n2_ := Aside0.mk (blk_below (g := gb122) (o := (oj91_)) (by qk_; exact BK122.out) hb)))
local macro "lj93_" : tactic => `(tactic| (refine hK.out _ _ ⟨(blk_cell BK121.out 0).trans rfl, (blk_cell BK121.out 1).trans rfl, (blk_cell BK121.out 2).trans rfl, (blk_cell BK121.out 3).trans rfl, (blk_cell BK121.out 4).trans rfl, (blk_cell BK121.out 5).trans rfl⟩ (fun hHeld => ?_)))
local macro "lj94_" : tactic => `(tactic| (refine Kd.R_append_rows_step (Kd.int .u8) (w0 := w) w.heap.size (by rfl) (.tmp 11) (.tmp 13) 22 5 (.int .u8 0) 1 rfl Tryd.underlying22 info5 rfl (by decide) (by omega) v124 y123 l0_4 _ _ _ (fun _ => True) (fun _ => False) rfl rfl ?aO ?aR (fun _ _ h => h) (fun _ h => h.elim) ?aF ?aB ?aS ?aL ?_))
local macro "lj95_" : tactic => `(tactic| ((case aR => repeat (first | exact (Kd.C_below HR0_4.out HB.out) | exact HR0_4.out | (with_reducible refine Kd.C_alloc ?_ _) | (with_reducible refine Kd.C_drewN ?_ _) | (with_reducible refine Kd.C_drew ?_)))))
local macro "lj96_" : tactic => `(tactic| (have n0_ := Aside0.mk (blk_grown (g := gb121) (o := (oj90_)) (by qk_; exact BK121.out) hg (Kd.R_ne HO125.out BK121.out (by decide)))))
local macro "lj97_" : tactic => `(tactic| (have n1_ := Aside0.mk (blk_grown (g := gb122) (o := (oj91_)) (by qk_; exact BK122.out) hg (Kd.R_ne HO125.out BK122.out (by decide)))))
local macro "lj98_" : tactic => `(tactic| (refine box_step ?hg (N := 3) ?hd (cs := #[.int .i64 0, .int .i64 0, .slice none 0 0, .int .i64 0, .slice none 0 0, .int .i64 0]) (t := 58) ?hr ?_; (case hd => rfl); (case hg => rfl); (case hr => first | (go_simp; done) | (go_simp; rfl))))
local macro "lj99_" : tactic => `(tactic| (refine one_ (i := 9) (N := some 14) #[true, true, true, true, true, true, true, true, true, true, true, true, false, true, false] rfl rfl (one_of HT_.out (by kernel_rfl)) (by decide) (fun K hK => ?_)))
local macro "lj910_" : tactic => `(tactic| (refine pure_ (i := 12) (N := some 17) (v := ?_) (a' := ?_) #[true, true, true, true, true, true, true, true, true, true, true, true, true, true, false] rfl rfl (any_of HT_.out (by kernel_rfl)) (fun _ _ _ h => h) (Or.inl ⟨by rfl, ?_⟩) ?_ ?_))
local macro "lj911_" : tactic => `(tactic| (exact norm_ (pj96_) (hCont (v124, .slice Ao10 y126.length co10, gb129) _ ⟨hHeld, (by qR_; exact HO128.out), (by qk_; exact BK121.out), (by qk_; exact BK122.out), (by qk_; exact BK129.out), GW129.out, GE129.out, NB121_129.out, NB129_121.out, NB122_129.out, NB129_122.out, (by qb3_ GE121 GE122 GE129)⟩)))
local macro "lj912_" : tactic => `(tactic| (rintro w' ⟨s0, s1, s2, s3, s4, s5, s6, s7, s8, s9, s10, s11, s12, s13, s14, s15⟩))
set_option hygiene true
def shibbolethlaw06_of.l0 : Nat → Int → Int → Int → List (S102) → Int → List Int → Int → Int → Int → List (S103) → Int → List Int → Int → Option (Int × Int × (List (S103)) × Int × List Int × Int)
 | 0, _, _, _, _, _, _, _, _, _, _, _, _, _ => none
 | k + 1, x4, x122000, x122001, x122002, x122003, x122004, x122005, x130000, x130001, x130002, x130003, x130004, x130005 => if x4 < (x122002.length : Int) then (if 0 ≤ x4 then (if x130002.length < 8796093022208 then (shibbolethlaw06_of.l0 k (wrap64 (x4 + 1)) x122000 x122001 x122002 x122003 x122004 x122005 x130000 x130001 (x130002 ++ [(⟨(rd_T102 x122002 x4).f0, (rd_T102 x122002 x4).f1⟩ : S103)]) x130003 x130004 x130005) else (none)) else (none)) else (some (x130000, x130001, x130002, x130003, x130004, x130005))
def shibbolethlaw06_of.f (k : Nat) (a0_0 : Int) (a0_1 : Int) (l0_2 : List (S102)) (a0_3 : Int) (l0_4 : List Int) (a0_5 : Int) : Option (Int × Int × (List (S103)) × Int × List Int × Int) := (some (([] : List Int) : List Int)).bind fun y123 => (pj90_)
theorem shibbolethlaw06_of.mono_l : ∀ k, (∀ y0 y1 y2 y3 y4 y5 y6 y7 y8 y9 y10 y11 y12, LeO (shibbolethlaw06_of.l0 k y0 y1 y2 y3 y4 y5 y6 y7 y8 y9 y10 y11 y12) (shibbolethlaw06_of.l0 (k + 1) y0 y1 y2 y3 y4 y5 y6 y7 y8 y9 y10 y11 y12))
 | 0 => fun _ _ _ _ _ _ _ _ _ _ _ _ _ r h => by simp [shibbolethlaw06_of.l0] at h
 | k + 1 => by
  have ih0 := shibbolethlaw06_of.mono_l k
  ·intro y0 y1 y2 y3 y4 y5 y6 y7 y8 y9 y10 y11 y12
   unfold shibbolethlaw06_of.l0
   repeat' first
   | (with_reducible exact ih0 _ _ _ _ _ _ _ _ _ _ _ _ _)
   | (with_reducible exact LeO.refl _)
   | (with_reducible exact LeO.none _)
   | (with_reducible refine LeO.ite ?_ ?_)
   | (with_reducible refine LeO.bind ?_ (fun _ => ?_))
   | exact ih0 _ _ _ _ _ _ _ _ _ _ _ _ _
   | exact LeO.none _
   | refine LeO.ite ?_ ?_
   | refine LeO.bind ?_ (fun _ => ?_)
theorem shibbolethlaw06_of.mono : ∀ a0 a1 a2 a3 a4 a5 k, LeO (shibbolethlaw06_of.f k a0 a1 a2 a3 a4 a5) (shibbolethlaw06_of.f (k + 1) a0 a1 a2 a3 a4 a5) := by
 intro a0 a1 a2 a3 a4 a5 k
 have ih0 := shibbolethlaw06_of.mono_l k
 unfold shibbolethlaw06_of.f
 repeat' first
   | (with_reducible exact ih0 _ _ _ _ _ _ _ _ _ _ _ _ _)
   | (with_reducible exact LeO.refl _)
   | (with_reducible exact LeO.none _)
   | (with_reducible refine LeO.ite ?_ ?_)
   | (with_reducible refine LeO.bind ?_ (fun _ => ?_))
   | exact ih0 _ _ _ _ _ _ _ _ _ _ _ _ _
   | exact LeO.none _
   | refine LeO.ite ?_ ?_
   | refine LeO.bind ?_ (fun _ => ?_)
def shibbolethlaw06_of.T1 : Bool × List (List Nat × List Nat) := (true, [([], []), ([0], [0]), ([], []), ([2], [2]), ([], []), ([4], [4]), ([], []), ([], []), ([7], [7]), ([6, 8], [6, 8]), ([], []), ([10], [10]), ([1, 3, 5, 9, 11], [1, 3, 5, 9, 11]), ([], []), ([13, 12, 9, 0, 1, 2, 3, 4, 5, 6, 7, 8, 9, 10, 11, 12, 13], [12, 13])])
def shibbolethlaw06_of.B1 : List Nat := [0, 1, 0, 4, 0, 16, 0, 0, 128, 448, 0, 1024, 4095, 0, 16383]
theorem shibbolethlaw06_of.tab1 : rtab .any (opsOf Tryd.f43 1) = shibbolethlaw06_of.T1 := by kernel_rfl
theorem shibbolethlaw06_of.bits1 : waitsOk shibbolethlaw06_of.T1.2 shibbolethlaw06_of.B1 = true := by kernel_rfl
def shibbolethlaw06_of.T5 : Bool × List (List Nat × List Nat) := (true, [([], []), ([0], [0]), ([], []), ([2], [2]), ([], []), ([3, 4], [3, 4]), ([5], [5]), ([6], [6]), ([], []), ([8], [8]), ([], []), ([9, 10], [9, 10]), ([11], [11]), ([12], [12]), ([7, 13], [7, 13]), ([14], [14]), ([1, 15], [1, 15]), ([0, 1, 2, 3, 4, 5, 6, 7, 8, 9, 10, 11, 12, 13, 14, 15, 16], []), ([17, 16, 16, 0, 1, 2, 3, 4, 5, 6, 7, 8, 9, 10, 11, 12, 13, 14, 15, 16], [16, 17])])
def shibbolethlaw06_of.B5 : List Nat := [0, 1, 0, 4, 0, 28, 60, 124, 0, 256, 0, 1792, 3840, 7936, 16380, 32764, 65535, 131071, 262143]
theorem shibbolethlaw06_of.tab5 : rtab .any (opsOf Tryd.f43 5) = shibbolethlaw06_of.T5 := by kernel_rfl
theorem shibbolethlaw06_of.bits5 : waitsOk shibbolethlaw06_of.T5.2 shibbolethlaw06_of.B5 = true := by kernel_rfl
set_option maxHeartbeats 8000000 in
set_option maxRecDepth 100000 in
theorem shibbolethlaw06_of.calls (k : Nat) (a0_0 : Int) (a0_1 : Int) (A0_2 : Option Addr) (c0_2 : Nat) (l0_2 : List (S102)) (a0_3 : Int) (A0_4 : Option Addr) (c0_4 : Nat) (l0_4 : List Int) (a0_5 : Int) (r1 : Int) (r2 : Int) (r3 : List (S103)) (r4 : Int) (r5 : List Int) (r6 : Int) (w : World) (hr0_2 : Kd.C k102 w A0_2 l0_2.length l0_2) (hc0_2 : l0_2.length ≤ c0_2) (hr0_4 : Kd.C (Kd.int .u8) w A0_4 l0_4.length l0_4) (hc0_4 : l0_4.length ≤ c0_4) (h : shibbolethlaw06_of.f k a0_0 a0_1 l0_2 a0_3 l0_4 a0_5 = some (r1, r2, r3, r4, r5, r6)) :
  Calls Tryd.prog 43 #[.agg #[.int .i64 a0_0, .int .i64 a0_1, .slice A0_2 l0_2.length c0_2, .int .i64 a0_3, .slice A0_4 l0_4.length c0_4, .int .i64 a0_5]] w fun e w' => ∃ v2_ v4_ : Value, e = .returned (.agg #[.int .i64 r1, .int .i64 r2, v2_, .int .i64 r4, v4_, .int .i64 r6]) ∧ Kd.R k103 103 w' w.heap.size (fun _ => True) v2_ r3 ∧ Kd.R (Kd.int .u8) 5 w' w.heap.size (fun _ => True) v4_ r5 ∧ Below w.heap.size w w' := by
 have hu62 := Tryd.underlying62
 have hu58 := Tryd.underlying58
 have hu103 := Tryd.underlying103
 have HR0_2 := Aside0.mk hr0_2
 have HC0_2 := Aside0.mk hc0_2
 clear hr0_2 hc0_2
 have HR0_4 := Aside0.mk hr0_4
 have HC0_4 := Aside0.mk hc0_4
 clear hr0_4 hc0_4
 have HB := Aside0.mk (Below.refl w.heap.size w)
 have H : ((some (([] : List Int) : List Int)).bind fun y123 => (pj90_)) = some (r1, r2, r3, r4, r5, r6) := h
 clear h
 obtain ⟨y123, hy123⟩ : ∃ y_ : List Int, y_ = (([] : List Int)) := ⟨_, rfl⟩
 replace H : (pj90_) = some (r1, r2, r3, r4, r5, r6) := by first | (rw [hy123]; with_reducible exact H) | (have H2_ := (Option.bind_some _ _).symm.trans H; rw [hy123]; with_reducible exact H2_) | (have H2_ := (Option.bind_some _ _).symm.trans H; with_reducible exact H2_) | with_reducible exact H | (rw [hy123]; exact H) | exact H
 have Ny123 := Aside0.mk hy123
 clear hy123
 by_cases c2 : y123.length + l0_4.length < 140737488355328
 ·rw [if_pos c2] at H
  have LMc2 := Aside0.mk c2
  clear c2
  obtain ⟨y126, hy126⟩ : ∃ y_ : List Int, y_ = (y123 ++ l0_4) := ⟨_, rfl⟩
  replace H : (shibbolethlaw06_of.l0 k 0 a0_0 a0_1 l0_2 a0_3 l0_4 a0_5 a0_0 a0_1 ([] : List (S103)) a0_3 y126 a0_5) = some (r1, r2, r3, r4, r5, r6) := by first | (rw [hy126]; with_reducible exact H) | (have H2_ := (Option.bind_some _ _).symm.trans H; rw [hy126]; with_reducible exact H2_) | (have H2_ := (Option.bind_some _ _).symm.trans H; with_reducible exact H2_) | with_reducible exact H | (rw [hy126]; exact H) | exact H
  have Ny126 := Aside0.mk hy126
  clear hy126
  have H' := Aside0.mk H
  clear H
  go_enter Tryd.func43, Tryd.ntmps43
  try go_wp2_with (first | ((with_reducible refine gate_dst (N := 1) rfl ?_); refine box_event ?hg (N := 1) ?hd (cs := #[.int .i64 a0_0, .int .i64 a0_1, .slice A0_2 l0_2.length c0_2, .int .i64 a0_3, .slice A0_4 l0_4.length c0_4, .int .i64 a0_5]) (t := 62) ?hr ?_; (case hd => rfl); (case hg => rfl); (case hr => first | (go_simp; done) | (go_simp; rfl)); intro gb121 hg w3 hbox hb; have n0_ := Aside0.mk (below_step (by qc0_) hb); have n1_ := Aside0.mk (hbox); have n2_ := Aside0.mk ((by rw [hg]; exact (below_size (by qc0_)) : w.heap.size ≤ gb121)); have n3_ := Aside0.mk ((by rw [hg]; exact (below_size (by qc0_)) : w.heap.size ≤ gb121)); clear HB; have HB := n0_; have BK121 := n1_; have GW121 := n2_; have GE121 := n3_; clear n0_ n1_ n2_ n3_; clear hb hbox hg) | ((with_reducible refine gate_dst (N := 2) rfl ?_); refine box_event ?hg (N := 2) ?hd (cs := #[.int .i64 0, .int .i64 0, .slice none 0 0, .int .i64 0, .slice none 0 0, .int .i64 0]) (t := 58) ?hr ?_; (case hd => rfl); (case hg => rfl); (case hr => first | (go_simp; done) | (go_simp; rfl)); intro gb122 hg w4 hbox hb; have n0_ := Aside0.mk (blk_below (g := gb121) (o := (oj90_)) (by qk_; exact BK121.out) hb); have n1_ := Aside0.mk (below_step (by qb1_ GE121) hb); have n2_ := Aside0.mk (hbox); have n3_ := Aside0.mk ((by rw [hg]; exact (below_size (by qb1_ GE121)) : w.heap.size ≤ gb122)); have n4_ := Aside0.mk ((by rw [hg]; exact (below_size (by qb1_ GE121)) : w.heap.size ≤ gb122)); have n5_ := Aside0.mk ((by rw [hg]; exact Nat.ne_of_lt (blk_lt (g := gb121) (o := (oj90_)) (by qk_; exact BK121.out)) : gb121 ≠ gb122)); have n6_ := Aside0.mk ((by rw [hg]; exact Nat.ne_of_gt (blk_lt (g := gb121) (o := (oj90_)) (by qk_; exact BK121.out)) : gb122 ≠ gb121)); clear BK121; clear HB; have BK121 := n0_; have HB := n1_; have BK122 := n2_; have GW122 := n3_; have GE122 := n4_; have NB121_122 := n5_; have NB122_121 := n6_; clear n0_ n1_ n2_ n3_ n4_ n5_ n6_; clear hb hbox hg))
  have n0_ := Aside0.mk (blk_drew BK121.out)
  have n1_ := Aside0.mk (blk_drew BK122.out)
  have n2_ := Aside0.mk (below_drew1 HB.out)
  clear BK121
  clear BK122
  clear HB
  have BK121 := n0_
  have BK122 := n1_
  have HB := n2_
  clear n0_ n1_ n2_
  refine start_ (n := 15) (S := fun w' => w'.cell? ⟨gb121, 0, none⟩ = some (.int .i64 a0_0) ∧ w'.cell? ⟨gb121, 1, none⟩ = some (.int .i64 a0_1) ∧ w'.cell? ⟨gb121, 2, none⟩ = some (.slice A0_2 l0_2.length c0_2) ∧ w'.cell? ⟨gb121, 3, none⟩ = some (.int .i64 a0_3) ∧ w'.cell? ⟨gb121, 4, none⟩ = some (.slice A0_4 l0_4.length c0_4) ∧ w'.cell? ⟨gb121, 5, none⟩ = some (.int .i64 a0_5)) (ds := []) #[false, false, false, false, false, false, false, false, false, false, false, false, false, false, false] (by kernel_rfl) rfl rfl ⟨(blk_cell BK121.out 0).trans rfl, (blk_cell BK121.out 1).trans rfl, (blk_cell BK121.out 2).trans rfl, (blk_cell BK121.out 3).trans rfl, (blk_cell BK121.out 4).trans rfl, (blk_cell BK121.out 5).trans rfl⟩ (fun hHeld => ?_); refine with_tabW shibbolethlaw06_of.tab1 shibbolethlaw06_of.bits1 (fun HT_ HW_ => ?_)
  generalize w4.drew = w5 at BK121 BK122 HB hHeld ⊢
  refine pure_ (i := 0) (N := some 5) (v := ?_) (a' := ?_) #[true, false, false, false, false, false, false, false, false, false, false, false, false, false, false] rfl rfl (any_of HT_.out (by kernel_rfl)) (fun _ _ _ h => h) (Or.inl ⟨by rfl, ?_⟩) ?_ ?_
  rotate_left
  ·intro w'
   go_simp
   with_reducible rfl
  rotate_left
  ·qp_
   rfl
  refine pure_ (i := 2) (N := some 7) (v := ?_) (a' := ?_) #[true, false, true, false, false, false, false, false, false, false, false, false, false, false, false] rfl rfl (any_of HT_.out (by kernel_rfl)) (fun _ _ _ h => h) (Or.inl ⟨by rfl, ?_⟩) ?_ ?_
  rotate_left
  ·intro w'
   go_simp
   with_reducible rfl
  rotate_left
  ·qp_
   rfl
  refine pure_ (i := 4) (N := some 9) (v := ?_) (a' := ?_) #[true, false, true, false, true, false, false, false, false, false, false, false, false, false, false] rfl rfl (any_of HT_.out (by kernel_rfl)) (fun _ _ _ h => h) (Or.inl ⟨by rfl, ?_⟩) ?_ ?_
  rotate_left
  ·intro w'
   go_simp
   with_reducible rfl
  rotate_left
  ·qp_
   rfl
  refine pure_ (i := 7) (N := some 12) (v := ?_) (a' := ?_) #[true, false, true, false, true, false, false, true, false, false, false, false, false, false, false] rfl rfl (any_of HT_.out (by kernel_rfl)) (fun _ _ _ h => h) (Or.inl ⟨by rfl, ?_⟩) ?_ ?_
  rotate_left
  ·intro w'
   go_simp
   with_reducible rfl
  rotate_left
  ·qp_
   rfl
  refine pure_ (i := 10) (N := some 15) (v := ?_) (a' := ?_) #[true, false, true, false, true, false, false, true, false, false, true, false, false, false, false] rfl rfl (any_of HT_.out (by kernel_rfl)) (fun _ _ _ h => h) (Or.inl ⟨by rfl, ?_⟩) ?_ ?_
  rotate_left
  ·intro w'
   go_simp
   with_reducible rfl
  rotate_left
  ·qp_
   rfl
  refine take_ (i := 1) (N := some 6) (v := ?_) (a' := ?_) #[true, true, true, false, true, false, false, true, false, false, true, false, false, false, false] rfl rfl (take_ofW HT_.out HW_.out (by kernel_rfl)) (fun _ _ _ h => h) (Or.inl ⟨by rfl, ?_⟩) hHeld ?_ ?_
  rotate_left
  ·rintro w' ⟨s0, s1, s2, s3, s4, s5⟩
   go_simp
   with_reducible rfl
  rotate_left
  ·qp_
   rfl
  refine take_ (i := 3) (N := some 8) (v := ?_) (a' := ?_) #[true, true, true, true, true, false, false, true, false, false, true, false, false, false, false] rfl rfl (take_ofW HT_.out HW_.out (by kernel_rfl)) (fun _ _ _ h => h) (Or.inl ⟨by rfl, ?_⟩) hHeld ?_ ?_
  rotate_left
  ·rintro w' ⟨s0, s1, s2, s3, s4, s5⟩
   go_simp
   with_reducible rfl
  rotate_left
  ·qp_
   rfl
  refine take_ (i := 5) (N := some 10) (v := ?_) (a' := ?_) #[true, true, true, true, true, true, false, true, false, false, true, false, false, false, false] rfl rfl (take_ofW HT_.out HW_.out (by kernel_rfl)) (fun _ _ _ h => h) (Or.inl ⟨by rfl, ?_⟩) hHeld ?_ ?_
  rotate_left
  ·rintro w' ⟨s0, s1, s2, s3, s4, s5⟩
   go_simp
   with_reducible rfl
  rotate_left
  ·qp_
   rfl
  refine take_ (i := 8) (N := some 13) (v := ?_) (a' := ?_) #[true, true, true, true, true, true, false, true, true, false, true, false, false, false, false] rfl rfl (take_ofW HT_.out HW_.out (by kernel_rfl)) (fun _ _ _ h => h) (Or.inl ⟨by rfl, ?_⟩) hHeld ?_ ?_
  rotate_left
  ·rintro w' ⟨s0, s1, s2, s3, s4, s5⟩
   go_simp
   with_reducible rfl
  rotate_left
  ·qp_
   rfl
  refine take_ (i := 11) (N := some 16) (v := ?_) (a' := ?_) #[true, true, true, true, true, true, false, true, true, false, true, true, false, false, false] rfl rfl (take_ofW HT_.out HW_.out (by kernel_rfl)) (fun _ _ _ h => h) (Or.inl ⟨by rfl, ?_⟩) hHeld ?_ ?_
  rotate_left
  ·rintro w' ⟨s0, s1, s2, s3, s4, s5⟩
   go_simp
   with_reducible rfl
  rotate_left
  ·qp_
   rfl
  refine join_ (σ := Value × Value × Nat) 1 #[true, true, true, true, true, true, true, true, true, true, true, true, true, true, false] (fun s_ => [(11, s_.1), (14, s_.2.1), (3, .pointer (some ⟨s_.2.2, 0, none⟩)), (17, .agg #[.int .i64 a0_0, .int .i64 a0_1, .slice none 0 0, .int .i64 a0_3, s_.2.1, .int .i64 a0_5])]) (fun s_ w' => (w'.cell? ⟨gb121, 0, none⟩ = some (.int .i64 a0_0) ∧ w'.cell? ⟨gb121, 1, none⟩ = some (.int .i64 a0_1) ∧ w'.cell? ⟨gb121, 2, none⟩ = some (.slice A0_2 l0_2.length c0_2) ∧ w'.cell? ⟨gb121, 3, none⟩ = some (.int .i64 a0_3) ∧ w'.cell? ⟨gb121, 4, none⟩ = some (.slice A0_4 l0_4.length c0_4) ∧ w'.cell? ⟨gb121, 5, none⟩ = some (.int .i64 a0_5)) ∧ (Kd.R (Kd.int .u8) 5 w' w.heap.size (fun _ => True) s_.2.1 y126) ∧ (w'.heap[gb121]? = some ((oj90_))) ∧ (w'.heap[gb122]? = some ((oj91_))) ∧ (w'.heap[s_.2.2]? = some ((oj91_))) ∧ (w.heap.size ≤ s_.2.2) ∧ (w.heap.size ≤ s_.2.2) ∧ (gb121 ≠ s_.2.2) ∧ (s_.2.2 ≠ gb121) ∧ (gb122 ≠ s_.2.2) ∧ (s_.2.2 ≠ gb122) ∧ (Below w.heap.size w w')) ?_ ?_
  rotate_left
  ·intro hCont
   refine two_ (i := 6) (j := 13) (Ni := some 11) (Nj := some 3) #[true, true, true, true, true, true, true, true, true, false, true, true, false, false, false] #[true, true, true, true, true, true, false, true, true, false, true, true, false, true, false] rfl rfl rfl rfl (two_of HT_.out (by kernel_rfl)) (by decide) (by decide) (fun K hK => ?_) (fun K hK => ?_)
   ·skip
    lj90_
    intro v124 w6 ho7 hb hg_ hnew_
    clear hg_ hnew_
    (first | rw [← Ny123.out] at ho7 | (simp only [Int.reduceToNat] at ho7; rw [← Ny123.out] at ho7))
    have n0_ := Aside0.mk (Kd.R_lower ho7 (below_size (by qb2_ GE121 GE122)))
    lj91_
    lj92_
    have n3_ := Aside0.mk (below_step (by qb2_ GE121 GE122) hb)
    clear BK121
    clear BK122
    clear HB
    have HO125 := n0_
    have BK121 := n1_
    have BK122 := n2_
    have HB := n3_
    clear n0_ n1_ n2_ n3_
    clear hb ho7
    lj93_
    clear hK K
    refine norm_ (a' := ?_) ?_ ?_
    rotate_left
    ·show Act.put _ (some 11) _ = _
     qp_
     rfl
    refine two_ (i := 9) (j := 13) (Ni := some 14) (Nj := some 3) #[true, true, true, true, true, true, true, true, true, true, true, true, false, false, false] #[true, true, true, true, true, true, true, true, true, false, true, true, false, true, false] rfl rfl rfl rfl (two_of HT_.out (by kernel_rfl)) (by decide) (by decide) (fun K hK => ?_) (fun K hK => ?_)
    ·skip
     lj94_
     lj95_
     (case aB => exact (by qb2_ GE121 GE122))
     (case aF => exact (fun _ _ => trivial))
     (case aO => exact (by qR_; exact HO125.out))
     (case aS => exact (below_size (by qb2_ GE121 GE122)))
     (case aL => have := LMc2.out; omega)
     intro v127 w8 ho hb hg hat
     rw [← Ny126.out] at ho
     lj96_
     lj97_
     have n2_ := Aside0.mk (hb)
     have n3_ := Aside0.mk (ho)
     clear BK121
     clear BK122
     clear HB
     clear HO125
     have BK121 := n0_
     have BK122 := n1_
     have HB := n2_
     have HO128 := n3_
     clear n0_ n1_ n2_ n3_
     clear ho hb hg hat
     obtain ⟨Ao9, co9, eo9⟩ := Kd.R_slice HO128.out
     (first | subst eo9 | (injection eo9 with f1_ f2_ f3_; have f4_ := f1_.symm; have f5_ := f3_.symm; clear f1_ f2_ f3_; subst f4_; subst f5_))
     lj93_
     clear hK K
     refine norm_ (a' := ?_) ?_ ?_
     rotate_left
     ·show Act.put _ (some 14) _ = _
      qp_
      rfl
     refine pure_ (i := 12) (N := some 17) (v := ?_) (a' := ?_) #[true, true, true, true, true, true, true, true, true, true, true, true, true, false, false] rfl rfl (any_of HT_.out (by kernel_rfl)) (fun _ _ _ h => h) (Or.inl ⟨by rfl, ?_⟩) ?_ ?_
     rotate_left
     ·intro w'
      go_simp
      with_reducible rfl
     rotate_left
     ·qp_
      rfl
     refine one_ (i := 13) (N := some 3) #[true, true, true, true, true, true, true, true, true, true, true, true, true, true, false] rfl rfl (one_of HT_.out (by kernel_rfl)) (by decide) (fun K hK => ?_)
     lj98_
     intro gb129 hg w10 hbox hb
     have n0_ := Aside0.mk (Kd.R_below (by qR_; exact HO128.out) hb)
     lj91_
     lj92_
     have n3_ := Aside0.mk (below_step (by qb2_ GE121 GE122) hb)
     have n4_ := Aside0.mk (hbox)
     have n5_ := Aside0.mk ((pj91_))
     have n6_ := Aside0.mk ((pj91_))
     have n7_ := Aside0.mk ((pj93_))
     have n8_ := Aside0.mk ((pj95_))
     have n9_ := Aside0.mk ((pj92_))
     have n10_ := Aside0.mk ((pj94_))
     clear HO128
     clear BK121
     clear BK122
     clear HB
     have HO128 := n0_
     have BK121 := n1_
     have BK122 := n2_
     have HB := n3_
     have BK129 := n4_
     have GW129 := n5_
     have GE129 := n6_
     have NB121_129 := n7_
     have NB129_121 := n8_
     have NB122_129 := n9_
     have NB129_122 := n10_
     clear n0_ n1_ n2_ n3_ n4_ n5_ n6_ n7_ n8_ n9_ n10_
     clear hb hbox hg
     lj93_
     clear hK K
     refine norm_ (a' := ?_) ?_ ?_
     rotate_left
     ·show Act.put _ (some 3) _ = _
      qp_
      rfl
     exact norm_ (pj96_) (hCont (v124, .slice Ao9 y126.length co9, gb129) _ ⟨hHeld, (by qR_; exact HO128.out), (by qk_; exact BK121.out), (by qk_; exact BK122.out), (by qk_; exact BK129.out), GW129.out, GE129.out, NB121_129.out, NB129_121.out, NB122_129.out, NB129_122.out, (by qb3_ GE121 GE122 GE129)⟩)
    ·skip
     lj98_
     intro gb129 hg w8 hbox hb
     have n0_ := Aside0.mk (Kd.R_below (by qR_; exact HO125.out) hb)
     lj91_
     lj92_
     have n3_ := Aside0.mk (below_step (by qb2_ GE121 GE122) hb)
     have n4_ := Aside0.mk (hbox)
     have n5_ := Aside0.mk ((pj91_))
     have n6_ := Aside0.mk ((pj91_))
     have n7_ := Aside0.mk ((pj93_))
     have n8_ := Aside0.mk ((pj95_))
     have n9_ := Aside0.mk ((pj92_))
     have n10_ := Aside0.mk ((pj94_))
     clear HO125
     clear BK121
     clear BK122
     clear HB
     have HO125 := n0_
     have BK121 := n1_
     have BK122 := n2_
     have HB := n3_
     have BK129 := n4_
     have GW129 := n5_
     have GE129 := n6_
     have NB121_129 := n7_
     have NB129_121 := n8_
     have NB122_129 := n9_
     have NB129_122 := n10_
     clear n0_ n1_ n2_ n3_ n4_ n5_ n6_ n7_ n8_ n9_ n10_
     clear hb hbox hg
     lj93_
     clear hK K
     refine norm_ (a' := ?_) ?_ ?_
     rotate_left
     ·show Act.put _ (some 3) _ = _
      qp_
      rfl
     lj99_
     lj94_
     lj95_
     (case aB => exact (by qb3_ GE121 GE122 GE129))
     (case aF => exact (fun _ _ => trivial))
     (case aO => exact (by qR_; exact HO125.out))
     (case aS => exact (below_size (by qb3_ GE121 GE122 GE129)))
     (case aL => have := LMc2.out; omega)
     intro v127 w9 ho hb hg hat
     rw [← Ny126.out] at ho
     lj96_
     lj97_
     have n2_ := Aside0.mk (blk_grown (g := gb129) (o := (oj91_)) (by qk_; exact BK129.out) hg (Kd.R_ne HO125.out BK129.out (by decide)))
     have n3_ := Aside0.mk (hb)
     have n4_ := Aside0.mk (ho)
     clear BK121
     clear BK122
     clear BK129
     clear HB
     clear HO125
     have BK121 := n0_
     have BK122 := n1_
     have BK129 := n2_
     have HB := n3_
     have HO128 := n4_
     clear n0_ n1_ n2_ n3_ n4_
     clear ho hb hg hat
     obtain ⟨Ao10, co10, eo10⟩ := Kd.R_slice HO128.out
     (first | subst eo10 | (injection eo10 with f1_ f2_ f3_; have f4_ := f1_.symm; have f5_ := f3_.symm; clear f1_ f2_ f3_; subst f4_; subst f5_))
     lj93_
     clear hK K
     refine norm_ (a' := ?_) ?_ ?_
     rotate_left
     ·show Act.put _ (some 14) _ = _
      qp_
      rfl
     lj910_
     rotate_left
     ·intro w'
      go_simp
      with_reducible rfl
     rotate_left
     ·qp_
      rfl
     lj911_
   ·skip
    lj98_
    intro gb129 hg w6 hbox hb
    have n0_ := Aside0.mk (blk_below (g := gb121) (o := (oj90_)) (by qk_; exact BK121.out) hb)
    have n1_ := Aside0.mk (blk_below (g := gb122) (o := (oj91_)) (by qk_; exact BK122.out) hb)
    have n2_ := Aside0.mk (below_step (by qb2_ GE121 GE122) hb)
    have n3_ := Aside0.mk (hbox)
    have n4_ := Aside0.mk ((pj91_))
    have n5_ := Aside0.mk ((pj91_))
    have n6_ := Aside0.mk ((pj93_))
    have n7_ := Aside0.mk ((pj95_))
    have n8_ := Aside0.mk ((pj92_))
    have n9_ := Aside0.mk ((pj94_))
    clear BK121
    clear BK122
    clear HB
    have BK121 := n0_
    have BK122 := n1_
    have HB := n2_
    have BK129 := n3_
    have GW129 := n4_
    have GE129 := n5_
    have NB121_129 := n6_
    have NB129_121 := n7_
    have NB122_129 := n8_
    have NB129_122 := n9_
    clear n0_ n1_ n2_ n3_ n4_ n5_ n6_ n7_ n8_ n9_
    clear hb hbox hg
    lj93_
    clear hK K
    refine norm_ (a' := ?_) ?_ ?_
    rotate_left
    ·show Act.put _ (some 3) _ = _
     qp_
     rfl
    refine one_ (i := 6) (N := some 11) #[true, true, true, true, true, true, true, true, true, false, true, true, false, true, false] rfl rfl (one_of HT_.out (by kernel_rfl)) (by decide) (fun K hK => ?_)
    lj90_
    intro v124 w7 ho8 hb hg_ hnew_
    clear hg_ hnew_
    (first | rw [← Ny123.out] at ho8 | (simp only [Int.reduceToNat] at ho8; rw [← Ny123.out] at ho8))
    have n0_ := Aside0.mk (Kd.R_lower ho8 (below_size (by qb3_ GE121 GE122 GE129)))
    lj91_
    lj92_
    have n3_ := Aside0.mk (blk_below (g := gb129) (o := (oj91_)) (by qk_; exact BK129.out) hb)
    have n4_ := Aside0.mk (below_step (by qb3_ GE121 GE122 GE129) hb)
    clear BK121
    clear BK122
    clear BK129
    clear HB
    have HO125 := n0_
    have BK121 := n1_
    have BK122 := n2_
    have BK129 := n3_
    have HB := n4_
    clear n0_ n1_ n2_ n3_ n4_
    clear hb ho8
    lj93_
    clear hK K
    refine norm_ (a' := ?_) ?_ ?_
    rotate_left
    ·show Act.put _ (some 11) _ = _
     qp_
     rfl
    lj99_
    lj94_
    lj95_
    (case aB => exact (by qb3_ GE121 GE122 GE129))
    (case aF => exact (fun _ _ => trivial))
    (case aO => exact (by qR_; exact HO125.out))
    (case aS => exact (below_size (by qb3_ GE121 GE122 GE129)))
    (case aL => have := LMc2.out; omega)
    intro v127 w9 ho hb hg hat
    rw [← Ny126.out] at ho
    lj96_
    lj97_
    have n2_ := Aside0.mk (blk_grown (g := gb129) (o := (oj91_)) (by qk_; exact BK129.out) hg (Kd.R_ne HO125.out BK129.out (by decide)))
    have n3_ := Aside0.mk (hb)
    have n4_ := Aside0.mk (ho)
    clear BK121
    clear BK122
    clear BK129
    clear HB
    clear HO125
    have BK121 := n0_
    have BK122 := n1_
    have BK129 := n2_
    have HB := n3_
    have HO128 := n4_
    clear n0_ n1_ n2_ n3_ n4_
    clear ho hb hg hat
    obtain ⟨Ao10, co10, eo10⟩ := Kd.R_slice HO128.out
    (first | subst eo10 | (injection eo10 with f1_ f2_ f3_; have f4_ := f1_.symm; have f5_ := f3_.symm; clear f1_ f2_ f3_; subst f4_; subst f5_))
    lj93_
    clear hK K
    refine norm_ (a' := ?_) ?_ ?_
    rotate_left
    ·show Act.put _ (some 14) _ = _
     qp_
     rfl
    lj910_
    rotate_left
    ·intro w'
     go_simp
     with_reducible rfl
    rotate_left
    ·qp_
     rfl
    lj911_
  rintro ⟨v124, v127, gb129⟩ w11 ⟨hS_, h0_, h1_, h2_, h3_, h4_, h5_, h6_, h7_, h8_, h9_, h10_⟩
  have n0_ : Aside0 (Kd.R (Kd.int .u8) 5 w11 w.heap.size (fun _ => True) v127 y126) := ⟨h0_⟩
  have n1_ : Aside0 (w11.heap[gb121]? = some ((oj90_))) := ⟨h1_⟩
  have n2_ : Aside0 (w11.heap[gb122]? = some ((oj91_))) := ⟨h2_⟩
  have n3_ : Aside0 (w11.heap[gb129]? = some ((oj91_))) := ⟨h3_⟩
  have n4_ : Aside0 (w.heap.size ≤ gb129) := ⟨h4_⟩
  have n5_ : Aside0 (w.heap.size ≤ gb129) := ⟨h5_⟩
  have n6_ : Aside0 (gb121 ≠ gb129) := ⟨h6_⟩
  have n7_ : Aside0 (gb129 ≠ gb121) := ⟨h7_⟩
  have n8_ : Aside0 (gb122 ≠ gb129) := ⟨h8_⟩
  have n9_ : Aside0 (gb129 ≠ gb122) := ⟨h9_⟩
  have n10_ : Aside0 (Below w.heap.size w w11) := ⟨h10_⟩
  clear BK121
  clear BK122
  clear HB
  clear h0_ h1_ h2_ h3_ h4_ h5_ h6_ h7_ h8_ h9_ h10_
  have HO128 := n0_
  have BK121 := n1_
  have BK122 := n2_
  have BK129 := n3_
  have GW129 := n4_
  have GE129 := n5_
  have NB121_129 := n6_
  have NB129_121 := n7_
  have NB122_129 := n8_
  have NB129_122 := n9_
  have HB := n10_
  clear n0_ n1_ n2_ n3_ n4_ n5_ n6_ n7_ n8_ n9_ n10_
  have hHeld : w11.cell? ⟨gb121, 0, none⟩ = some (.int .i64 a0_0) ∧ w11.cell? ⟨gb121, 1, none⟩ = some (.int .i64 a0_1) ∧ w11.cell? ⟨gb121, 2, none⟩ = some (.slice A0_2 l0_2.length c0_2) ∧ w11.cell? ⟨gb121, 3, none⟩ = some (.int .i64 a0_3) ∧ w11.cell? ⟨gb121, 4, none⟩ = some (.slice A0_4 l0_4.length c0_4) ∧ w11.cell? ⟨gb121, 5, none⟩ = some (.int .i64 a0_5) := hS_
  obtain ⟨Ao12, co12, eo12⟩ := Kd.R_slice HO128.out
  (first | subst eo12 | (injection eo12 with f1_ f2_ f3_; have f4_ := f1_.symm; have f5_ := f3_.symm; clear f1_ f2_ f3_; subst f4_; subst f5_))
  refine norm_ (a' := ?_) ?_ ?_
  rotate_left
  ·simp only [putAll, Act.put, List.setIfInBounds_toArray, List.set_cons_zero, List.set_cons_succ]
   rfl
  refine one_ (i := 14) (N := none) #[true, true, true, true, true, true, true, true, true, true, true, true, true, true, true] rfl rfl (one_of HT_.out (by kernel_rfl)) (by decide) (fun K hK => ?_)
  have hs13 : w11.cell? ⟨gb129, 0, none⟩ = some (.int .i64 0) := (blk_cell BK129.out 0).trans rfl
  have hfs13 := blk_frozen BK129.out 0
  have hns13_0 := NB121_129.out
  have hns13_1 := NB122_129.out
  have hms13_0 := NB129_121.out
  have hms13_1 := NB129_122.out
  have hs14 : w11.cell? ⟨gb129, 1, none⟩ = some (.int .i64 0) := (blk_cell BK129.out 1).trans rfl
  have hfs14 := blk_frozen BK129.out 1
  have hns14_0 := NB121_129.out
  have hns14_1 := NB122_129.out
  have hms14_0 := NB129_121.out
  have hms14_1 := NB129_122.out
  have hs15 : w11.cell? ⟨gb129, 2, none⟩ = some (.slice none 0 0) := (blk_cell BK129.out 2).trans rfl
  have hfs15 := blk_frozen BK129.out 2
  have hns15_0 := NB121_129.out
  have hns15_1 := NB122_129.out
  have hms15_0 := NB129_121.out
  have hms15_1 := NB129_122.out
  have hs16 : w11.cell? ⟨gb129, 3, none⟩ = some (.int .i64 0) := (blk_cell BK129.out 3).trans rfl
  have hfs16 := blk_frozen BK129.out 3
  have hns16_0 := NB121_129.out
  have hns16_1 := NB122_129.out
  have hms16_0 := NB129_121.out
  have hms16_1 := NB129_122.out
  have hs17 : w11.cell? ⟨gb129, 4, none⟩ = some (.slice none 0 0) := (blk_cell BK129.out 4).trans rfl
  have hfs17 := blk_frozen BK129.out 4
  have hns17_0 := NB121_129.out
  have hns17_1 := NB122_129.out
  have hms17_0 := NB129_121.out
  have hms17_1 := NB129_122.out
  have hs18 : w11.cell? ⟨gb129, 5, none⟩ = some (.int .i64 0) := (blk_cell BK129.out 5).trans rfl
  have hfs18 := blk_frozen BK129.out 5
  have hns18_0 := NB121_129.out
  have hns18_1 := NB122_129.out
  have hms18_0 := NB129_121.out
  have hms18_1 := NB129_122.out
  refine skip_ (w1 := ?_) (by rfl) rfl ?_ ?_
  rotate_left
  ·go_simp
   rfl
  refine hK.out _ _ ⟨((cell_far (p := ⟨gb129, _, none⟩) NB121_129.out _).trans (((cell_far (p := ⟨gb129, _, none⟩) NB121_129.out _).trans (((cell_far (p := ⟨gb129, _, none⟩) NB121_129.out _).trans (((cell_far (p := ⟨gb129, _, none⟩) NB121_129.out _).trans (((cell_far (p := ⟨gb129, _, none⟩) NB121_129.out _).trans (((cell_far (p := ⟨gb129, _, none⟩) NB121_129.out _).trans (hHeld.1)))))))))))), ((cell_far (p := ⟨gb129, _, none⟩) NB121_129.out _).trans (((cell_far (p := ⟨gb129, _, none⟩) NB121_129.out _).trans (((cell_far (p := ⟨gb129, _, none⟩) NB121_129.out _).trans (((cell_far (p := ⟨gb129, _, none⟩) NB121_129.out _).trans (((cell_far (p := ⟨gb129, _, none⟩) NB121_129.out _).trans (((cell_far (p := ⟨gb129, _, none⟩) NB121_129.out _).trans (hHeld.2.1)))))))))))), ((cell_far (p := ⟨gb129, _, none⟩) NB121_129.out _).trans (((cell_far (p := ⟨gb129, _, none⟩) NB121_129.out _).trans (((cell_far (p := ⟨gb129, _, none⟩) NB121_129.out _).trans (((cell_far (p := ⟨gb129, _, none⟩) NB121_129.out _).trans (((cell_far (p := ⟨gb129, _, none⟩) NB121_129.out _).trans (((cell_far (p := ⟨gb129, _, none⟩) NB121_129.out _).trans (hHeld.2.2.1)))))))))))), ((cell_far (p := ⟨gb129, _, none⟩) NB121_129.out _).trans (((cell_far (p := ⟨gb129, _, none⟩) NB121_129.out _).trans (((cell_far (p := ⟨gb129, _, none⟩) NB121_129.out _).trans (((cell_far (p := ⟨gb129, _, none⟩) NB121_129.out _).trans (((cell_far (p := ⟨gb129, _, none⟩) NB121_129.out _).trans (((cell_far (p := ⟨gb129, _, none⟩) NB121_129.out _).trans (hHeld.2.2.2.1)))))))))))), ((cell_far (p := ⟨gb129, _, none⟩) NB121_129.out _).trans (((cell_far (p := ⟨gb129, _, none⟩) NB121_129.out _).trans (((cell_far (p := ⟨gb129, _, none⟩) NB121_129.out _).trans (((cell_far (p := ⟨gb129, _, none⟩) NB121_129.out _).trans (((cell_far (p := ⟨gb129, _, none⟩) NB121_129.out _).trans (((cell_far (p := ⟨gb129, _, none⟩) NB121_129.out _).trans (hHeld.2.2.2.2.1)))))))))))), ((cell_far (p := ⟨gb129, _, none⟩) NB121_129.out _).trans (((cell_far (p := ⟨gb129, _, none⟩) NB121_129.out _).trans (((cell_far (p := ⟨gb129, _, none⟩) NB121_129.out _).trans (((cell_far (p := ⟨gb129, _, none⟩) NB121_129.out _).trans (((cell_far (p := ⟨gb129, _, none⟩) NB121_129.out _).trans (((cell_far (p := ⟨gb129, _, none⟩) NB121_129.out _).trans (hHeld.2.2.2.2.2))))))))))))⟩ (fun hHeld => ?_)
  clear hK K
  refine done_ (done_of HT_.out (by kernel_rfl)) ?_
  try go_wp2
  go_loopg [4] k (fun kq v4 w' => ∃ (x4_1 : Int) (x130002_1 : List (S103)) (u130002 : Value), v4 = .int .i64 x4_1 ∧ Aside0 (shibbolethlaw06_of.l0 kq x4_1 a0_0 a0_1 l0_2 a0_3 l0_4 a0_5 a0_0 a0_1 x130002_1 a0_3 y126 a0_5 = some (r1, r2, r3, r4, r5, r6)) ∧ Aside0 (kq ≤ k) ∧ Aside0 (Kd.R k103 103 w' w.heap.size (fun _ => True) u130002 x130002_1) ∧ Aside0 (Kd.R (Kd.int .u8) 5 w' w.heap.size (fun _ => True) (.slice Ao12 y126.length co12) y126) ∧ Aside0 (w'.heap[gb121]? = some (.cells #[.int .i64 a0_0, .int .i64 a0_1, (.slice A0_2 l0_2.length c0_2), .int .i64 a0_3, (.slice A0_4 l0_4.length c0_4), .int .i64 a0_5] 62 (0, 0))) ∧ Aside0 (w'.heap[gb122]? = some (.cells #[.int .i64 0, .int .i64 0, (.slice none 0 0), .int .i64 0, (.slice none 0 0), .int .i64 0] 58 (0, 0))) ∧ Aside0 (w'.heap[gb129]? = some (.cells #[.int .i64 a0_0, .int .i64 a0_1, u130002, .int .i64 a0_3, (.slice Ao12 y126.length co12), .int .i64 a0_5] 58 (0, 0))) ∧ Aside0 (Below w.heap.size w w'))
  case atStart => exact ⟨(0), (([] : List (S103))), (.slice none 0 0), (by first | rfl | (simp; done) | (simp [*]; done)), H', ⟨Nat.le_refl _⟩, ⟨by first | exact Kd.R_nil _ _ _ _ _ | exact Kd.N_nil _ _ _ _ _ | exact Kd.V_nil _ _ _ _ _ | exact Kd.Q_nil _ _ _ _ _ | exact Kd.S_nil _ _ _ _ _⟩, ⟨by qR_; exact Kd.R_mono (Kd.R_far (p := ⟨gb129, 5, none⟩) (Kd.R_far (p := ⟨gb129, 4, none⟩) (Kd.R_far (p := ⟨gb129, 3, none⟩) (Kd.R_far (p := ⟨gb129, 2, none⟩) (Kd.R_far (p := ⟨gb129, 1, none⟩) (Kd.R_far (p := ⟨gb129, 0, none⟩) (Kd.R_types HO128.out BK129.out (by decide)) (fun _ hk => hk.2) (.int .i64 a0_0)) (fun _ hk => hk.2) (.int .i64 a0_1)) (fun _ hk => hk.2) (.slice none 0 0)) (fun _ hk => hk.2) (.int .i64 a0_3)) (fun _ hk => hk.2) (.slice Ao12 y126.length co12)) (fun _ hk => hk.2) (.int .i64 a0_5)) (fun _ hk => trivial)⟩, ⟨by qk_; refine blk_far ?_ NB121_129.out _; qk_; refine blk_far ?_ NB121_129.out _; qk_; refine blk_far ?_ NB121_129.out _; qk_; refine blk_far ?_ NB121_129.out _; qk_; refine blk_far ?_ NB121_129.out _; qk_; refine blk_far ?_ NB121_129.out _; qk_; exact BK121.out⟩, ⟨by qk_; refine blk_far ?_ NB122_129.out _; qk_; refine blk_far ?_ NB122_129.out _; qk_; refine blk_far ?_ NB122_129.out _; qk_; refine blk_far ?_ NB122_129.out _; qk_; refine blk_far ?_ NB122_129.out _; qk_; refine blk_far ?_ NB122_129.out _; qk_; exact BK122.out⟩, ⟨by qk_; refine blk_put (cs := #[.int .i64 a0_0, .int .i64 a0_1, .slice none 0 0, .int .i64 a0_3, .slice Ao12 y126.length co12, .int .i64 0]) ?_ 5 _ rfl; qk_; refine blk_put (cs := #[.int .i64 a0_0, .int .i64 a0_1, .slice none 0 0, .int .i64 a0_3, .slice none 0 0, .int .i64 0]) ?_ 4 _ rfl; qk_; refine blk_put (cs := #[.int .i64 a0_0, .int .i64 a0_1, .slice none 0 0, .int .i64 0, .slice none 0 0, .int .i64 0]) ?_ 3 _ rfl; qk_; refine blk_put (cs := #[.int .i64 a0_0, .int .i64 a0_1, .slice none 0 0, .int .i64 0, .slice none 0 0, .int .i64 0]) ?_ 2 _ rfl; qk_; refine blk_put (cs := #[.int .i64 a0_0, .int .i64 0, .slice none 0 0, .int .i64 0, .slice none 0 0, .int .i64 0]) ?_ 1 _ rfl; qk_; refine blk_put (cs := #[.int .i64 0, .int .i64 0, .slice none 0 0, .int .i64 0, .slice none 0 0, .int .i64 0]) ?_ 0 _ rfl; qk_; exact BK129.out⟩, ⟨by qb3_ GE121 GE122 GE129⟩⟩
  case round =>
   clear H'
   try clear c2
   try clear p2
   try clear c4
   obtain ⟨x4_1, x130002_1, u130002, rfl, HA, HK1, HO_130002, HO_130004, BK121, BK122, BK129, HB⟩ := hrel
   cases gk with
   | zero => exact absurd HA.out (by simp [shibbolethlaw06_of.l0])
   | succ k1 =>
    have H := HA.out
    clear HA
    simp only [shibbolethlaw06_of.l0] at H
    by_cases c19 : x4_1 < (l0_2.length : Int)
    ·rw [if_pos c19] at H
     have c19b0 : decide (x4_1 < (l0_2.length : Int)) = true := decide_eq_true c19
     clear c19
     by_cases c20 : 0 ≤ x4_1
     ·rw [if_pos c20] at H
      have c20b0 : decide (0 ≤ x4_1) = true := decide_eq_true c20
      clear c20
      by_cases c21 : x130002_1.length < 8796093022208
      ·rw [if_pos c21] at H
       have LMc21 := Aside0.mk c21
       clear c21
       obtain ⟨y132, hy132⟩ : ∃ y_ : List (S103), y_ = (x130002_1 ++ [(⟨(rd_T102 l0_2 x4_1).f0, (rd_T102 l0_2 x4_1).f1⟩ : S103)]) := ⟨_, rfl⟩
       replace H : (shibbolethlaw06_of.l0 k1 (wrap64 (x4_1 + 1)) a0_0 a0_1 l0_2 a0_3 l0_4 a0_5 a0_0 a0_1 y132 a0_3 y126 a0_5) = some (r1, r2, r3, r4, r5, r6) := by first | (rw [hy132]; with_reducible exact H) | (have H2_ := (Option.bind_some _ _).symm.trans H; rw [hy132]; with_reducible exact H2_) | (have H2_ := (Option.bind_some _ _).symm.trans H; with_reducible exact H2_) | with_reducible exact H | (rw [hy132]; exact H) | exact H
       have Ny132 := Aside0.mk hy132
       clear hy132
       have H' := Aside0.mk H
       clear H
       have hnb22 := NB121_122.out
       have hnc22 := NB122_121.out
       have hnb23 := NB121_129.out
       have hnc23 := NB129_121.out
       have hcz24_0 : wr.cell? ⟨gb121, 0, none⟩ = some (.int .i64 a0_0) := (blk_cell BK121.out 0).trans rfl
       have hcz24_1 : wr.cell? ⟨gb121, 1, none⟩ = some (.int .i64 a0_1) := (blk_cell BK121.out 1).trans rfl
       have hcz24_2 : wr.cell? ⟨gb121, 2, none⟩ = some (.slice A0_2 l0_2.length c0_2) := (blk_cell BK121.out 2).trans rfl
       have hcz24_3 : wr.cell? ⟨gb121, 3, none⟩ = some (.int .i64 a0_3) := (blk_cell BK121.out 3).trans rfl
       have hcz24_4 : wr.cell? ⟨gb121, 4, none⟩ = some (.slice A0_4 l0_4.length c0_4) := (blk_cell BK121.out 4).trans rfl
       have hcz24_5 : wr.cell? ⟨gb121, 5, none⟩ = some (.int .i64 a0_5) := (blk_cell BK121.out 5).trans rfl
       have hfz24_0 := blk_frozen BK121.out 0
       have hfz24_1 := blk_frozen BK121.out 1
       have hfz24_2 := blk_frozen BK121.out 2
       have hfz24_3 := blk_frozen BK121.out 3
       have hfz24_4 := blk_frozen BK121.out 4
       have hfz24_5 := blk_frozen BK121.out 5
       try go_wp2
       have n0_ := Aside0.mk (Kd.R_drew HO_130002.out)
       have n1_ := Aside0.mk (Kd.R_drew HO_130004.out)
       have n2_ := Aside0.mk (blk_drew BK121.out)
       have n3_ := Aside0.mk (blk_drew BK122.out)
       have n4_ := Aside0.mk (blk_drew BK129.out)
       have n5_ := Aside0.mk (below_drew1 HB.out)
       clear HO_130002
       clear HO_130004
       clear BK121
       clear BK122
       clear BK129
       clear HB
       have HO_130002 := n0_
       have HO_130004 := n1_
       have BK121 := n2_
       have BK122 := n3_
       have BK129 := n4_
       have HB := n5_
       clear n0_ n1_ n2_ n3_ n4_ n5_
       have p130 : 0 ≤ (x4_1 : Int) := of_decide_eq_true (by first | (with_reducible assumption) | assumption)
       have q130 : x4_1 < (l0_2.length : Int) := of_decide_eq_true (by first | (with_reducible assumption) | assumption)
       obtain ⟨ad130, e130, hx130_0, hx130_1⟩ := at_T102 HR0_2.out x4_1 p130 q130
       have hw130_1 := hx130_1
       have hw130_0 := hx130_0
       cases e130
       replace hx130_0 := (HB.out.cell (World.block_lt_of_cell? w _ hx130_0)).trans hx130_0
       replace hx130_1 := (HB.out.cell (World.block_lt_of_cell? w _ hx130_1)).trans hx130_1
       replace p130 := eq_true p130
       replace q130 := eq_true q130
       have p131 : 0 ≤ (x4_1 : Int) := of_decide_eq_true (by first | (with_reducible assumption) | assumption)
       have q131 : x4_1 < (l0_2.length : Int) := of_decide_eq_true (by first | (with_reducible assumption) | assumption)
       obtain ⟨ad131, e131, hx131_0, hx131_1⟩ := at_T102 HR0_2.out x4_1 p131 q131
       have hw131_1 := hx131_1
       have hw131_0 := hx131_0
       obtain rfl : ad130 = ad131 := (by injection e131)
       replace hx131_0 := (HB.out.cell (World.block_lt_of_cell? w _ hx131_0)).trans hx131_0
       replace hx131_1 := (HB.out.cell (World.block_lt_of_cell? w _ hx131_1)).trans hx131_1
       replace p131 := eq_true p131
       replace q131 := eq_true q131
       refine start_ (n := 19) (S := fun w' => w'.cell? ⟨gb129, 0, none⟩ = some (.int .i64 a0_0) ∧ w'.cell? ⟨gb129, 1, none⟩ = some (.int .i64 a0_1) ∧ w'.cell? ⟨gb129, 2, none⟩ = some (u130002) ∧ w'.cell? ⟨gb129, 3, none⟩ = some (.int .i64 a0_3) ∧ w'.cell? ⟨gb129, 4, none⟩ = some (.slice Ao12 y126.length co12) ∧ w'.cell? ⟨gb129, 5, none⟩ = some (.int .i64 a0_5) ∧ w'.cell? ⟨gb121, 0, none⟩ = some (.int .i64 a0_0) ∧ w'.cell? ⟨gb121, 1, none⟩ = some (.int .i64 a0_1) ∧ w'.cell? ⟨gb121, 2, none⟩ = some (.slice (some ad130) l0_2.length c0_2) ∧ w'.cell? ⟨gb121, 3, none⟩ = some (.int .i64 a0_3) ∧ w'.cell? ⟨gb121, 4, none⟩ = some (.slice A0_4 l0_4.length c0_4) ∧ w'.cell? ⟨gb121, 5, none⟩ = some (.int .i64 a0_5) ∧ w'.cell? (ad130.add ((x4_1).toNat * 2)) = some (.int .i64 ((rd_T102 l0_2 x4_1).f0)) ∧ w'.cell? ⟨(ad130.add ((x4_1).toNat * 2)).block, (ad130.add ((x4_1).toNat * 2)).off + 1, none⟩ = some (.int .i64 ((rd_T102 l0_2 x4_1).f1)) ∧ w'.cell? (ad130.add ((x4_1).toNat * 2)) = some (.int .i64 ((rd_T102 l0_2 x4_1).f0)) ∧ w'.cell? ⟨(ad130.add ((x4_1).toNat * 2)).block, (ad130.add ((x4_1).toNat * 2)).off + 1, none⟩ = some (.int .i64 ((rd_T102 l0_2 x4_1).f1))) (ds := [18]) #[false, false, false, false, false, false, false, false, false, false, false, false, false, false, false, false, false, false, false] (by kernel_rfl) rfl rfl ⟨(blk_cell BK129.out 0).trans rfl, (blk_cell BK129.out 1).trans rfl, (blk_cell BK129.out 2).trans rfl, (blk_cell BK129.out 3).trans rfl, (blk_cell BK129.out 4).trans rfl, (blk_cell BK129.out 5).trans rfl, (blk_cell BK121.out 0).trans rfl, (blk_cell BK121.out 1).trans rfl, (blk_cell BK121.out 2).trans rfl, (blk_cell BK121.out 3).trans rfl, (blk_cell BK121.out 4).trans rfl, (blk_cell BK121.out 5).trans rfl, ((HB.out.cell (World.block_lt_of_cell? w _ hw130_0)).trans hw130_0), ((HB.out.cell (World.block_lt_of_cell? w _ hw130_1)).trans hw130_1), ((HB.out.cell (World.block_lt_of_cell? w _ hw131_0)).trans hw131_0), ((HB.out.cell (World.block_lt_of_cell? w _ hw131_1)).trans hw131_1)⟩ (fun hHeld => ?_); refine with_tabW shibbolethlaw06_of.tab5 shibbolethlaw06_of.bits5 (fun HT_ HW_ => ?_)
       generalize wr.drew = w25 at HO_130002 HO_130004 BK121 BK122 BK129 HB hx130_0 hx130_1 hx131_0 hx131_1 hHeld ⊢
       refine pure_ (i := 0) (N := some 25) (v := ?_) (a' := ?_) #[true, false, false, false, false, false, false, false, false, false, false, false, false, false, false, false, false, false, false] rfl rfl (any_of HT_.out (by kernel_rfl)) (fun _ _ _ h => h) (Or.inl ⟨by rfl, ?_⟩) ?_ ?_
       rotate_left
       ·intro w'
        go_simp
        with_reducible rfl
       rotate_left
       ·qp_
        rfl
       refine pure_ (i := 2) (N := some 27) (v := ?_) (a' := ?_) #[true, false, true, false, false, false, false, false, false, false, false, false, false, false, false, false, false, false, false] rfl rfl (any_of HT_.out (by kernel_rfl)) (fun _ _ _ h => h) (Or.inl ⟨by rfl, ?_⟩) ?_ ?_
       rotate_left
       ·intro w'
        go_simp
        with_reducible rfl
       rotate_left
       ·qp_
        rfl
       refine pure_ (i := 4) (N := some 29) (v := ?_) (a' := ?_) #[true, false, true, false, true, false, false, false, false, false, false, false, false, false, false, false, false, false, false] rfl rfl (any_of HT_.out (by kernel_rfl)) (fun _ _ _ h => h) (Or.inl ⟨by rfl, ?_⟩) ?_ ?_
       rotate_left
       ·intro w'
        go_simp
        with_reducible rfl
       rotate_left
       ·qp_
        rfl
       refine pure_ (i := 8) (N := some 33) (v := ?_) (a' := ?_) #[true, false, true, false, true, false, false, false, true, false, false, false, false, false, false, false, false, false, false] rfl rfl (any_of HT_.out (by kernel_rfl)) (fun _ _ _ h => h) (Or.inl ⟨by rfl, ?_⟩) ?_ ?_
       rotate_left
       ·intro w'
        go_simp
        with_reducible rfl
       rotate_left
       ·qp_
        rfl
       refine pure_ (i := 10) (N := some 35) (v := ?_) (a' := ?_) #[true, false, true, false, true, false, false, false, true, false, true, false, false, false, false, false, false, false, false] rfl rfl (any_of HT_.out (by kernel_rfl)) (fun _ _ _ h => h) (Or.inl ⟨by rfl, ?_⟩) ?_ ?_
       rotate_left
       ·intro w'
        go_simp
        with_reducible rfl
       rotate_left
       ·qp_
        rfl
       refine take_ (i := 1) (N := some 26) (v := ?_) (a' := ?_) #[true, true, true, false, true, false, false, false, true, false, true, false, false, false, false, false, false, false, false] rfl rfl (take_ofW HT_.out HW_.out (by kernel_rfl)) (fun _ _ _ h => h) (Or.inl ⟨by rfl, ?_⟩) hHeld ?_ ?_
       rotate_left
       ·lj912_
        go_simp
        with_reducible rfl
       rotate_left
       ·qp_
        rfl
       refine take_ (i := 3) (N := some 28) (v := ?_) (a' := ?_) #[true, true, true, true, true, false, false, false, true, false, true, false, false, false, false, false, false, false, false] rfl rfl (take_ofW HT_.out HW_.out (by kernel_rfl)) (fun _ _ _ h => h) (Or.inl ⟨by rfl, ?_⟩) hHeld ?_ ?_
       rotate_left
       ·lj912_
        go_simp
        with_reducible rfl
       rotate_left
       ·qp_
        rfl
       refine pure_ (i := 5) (N := some 30) (v := ?_) (a' := ?_) #[true, true, true, true, true, true, false, false, true, false, true, false, false, false, false, false, false, false, false] rfl rfl (any_of HT_.out (by kernel_rfl)) (fun _ _ _ h => h) (Or.inl ⟨by rfl, ?_⟩) ?_ ?_
       rotate_left
       ·intro w'
        go_simp
        with_reducible rfl
       rotate_left
       ·qp_
        rfl
       refine pure_ (i := 6) (N := some 31) (v := ?_) (a' := ?_) #[true, true, true, true, true, true, true, false, true, false, true, false, false, false, false, false, false, false, false] rfl rfl (any_of HT_.out (by kernel_rfl)) (fun _ _ _ h => h) (Or.inl ⟨by rfl, ?_⟩) ?_ ?_
       rotate_left
       ·intro w'
        go_simp
        with_reducible rfl
       rotate_left
       ·qp_
        rfl
       refine take_ (i := 7) (N := some 32) (v := ?_) (a' := ?_) #[true, true, true, true, true, true, true, true, true, false, true, false, false, false, false, false, false, false, false] rfl rfl (take_ofW HT_.out HW_.out (by kernel_rfl)) (fun _ _ _ h => h) (Or.inl ⟨by rfl, ?_⟩) hHeld ?_ ?_
       rotate_left
       ·lj912_
        go_simp
        with_reducible rfl
       rotate_left
       ·qp_
        rfl
       refine take_ (i := 9) (N := some 34) (v := ?_) (a' := ?_) #[true, true, true, true, true, true, true, true, true, true, true, false, false, false, false, false, false, false, false] rfl rfl (take_ofW HT_.out HW_.out (by kernel_rfl)) (fun _ _ _ h => h) (Or.inl ⟨by rfl, ?_⟩) hHeld ?_ ?_
       rotate_left
       ·lj912_
        go_simp
        with_reducible rfl
       rotate_left
       ·qp_
        rfl
       refine pure_ (i := 11) (N := some 36) (v := ?_) (a' := ?_) #[true, true, true, true, true, true, true, true, true, true, true, true, false, false, false, false, false, false, false] rfl rfl (any_of HT_.out (by kernel_rfl)) (fun _ _ _ h => h) (Or.inl ⟨by rfl, ?_⟩) ?_ ?_
       rotate_left
       ·intro w'
        go_simp
        with_reducible rfl
       rotate_left
       ·qp_
        rfl
       refine pure_ (i := 12) (N := some 37) (v := ?_) (a' := ?_) #[true, true, true, true, true, true, true, true, true, true, true, true, true, false, false, false, false, false, false] rfl rfl (any_of HT_.out (by kernel_rfl)) (fun _ _ _ h => h) (Or.inl ⟨by rfl, ?_⟩) ?_ ?_
       rotate_left
       ·intro w'
        go_simp
        with_reducible rfl
       rotate_left
       ·qp_
        rfl
       refine take_ (i := 13) (N := some 38) (v := ?_) (a' := ?_) #[true, true, true, true, true, true, true, true, true, true, true, true, true, true, false, false, false, false, false] rfl rfl (take_ofW HT_.out HW_.out (by kernel_rfl)) (fun _ _ _ h => h) (Or.inl ⟨by rfl, ?_⟩) hHeld ?_ ?_
       rotate_left
       ·lj912_
        go_simp
        with_reducible rfl
       rotate_left
       ·qp_
        rfl
       refine pure_ (i := 14) (N := some 39) (v := ?_) (a' := ?_) #[true, true, true, true, true, true, true, true, true, true, true, true, true, true, true, false, false, false, false] rfl rfl (any_of HT_.out (by kernel_rfl)) (fun _ _ _ h => h) (Or.inl ⟨by rfl, ?_⟩) ?_ ?_
       rotate_left
       ·intro w'
        go_simp
        with_reducible rfl
       rotate_left
       ·qp_
        rfl
       refine one_ (i := 15) (N := some 40) #[true, true, true, true, true, true, true, true, true, true, true, true, true, true, true, true, false, false, false] rfl rfl (one_of HT_.out (by kernel_rfl)) (by decide) (fun K hK => ?_)
       refine value_ (w1 := ?_) (v := ?_) (by rfl) rfl ?_ ?_
       rotate_left 2
       ·go_simp
        constructor
        ·rfl
        ·rfl
       refine hK.out _ _ ⟨(blk_cell (blk_alloc BK129.out _) 0).trans rfl, (blk_cell (blk_alloc BK129.out _) 1).trans rfl, (blk_cell (blk_alloc BK129.out _) 2).trans rfl, (blk_cell (blk_alloc BK129.out _) 3).trans rfl, (blk_cell (blk_alloc BK129.out _) 4).trans rfl, (blk_cell (blk_alloc BK129.out _) 5).trans rfl, (blk_cell (blk_alloc BK121.out _) 0).trans rfl, (blk_cell (blk_alloc BK121.out _) 1).trans rfl, (blk_cell (blk_alloc BK121.out _) 2).trans rfl, (blk_cell (blk_alloc BK121.out _) 3).trans rfl, (blk_cell (blk_alloc BK121.out _) 4).trans rfl, (blk_cell (blk_alloc BK121.out _) 5).trans rfl, (World.cell?_alloc_lt _ _ _ (World.block_lt_of_cell? _ _ (((HB.out.cell (World.block_lt_of_cell? w _ hw130_0)).trans hw130_0)))).trans (((HB.out.cell (World.block_lt_of_cell? w _ hw130_0)).trans hw130_0)), (World.cell?_alloc_lt _ _ _ (World.block_lt_of_cell? _ _ (((HB.out.cell (World.block_lt_of_cell? w _ hw130_1)).trans hw130_1)))).trans (((HB.out.cell (World.block_lt_of_cell? w _ hw130_1)).trans hw130_1)), (World.cell?_alloc_lt _ _ _ (World.block_lt_of_cell? _ _ (((HB.out.cell (World.block_lt_of_cell? w _ hw131_0)).trans hw131_0)))).trans (((HB.out.cell (World.block_lt_of_cell? w _ hw131_0)).trans hw131_0)), (World.cell?_alloc_lt _ _ _ (World.block_lt_of_cell? _ _ (((HB.out.cell (World.block_lt_of_cell? w _ hw131_1)).trans hw131_1)))).trans (((HB.out.cell (World.block_lt_of_cell? w _ hw131_1)).trans hw131_1))⟩ (fun hHeld => ?_)
       clear hK K
       refine norm_ (a' := ?_) ?_ ?_
       rotate_left
       ·show Act.put _ (some 40) _ = _
        qp_
        rfl
       refine one_ (i := 16) (N := some 41) #[true, true, true, true, true, true, true, true, true, true, true, true, true, true, true, true, true, false, false] rfl rfl (one_of HT_.out (by kernel_rfl)) (by decide) (fun K hK => ?_)
       refine Kd.R_append_step k103 (w0 := w) w.heap.size (by rfl) (.tmp 26) (.tmp 40) 55 103 (.agg #[(.int .i64 0), (.int .i64 0)]) 16 rfl Tryd.underlying55 info103 rfl (by decide) (by omega) u130002 x130002_1 (⟨(rd_T102 l0_2 x4_1).f0, (rd_T102 l0_2 x4_1).f1⟩ : S103) [.int .i64 ((rd_T102 l0_2 x4_1).f0), .int .i64 ((rd_T102 l0_2 x4_1).f1)] (fun _ => True) (fun _ => False) rfl rfl ?aP (fun _ hk => hk.elim) ?aF ?aO ?aB ?aS ?aL ?_
       (case aP => exact k103_mkM _ _ _ (⟨(rd_T102 l0_2 x4_1).f0, (rd_T102 l0_2 x4_1).f1⟩ : S103))
       (case aB => exact (by qb3_ GE121 GE122 GE129))
       (case aF => exact (fun _ _ => trivial))
       (case aO => exact (by qR_; exact HO_130002.out))
       (case aS => exact (below_size (by qb3_ GE121 GE122 GE129)))
       (case aL => have := LMc21.out; omega)
       intro v133 w26 ho hb hg hat
       rw [← Ny132.out] at ho
       have n0_ := Aside0.mk (Kd.R_over' (by qR_; exact HO_130004.out) (Kd.R_typed (by qR_; exact HO_130002.out)) (by decide) hg)
       have n1_ := Aside0.mk (blk_grown (g := gb121) (o := .cells #[.int .i64 a0_0, .int .i64 a0_1, .slice (some ad130) l0_2.length c0_2, .int .i64 a0_3, .slice A0_4 l0_4.length c0_4, .int .i64 a0_5] 62 (0, 0)) (by qk_; exact BK121.out) hg (Kd.R_ne HO_130002.out BK121.out (by decide)))
       have n2_ := Aside0.mk (blk_grown (g := gb122) (o := (oj91_)) (by qk_; exact BK122.out) hg (Kd.R_ne HO_130002.out BK122.out (by decide)))
       have n3_ := Aside0.mk (blk_grown (g := gb129) (o := .cells #[.int .i64 a0_0, .int .i64 a0_1, u130002, .int .i64 a0_3, .slice Ao12 y126.length co12, .int .i64 a0_5] 58 (0, 0)) (by qk_; exact BK129.out) hg (Kd.R_ne HO_130002.out BK129.out (by decide)))
       have n4_ := Aside0.mk (hb)
       have n5_ := Aside0.mk (ho)
       clear HO_130004
       clear BK121
       clear BK122
       clear BK129
       clear HB
       clear HO_130002
       have HO_130004 := n0_
       have BK121 := n1_
       have BK122 := n2_
       have BK129 := n3_
       have HB := n4_
       have HO134 := n5_
       clear n0_ n1_ n2_ n3_ n4_ n5_
       clear ho hb hg hat
       obtain ⟨Ao27, co27, eo27⟩ := Kd.R_slice HO134.out
       (first | subst eo27 | (injection eo27 with f1_ f2_ f3_; have f4_ := f1_.symm; have f5_ := f3_.symm; clear f1_ f2_ f3_; subst f4_; subst f5_))
       refine hK.out _ _ ⟨(blk_cell BK129.out 0).trans rfl, (blk_cell BK129.out 1).trans rfl, (blk_cell BK129.out 2).trans rfl, (blk_cell BK129.out 3).trans rfl, (blk_cell BK129.out 4).trans rfl, (blk_cell BK129.out 5).trans rfl, (blk_cell BK121.out 0).trans rfl, (blk_cell BK121.out 1).trans rfl, (blk_cell BK121.out 2).trans rfl, (blk_cell BK121.out 3).trans rfl, (blk_cell BK121.out 4).trans rfl, (blk_cell BK121.out 5).trans rfl, ((HB.out.cell (World.block_lt_of_cell? w _ hw130_0)).trans hw130_0), ((HB.out.cell (World.block_lt_of_cell? w _ hw130_1)).trans hw130_1), ((HB.out.cell (World.block_lt_of_cell? w _ hw131_0)).trans hw131_0), ((HB.out.cell (World.block_lt_of_cell? w _ hw131_1)).trans hw131_1)⟩ (fun hHeld => ?_)
       clear hK K
       refine norm_ (a' := ?_) ?_ ?_
       rotate_left
       ·show Act.put _ (some 41) _ = _
        qp_
        rfl
       refine pure_ (i := 17) (N := some 42) (v := ?_) (a' := ?_) #[true, true, true, true, true, true, true, true, true, true, true, true, true, true, true, true, true, true, false] rfl rfl (any_of HT_.out (by kernel_rfl)) (fun _ _ _ h => h) (Or.inl ⟨by rfl, ?_⟩) ?_ ?_
       rotate_left
       ·intro w'
        go_simp
        with_reducible rfl
       rotate_left
       ·qp_
        rfl
       refine last_ (i := 18) (N := none) #[true, true, true, true, true, true, true, true, true, true, true, true, true, true, true, true, true, true, true] rfl rfl (one_of HT_.out (by kernel_rfl)) (by decide) (fun K hK => ?_)
       have hs28 : w26.cell? ⟨gb129, 2, none⟩ = some (u130002) := (blk_cell BK129.out 2).trans rfl
       have hfs28 := blk_frozen BK129.out 2
       have hns28_0 := NB121_129.out
       have hns28_1 := NB122_129.out
       have hms28_0 := NB129_121.out
       have hms28_1 := NB129_122.out
       refine skip_ (w1 := ?_) (by rfl) rfl ?_ ?_
       rotate_left
       ·go_simp
        rfl
       refine hK.out _ _ ?_
       clear hK K
       refine done_ (done_of HT_.out (by kernel_rfl)) ?_
       try go_wp2
       go_roundg k1
       case measure => have := HK1.out; omega
       case rel => exact ⟨(wrap64 (x4_1 + 1)), (y132), (.slice Ao27 y132.length co27), (by first | rfl | (simp; done) | (simp [*]; done)), H', ⟨by have := HK1.out; omega⟩, ⟨by qR_; exact Kd.R_mono (Kd.R_far (p := ⟨gb129, 2, none⟩) (Kd.R_types HO134.out BK129.out (by decide)) (fun _ hk => hk.2) (.slice Ao27 y132.length co27)) (fun _ hk => trivial)⟩, ⟨by qR_; exact Kd.R_mono (Kd.R_far (p := ⟨gb129, 2, none⟩) (Kd.R_types HO_130004.out BK129.out (by decide)) (fun _ hk => hk.2) (.slice Ao27 y132.length co27)) (fun _ hk => trivial)⟩, ⟨by qk_; refine blk_far ?_ NB121_129.out _; qk_; exact BK121.out⟩, ⟨by qk_; refine blk_far ?_ NB122_129.out _; qk_; exact BK122.out⟩, ⟨by qk_; refine blk_put (cs := #[.int .i64 a0_0, .int .i64 a0_1, u130002, .int .i64 a0_3, .slice Ao12 y126.length co12, .int .i64 a0_5]) ?_ 2 _ rfl; qk_; exact BK129.out⟩, ⟨by qb3_ GE121 GE122 GE129⟩⟩
      ·rw [if_neg c21] at H
       exact absurd H (by simp)
     ·rw [if_neg c20] at H
      exact absurd H (by simp)
    ·rw [if_neg c19] at H
     have c19b0 : decide (x4_1 < (l0_2.length : Int)) = false := decide_eq_false c19
     clear c19
     simp only [Option.some.injEq, Prod.mk.injEq] at H
     obtain ⟨rfl, rfl, rfl, rfl, rfl, rfl⟩ := H
     have hnb29 := NB121_122.out
     have hnc29 := NB122_121.out
     have hnb30 := NB121_129.out
     have hnc30 := NB129_121.out
     have hcz31_0 : wr.cell? ⟨gb121, 0, none⟩ = some (.int .i64 a0_0) := (blk_cell BK121.out 0).trans rfl
     have hcz31_1 : wr.cell? ⟨gb121, 1, none⟩ = some (.int .i64 a0_1) := (blk_cell BK121.out 1).trans rfl
     have hcz31_2 : wr.cell? ⟨gb121, 2, none⟩ = some (.slice A0_2 l0_2.length c0_2) := (blk_cell BK121.out 2).trans rfl
     have hcz31_3 : wr.cell? ⟨gb121, 3, none⟩ = some (.int .i64 a0_3) := (blk_cell BK121.out 3).trans rfl
     have hcz31_4 : wr.cell? ⟨gb121, 4, none⟩ = some (.slice A0_4 l0_4.length c0_4) := (blk_cell BK121.out 4).trans rfl
     have hcz31_5 : wr.cell? ⟨gb121, 5, none⟩ = some (.int .i64 a0_5) := (blk_cell BK121.out 5).trans rfl
     have hfz31_0 := blk_frozen BK121.out 0
     have hfz31_1 := blk_frozen BK121.out 1
     have hfz31_2 := blk_frozen BK121.out 2
     have hfz31_3 := blk_frozen BK121.out 3
     have hfz31_4 := blk_frozen BK121.out 4
     have hfz31_5 := blk_frozen BK121.out 5
     have hnb32 := NB129_122.out
     have hnc32 := NB122_129.out
     have hcz33_0 : wr.cell? ⟨gb129, 0, none⟩ = some (.int .i64 a0_0) := (blk_cell BK129.out 0).trans rfl
     have hcz33_1 : wr.cell? ⟨gb129, 1, none⟩ = some (.int .i64 a0_1) := (blk_cell BK129.out 1).trans rfl
     have hcz33_2 : wr.cell? ⟨gb129, 2, none⟩ = some (u130002) := (blk_cell BK129.out 2).trans rfl
     have hcz33_3 : wr.cell? ⟨gb129, 3, none⟩ = some (.int .i64 a0_3) := (blk_cell BK129.out 3).trans rfl
     have hcz33_4 : wr.cell? ⟨gb129, 4, none⟩ = some (.slice Ao12 y126.length co12) := (blk_cell BK129.out 4).trans rfl
     have hcz33_5 : wr.cell? ⟨gb129, 5, none⟩ = some (.int .i64 a0_5) := (blk_cell BK129.out 5).trans rfl
     have hfz33_0 := blk_frozen BK129.out 0
     have hfz33_1 := blk_frozen BK129.out 1
     have hfz33_2 := blk_frozen BK129.out 2
     have hfz33_3 := blk_frozen BK129.out 3
     have hfz33_4 := blk_frozen BK129.out 4
     have hfz33_5 := blk_frozen BK129.out 5
     have hcz34_0 : wr.cell? ⟨gb122, 0, none⟩ = some (.int .i64 0) := (blk_cell BK122.out 0).trans rfl
     have hcz34_1 : wr.cell? ⟨gb122, 1, none⟩ = some (.int .i64 0) := (blk_cell BK122.out 1).trans rfl
     have hcz34_2 : wr.cell? ⟨gb122, 2, none⟩ = some (.slice none 0 0) := (blk_cell BK122.out 2).trans rfl
     have hcz34_3 : wr.cell? ⟨gb122, 3, none⟩ = some (.int .i64 0) := (blk_cell BK122.out 3).trans rfl
     have hcz34_4 : wr.cell? ⟨gb122, 4, none⟩ = some (.slice none 0 0) := (blk_cell BK122.out 4).trans rfl
     have hcz34_5 : wr.cell? ⟨gb122, 5, none⟩ = some (.int .i64 0) := (blk_cell BK122.out 5).trans rfl
     have hfz34_0 := blk_frozen BK122.out 0
     have hfz34_1 := blk_frozen BK122.out 1
     have hfz34_2 := blk_frozen BK122.out 2
     have hfz34_3 := blk_frozen BK122.out 3
     have hfz34_4 := blk_frozen BK122.out 4
     have hfz34_5 := blk_frozen BK122.out 5
     obtain ⟨Ao35, co35, eo35⟩ := Kd.R_slice HO_130002.out
     subst eo35
     go_wp2
     refine bodyPost_ret (results_cell_row rfl _ _ gb122 58 #[.int .i64 a0_0, .int .i64 a0_1, .slice Ao35 x130002_1.length co35, .int .i64 a0_3, .slice Ao12 y126.length co12, .int .i64 a0_5] (0, 0) _ rfl (by qk_; refine blk_put (cs := #[.int .i64 a0_0, .int .i64 a0_1, .slice Ao35 x130002_1.length co35, .int .i64 a0_3, .slice Ao12 y126.length co12, .int .i64 0]) ?_ 5 _ rfl; qk_; refine blk_put (cs := #[.int .i64 a0_0, .int .i64 a0_1, .slice Ao35 x130002_1.length co35, .int .i64 a0_3, .slice none 0 0, .int .i64 0]) ?_ 4 _ rfl; qk_; refine blk_put (cs := #[.int .i64 a0_0, .int .i64 a0_1, .slice Ao35 x130002_1.length co35, .int .i64 0, .slice none 0 0, .int .i64 0]) ?_ 3 _ rfl; qk_; refine blk_put (cs := #[.int .i64 a0_0, .int .i64 a0_1, .slice none 0 0, .int .i64 0, .slice none 0 0, .int .i64 0]) ?_ 2 _ rfl; qk_; refine blk_put (cs := #[.int .i64 a0_0, .int .i64 0, .slice none 0 0, .int .i64 0, .slice none 0 0, .int .i64 0]) ?_ 1 _ rfl; qk_; refine blk_put (cs := #[.int .i64 0, .int .i64 0, .slice none 0 0, .int .i64 0, .slice none 0 0, .int .i64 0]) ?_ 0 _ rfl; qk_; exact BK122.out) Tryd.underlying58 rfl (by kernel_rfl)) rfl ?_
     exact ⟨_, _, by first | rfl | (simp [errW_none, errW_some] <;> rfl) | (simp [*, errW_none, errW_some] <;> rfl), by qR_; exact Kd.R_mono (Kd.R_far (p := ⟨gb122, 5, none⟩) (Kd.R_far (p := ⟨gb122, 4, none⟩) (Kd.R_far (p := ⟨gb122, 3, none⟩) (Kd.R_far (p := ⟨gb122, 2, none⟩) (Kd.R_far (p := ⟨gb122, 1, none⟩) (Kd.R_far (p := ⟨gb122, 0, none⟩) (Kd.R_types HO_130002.out BK122.out (by decide)) (fun _ hk => hk.2) (.int .i64 a0_0)) (fun _ hk => hk.2) (.int .i64 a0_1)) (fun _ hk => hk.2) (.slice Ao35 x130002_1.length co35)) (fun _ hk => hk.2) (.int .i64 a0_3)) (fun _ hk => hk.2) (.slice Ao12 y126.length co12)) (fun _ hk => hk.2) (.int .i64 a0_5)) (fun _ hk => trivial), by qR_; exact Kd.R_mono (Kd.R_far (p := ⟨gb122, 5, none⟩) (Kd.R_far (p := ⟨gb122, 4, none⟩) (Kd.R_far (p := ⟨gb122, 3, none⟩) (Kd.R_far (p := ⟨gb122, 2, none⟩) (Kd.R_far (p := ⟨gb122, 1, none⟩) (Kd.R_far (p := ⟨gb122, 0, none⟩) (Kd.R_types HO_130004.out BK122.out (by decide)) (fun _ hk => hk.2) (.int .i64 a0_0)) (fun _ hk => hk.2) (.int .i64 a0_1)) (fun _ hk => hk.2) (.slice Ao35 x130002_1.length co35)) (fun _ hk => hk.2) (.int .i64 a0_3)) (fun _ hk => hk.2) (.slice Ao12 y126.length co12)) (fun _ hk => hk.2) (.int .i64 a0_5)) (fun _ hk => trivial), by qb3_ GE121 GE122 GE129⟩
 ·rw [if_neg c2] at H
  exact absurd H (by simp)
end Go.Proofs.YtbcleckapamicaaDoor.QFr
