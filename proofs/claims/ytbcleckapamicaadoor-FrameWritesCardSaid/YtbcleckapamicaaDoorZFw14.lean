/- A part of the proof of the law FrameWrites: QFrx8. -/
import Derived.Test.YtbcleckapamicaaDoorZFw02
import Derived.Test.YtbcleckapamicaaDoorZFw13
namespace Go.Proofs.YtbcleckapamicaaDoor.QFr
open Go.RowKit Go.Proofs.YtbcleckapamicaaDoorW.PrintWords Go.Proofs.YtbcleckapamicaaDoorW.PrintLast Go.Proofs.YtbcleckapamicaaDoorW.PrintMore
attribute [local go_sem] max2_int min2_int max_two min_two max_three min_three max_four min_four
set_option linter.unusedVariables false
set_option linter.unusedSimpArgs false
open Go.Proofs.YtbcleckapamicaaDoor.QVa (shibbolethref01_Bytes.f shibbolethref01_Bytes.calls shibbolethref01_Bytes.mono shibbolethref01_Give.f shibbolethref01_Give.calls shibbolethref01_Give.mono)
set_option hygiene false
local macro "ou200_" : term => `(.cells #[.int .i64 a0_0, .int .i64 a0_1, .slice A0_2 l0_2.length c0_2, .int .i64 a0_3, .slice A0_4 l0_4.length c0_4, .int .i64 a0_5] 62 (0, 0))
local macro "ou201_" : term => `(.cells #[.int .i64 a0_0, .int .i64 a0_1, .slice (some ad234) l0_2.length c0_2, .int .i64 a0_3, .slice A0_4 l0_4.length c0_4, .int .i64 a0_5] 62 (0, 0))
local macro "pu200_" : term => `((if a0_0 = 0 then (shibbolethref06_Bytes.l0 k y228 1 a0_0 a0_1 l0_2 a0_3 l0_4 a0_5) else (if a0_0 = 2 then (if 0 < (l0_2.length : Int) then ((shibbolethref01_Bytes.f k ((rd_T102 l0_2 0).f1)).bind fun t235 => (if y228.length + t235.length < 140737488355328 then ((some (y228 ++ t235 : List Int)).bind fun y238 => ((shibbolethref01_Bytes.f k (wrap64 ((l0_2.length : Int) - 1))).bind fun t241 => (if y238.length + t241.length < 140737488355328 then (shibbolethref06_Bytes.l1 k (y238 ++ t241) 0 a0_0 a0_1 l0_2 a0_3 l0_4 a0_5) else (none)))) else (none))) else (none)) else (if a0_0 = 6 then ((shibbolethref01_Bytes.f k a0_3).bind fun t271 => (if y228.length + t271.length < 140737488355328 then ((some (y228 ++ t271 : List Int)).bind fun y274 => ((shibbolethref01_Give.f k l0_4).bind fun t277 => (if y274.length + t277.length < 140737488355328 then (some (y274 ++ t277)) else (none)))) else (none))) else (if a0_0 = 7 then ((shibbolethref04_Number.f a0_5).bind fun t283 => (if y228.length + t283.length < 140737488355328 then (some (y228 ++ t283)) else (none))) else (if a0_0 = 8 then ((shibbolethref01_Bytes.f k a0_1).bind fun t289 => (if y228.length + t289.length < 140737488355328 then ((some (y228 ++ t289 : List Int)).bind fun y292 => ((shibbolethref04_Number.f a0_5).bind fun t295 => (if y292.length + t295.length < 140737488355328 then (some (y292 ++ t295)) else (none)))) else (none))) else (if a0_0 = 28 then ((shibbolethref01_Bytes.f k a0_1).bind fun t301 => (if y228.length + t301.length < 140737488355328 then (some (y228 ++ t301)) else (none))) else (some y228))))))))
local macro "pu201_" : term => `((by (try simp only [List.map_toArray, List.map_cons, List.map_nil]); first | done | rfl | (simp only [List.length_drop, List.length_take]; rfl)))
local macro "pu202_" : term => `((by rw [hg]; exact (below_size (by qc0_)) : w.heap.size ≤ gb227))
local macro "pu203_" : term => `((by first | (with_reducible assumption) | assumption))
local macro "pu204_" : term => `((if y252.length + t257.length < 140737488355328 then (shibbolethref06_Bytes.l1 k1 (y252 ++ t257) (wrap64 (x5_1 + 1)) a0_0 a0_1 l0_2 a0_3 l0_4 a0_5) else (none)))
local macro "pu205_" : term => `((if y238.length + t241.length < 140737488355328 then (shibbolethref06_Bytes.l1 k (y238 ++ t241) 0 a0_0 a0_1 l0_2 a0_3 l0_4 a0_5) else (none)))
local macro "pu206_" : term => `((.slice (some ad234) l0_2.length c0_2))
local macro "pu207_" : term => `((by qR_; exact Kd.R_mono HO230.out (fun _ hk => hk.2)))
local macro "pu208_" : term => `((shibbolethref01_Bytes.f k1 (wrap64 (((rd_T102 l0_2 x5_1).f1) - ((rd_T102 l0_2 x5_1).f0)))))
local macro "pu209_" : term => `((by first | rfl | (simp; done) | (simp [*]; done)))
local macro "pu2010_" : term => `((if y292.length + t295.length < 140737488355328 then (some (y292 ++ t295)) else (none)))
local macro "pu2011_" : term => `((if y274.length + t277.length < 140737488355328 then (some (y274 ++ t277)) else (none)))
local macro "lu200_" : tactic => `(tactic| (exact ⟨_, by first | rfl | (simp [errW_none, errW_some] <;> rfl) | (simp [*, errW_none, errW_some] <;> rfl), by qR_; exact HO_3.out, by qb1_ GE227⟩))
local macro "lu201_" : tactic => `(tactic| (replace H := Option.bind_eq_some_iff.mp H))
local macro "lu202_" : tactic => `(tactic| (rintro w' ⟨s0, s1, s2, s3, s4, s5, s6, s7, s8, s9⟩))
local macro "lu203_" : tactic => `(tactic| (have n3_ := Aside0.mk (below_step (by qb1_ GE227) hb)))
local macro "lu204_" : tactic => `(tactic| (refine hK.out _ _ ⟨(blk_cell BK227.out 0).trans rfl, (blk_cell BK227.out 1).trans rfl, (blk_cell BK227.out 2).trans rfl, (blk_cell BK227.out 3).trans rfl, (blk_cell BK227.out 4).trans rfl, (blk_cell BK227.out 5).trans rfl, ((HB.out.cell (World.block_lt_of_cell? w _ hw247_0)).trans hw247_0), ((HB.out.cell (World.block_lt_of_cell? w _ hw247_1)).trans hw247_1), ((HB.out.cell (World.block_lt_of_cell? w _ hw248_0)).trans hw248_0), ((HB.out.cell (World.block_lt_of_cell? w _ hw248_1)).trans hw248_1)⟩ (fun hHeld => ?_)))
local macro "lu205_" : tactic => `(tactic| ((case aS => exact (below_size (by qb1_ GE227)))))
local macro "lu206_" : tactic => `(tactic| (refine done_ (done_of HT_.out (by kernel_rfl)) ?_))
local macro "lu207_" : tactic => `(tactic| (refine pure_ (i := 0) (N := some 67) (v := ?_) (a' := ?_) #[true, false, false, false, false, false, false, false, false, false, false, false, false, false, false, false, false] rfl rfl (any_of HT_.out (by kernel_rfl)) (fun _ _ _ h => h) (Or.inl ⟨by rfl, ?_⟩) ?_ ?_))
local macro "lu208_" : tactic => `(tactic| (refine pure_ (i := 1) (N := some 68) (v := ?_) (a' := ?_) #[true, true, false, false, false, false, false, false, false, false, false, false, false, false, false, false, false] rfl rfl (any_of HT_.out (by kernel_rfl)) (fun _ _ _ h => h) (Or.inl ⟨by rfl, ?_⟩) ?_ ?_))
local macro "lu209_" : tactic => `(tactic| (refine pure_ (i := 3) (N := some 70) (v := ?_) (a' := ?_) #[true, true, false, true, false, false, false, false, false, false, false, false, false, false, false, false, false] rfl rfl (any_of HT_.out (by kernel_rfl)) (fun _ _ _ h => h) (Or.inl ⟨by rfl, ?_⟩) ?_ ?_))
local macro "lu2010_" : tactic => `(tactic| (refine pure_ (i := 7) (N := some 74) (v := ?_) (a' := ?_) #[true, true, false, true, false, false, false, true, false, false, false, false, false, false, false, false, false] rfl rfl (any_of HT_.out (by kernel_rfl)) (fun _ _ _ h => h) (Or.inl ⟨by rfl, ?_⟩) ?_ ?_))
local macro "lu2011_" : tactic => `(tactic| (refine pure_ (i := 9) (N := some 76) (v := ?_) (a' := ?_) #[true, true, false, true, false, false, false, true, false, true, false, false, false, false, false, false, false] rfl rfl (any_of HT_.out (by kernel_rfl)) (fun _ _ _ h => h) (Or.inl ⟨by rfl, ?_⟩) ?_ ?_))
local macro "lu2012_" : tactic => `(tactic| (refine take_ (i := 2) (N := some 69) (v := ?_) (a' := ?_) #[true, true, true, true, false, false, false, true, false, true, false, false, false, false, false, false, false] rfl rfl (take_ofW HT_.out HW_.out (by kernel_rfl)) (fun _ _ _ h => h) (Or.inl ⟨by rfl, ?_⟩) hHeld ?_ ?_))
local macro "lu2013_" : tactic => `(tactic| (refine pure_ (i := 4) (N := some 71) (v := ?_) (a' := ?_) #[true, true, true, true, true, false, false, true, false, true, false, false, false, false, false, false, false] rfl rfl (any_of HT_.out (by kernel_rfl)) (fun _ _ _ h => h) (Or.inl ⟨by rfl, ?_⟩) ?_ ?_))
local macro "lu2014_" : tactic => `(tactic| (refine pure_ (i := 5) (N := some 72) (v := ?_) (a' := ?_) #[true, true, true, true, true, true, false, true, false, true, false, false, false, false, false, false, false] rfl rfl (any_of HT_.out (by kernel_rfl)) (fun _ _ _ h => h) (Or.inl ⟨by rfl, ?_⟩) ?_ ?_))
local macro "lu2015_" : tactic => `(tactic| (refine take_ (i := 6) (N := some 73) (v := ?_) (a' := ?_) #[true, true, true, true, true, true, true, true, false, true, false, false, false, false, false, false, false] rfl rfl (take_ofW HT_.out HW_.out (by kernel_rfl)) (fun _ _ _ h => h) (Or.inl ⟨by rfl, ?_⟩) hHeld ?_ ?_))
local macro "lu2016_" : tactic => `(tactic| (refine take_ (i := 8) (N := some 75) (v := ?_) (a' := ?_) #[true, true, true, true, true, true, true, true, true, true, false, false, false, false, false, false, false] rfl rfl (take_ofW HT_.out HW_.out (by kernel_rfl)) (fun _ _ _ h => h) (Or.inl ⟨by rfl, ?_⟩) hHeld ?_ ?_))
local macro "lu2017_" : tactic => `(tactic| (refine pure_ (i := 10) (N := some 77) (v := ?_) (a' := ?_) #[true, true, true, true, true, true, true, true, true, true, true, false, false, false, false, false, false] rfl rfl (any_of HT_.out (by kernel_rfl)) (fun _ _ _ h => h) (Or.inl ⟨by rfl, ?_⟩) ?_ ?_))
local macro "lu2018_" : tactic => `(tactic| (refine pure_ (i := 11) (N := some 78) (v := ?_) (a' := ?_) #[true, true, true, true, true, true, true, true, true, true, true, true, false, false, false, false, false] rfl rfl (any_of HT_.out (by kernel_rfl)) (fun _ _ _ h => h) (Or.inl ⟨by rfl, ?_⟩) ?_ ?_))
local macro "lu2019_" : tactic => `(tactic| (refine take_ (i := 12) (N := some 79) (v := ?_) (a' := ?_) #[true, true, true, true, true, true, true, true, true, true, true, true, true, false, false, false, false] rfl rfl (take_ofW HT_.out HW_.out (by kernel_rfl)) (fun _ _ _ h => h) (Or.inl ⟨by rfl, ?_⟩) hHeld ?_ ?_))
local macro "lu2020_" : tactic => `(tactic| (refine pure_ (i := 13) (N := some 80) (v := ?_) (a' := ?_) #[true, true, true, true, true, true, true, true, true, true, true, true, true, true, false, false, false] rfl rfl (any_of HT_.out (by kernel_rfl)) (fun _ _ _ h => h) (Or.inl ⟨by rfl, ?_⟩) ?_ ?_))
local macro "lu2021_" : tactic => `(tactic| (refine one_ (i := 14) (N := some 81) #[true, true, true, true, true, true, true, true, true, true, true, true, true, true, true, false, false] rfl rfl (one_of HT_.out (by kernel_rfl)) (by decide) (fun K hK => ?_)))
local macro "lu2022_" : tactic => `(tactic| (refine goes_ Tryd.func23 (by kernel_rfl) rfl #[.int .i64 (wrap64 (((rd_T102 l0_2 x5_1).f1) - ((rd_T102 l0_2 x5_1).f0)))] (by rfl) rfl rfl (pu201_) ?_))
local macro "lu2023_" : tactic => `(tactic| (refine hK.out _ _ ⟨(blk_cell BK227.out 0).trans rfl, (blk_cell BK227.out 1).trans rfl, (blk_cell BK227.out 2).trans rfl, (blk_cell BK227.out 3).trans rfl, (blk_cell BK227.out 4).trans rfl, (blk_cell BK227.out 5).trans rfl, ((HB.out.cell (World.block_lt_of_cell? w _ hw255_0)).trans hw255_0), ((HB.out.cell (World.block_lt_of_cell? w _ hw255_1)).trans hw255_1), ((HB.out.cell (World.block_lt_of_cell? w _ hw256_0)).trans hw256_0), ((HB.out.cell (World.block_lt_of_cell? w _ hw256_1)).trans hw256_1)⟩ (fun hHeld => ?_)))
local macro "lu2024_" : tactic => `(tactic| (refine one_ (i := 15) (N := some 82) #[true, true, true, true, true, true, true, true, true, true, true, true, true, true, true, true, false] rfl rfl (one_of HT_.out (by kernel_rfl)) (by decide) (fun K hK => ?_)))
local macro "lu2025_" : tactic => `(tactic| (refine pure_ (i := 16) (N := some 3) (v := ?_) (a' := ?_) #[true, true, true, true, true, true, true, true, true, true, true, true, true, true, true, true, true] rfl rfl (any_of HT_.out (by kernel_rfl)) (fun _ _ _ h => h) (Or.inl ⟨by rfl, ?_⟩) ?_ ?_))
local macro "lu2026_" : tactic => `(tactic| (refine hK.out _ _ ⟨(blk_cell BK227.out 0).trans rfl, (blk_cell BK227.out 1).trans rfl, (blk_cell BK227.out 2).trans rfl, (blk_cell BK227.out 3).trans rfl, (blk_cell BK227.out 4).trans rfl, (blk_cell BK227.out 5).trans rfl, ((HB.out.cell (World.block_lt_of_cell? w _ hw263_0)).trans hw263_0), ((HB.out.cell (World.block_lt_of_cell? w _ hw263_1)).trans hw263_1), ((HB.out.cell (World.block_lt_of_cell? w _ hw264_0)).trans hw264_0), ((HB.out.cell (World.block_lt_of_cell? w _ hw264_1)).trans hw264_1)⟩ (fun hHeld => ?_)))
local macro "lu2027_" : tactic => `(tactic| (refine hK.out _ _ ⟨(blk_cell BK227.out 0).trans rfl, (blk_cell BK227.out 1).trans rfl, (blk_cell BK227.out 2).trans rfl, (blk_cell BK227.out 3).trans rfl, (blk_cell BK227.out 4).trans rfl, (blk_cell BK227.out 5).trans rfl⟩ (fun hHeld => ?_)))
local macro "lu2028_" : tactic => `(tactic| (refine pure_ (i := 9) (N := some 3) (v := ?_) (a' := ?_) #[true, true, true, true, true, true, true, true, true, true] rfl rfl (any_of HT_.out (by kernel_rfl)) (fun _ _ _ h => h) (Or.inl ⟨by rfl, ?_⟩) ?_ ?_))
set_option hygiene true
mutual
def shibbolethref06_Bytes.l0 : Nat → List Int → Int → Int → Int → List (S102) → Int → List Int → Int → Option (List Int)
 | 0, _, _, _, _, _, _, _, _ => none
 | k + 1, x3, x4, x228000, x228001, x228002, x228003, x228004, x228005 => if x4 < x228001 then (if x3.length < 140737488355328 then (shibbolethref06_Bytes.l0 k (x3 ++ [0]) (wrap64 (x4 + 1)) x228000 x228001 x228002 x228003 x228004 x228005) else (none)) else (some x3)
def shibbolethref06_Bytes.l1 : Nat → List Int → Int → Int → Int → List (S102) → Int → List Int → Int → Option (List Int)
 | 0, _, _, _, _, _, _, _, _ => none
 | k + 1, x3, x5, x228000, x228001, x228002, x228003, x228004, x228005 => if x5 < (x228002.length : Int) then (if x5 > 0 then (if 0 ≤ (wrap64 (x5 - 1)) then (if (wrap64 (x5 - 1)) < (x228002.length : Int) then (if 0 ≤ x5 then ((shibbolethref01_Bytes.f k (wrap64 ((wrap64 (((rd_T102 x228002 (wrap64 (x5 - 1))).f0) - ((rd_T102 x228002 x5).f1))) - 2))).bind fun t249 => (if x3.length + t249.length < 140737488355328 then ((some (x3 ++ t249 : List Int)).bind fun y252 => ((shibbolethref01_Bytes.f k (wrap64 (((rd_T102 x228002 x5).f1) - ((rd_T102 x228002 x5).f0)))).bind fun t257 => (if y252.length + t257.length < 140737488355328 then (shibbolethref06_Bytes.l1 k (y252 ++ t257) (wrap64 (x5 + 1)) x228000 x228001 x228002 x228003 x228004 x228005) else (none)))) else (none))) else (none)) else (none)) else (none)) else (if 0 ≤ x5 then ((shibbolethref01_Bytes.f k (wrap64 (((rd_T102 x228002 x5).f1) - ((rd_T102 x228002 x5).f0)))).bind fun t265 => (if x3.length + t265.length < 140737488355328 then (shibbolethref06_Bytes.l1 k (x3 ++ t265) (wrap64 (x5 + 1)) x228000 x228001 x228002 x228003 x228004 x228005) else (none))) else (none))) else (some x3)
end
def shibbolethref06_Bytes.f (k : Nat) (a0_0 : Int) (a0_1 : Int) (l0_2 : List (S102)) (a0_3 : Int) (l0_4 : List Int) (a0_5 : Int) : Option (List Int) := (some (([(a0_0) % 256] : List Int) : List Int)).bind fun y228 => (pu200_)
theorem shibbolethref06_Bytes.mono_l : ∀ k, (∀ y0 y1 y2 y3 y4 y5 y6 y7, LeO (shibbolethref06_Bytes.l0 k y0 y1 y2 y3 y4 y5 y6 y7) (shibbolethref06_Bytes.l0 (k + 1) y0 y1 y2 y3 y4 y5 y6 y7)) ∧ (∀ y0 y1 y2 y3 y4 y5 y6 y7, LeO (shibbolethref06_Bytes.l1 k y0 y1 y2 y3 y4 y5 y6 y7) (shibbolethref06_Bytes.l1 (k + 1) y0 y1 y2 y3 y4 y5 y6 y7))
 | 0 => ⟨fun _ _ _ _ _ _ _ _ r h => by simp [shibbolethref06_Bytes.l0] at h, fun _ _ _ _ _ _ _ _ r h => by simp [shibbolethref06_Bytes.l1] at h⟩
 | k + 1 => by
  obtain ⟨ih0, ih1⟩ := shibbolethref06_Bytes.mono_l k
  refine ⟨?_, ?_⟩
  ·intro y0 y1 y2 y3 y4 y5 y6 y7
   unfold shibbolethref06_Bytes.l0
   repeat' first
   | (with_reducible exact ih0 _ _ _ _ _ _ _ _)
   | (with_reducible exact ih1 _ _ _ _ _ _ _ _)
   | (with_reducible exact shibbolethref01_Bytes.mono _ _)
   | (with_reducible exact shibbolethref01_Give.mono _ _)
   | (with_reducible exact LeO.refl _)
   | (with_reducible exact LeO.none _)
   | (with_reducible refine LeO.ite ?_ ?_)
   | (with_reducible refine LeO.bind ?_ (fun _ => ?_))
   | exact ih0 _ _ _ _ _ _ _ _
   | exact ih1 _ _ _ _ _ _ _ _
   | exact shibbolethref01_Bytes.mono _ _
   | exact shibbolethref01_Give.mono _ _
   | exact LeO.none _
   | refine LeO.ite ?_ ?_
   | refine LeO.bind ?_ (fun _ => ?_)
  ·intro y0 y1 y2 y3 y4 y5 y6 y7
   unfold shibbolethref06_Bytes.l1
   repeat' first
   | (with_reducible exact ih0 _ _ _ _ _ _ _ _)
   | (with_reducible exact ih1 _ _ _ _ _ _ _ _)
   | (with_reducible exact shibbolethref01_Bytes.mono _ _)
   | (with_reducible exact shibbolethref01_Give.mono _ _)
   | (with_reducible exact LeO.refl _)
   | (with_reducible exact LeO.none _)
   | (with_reducible refine LeO.ite ?_ ?_)
   | (with_reducible refine LeO.bind ?_ (fun _ => ?_))
   | exact ih0 _ _ _ _ _ _ _ _
   | exact ih1 _ _ _ _ _ _ _ _
   | exact shibbolethref01_Bytes.mono _ _
   | exact shibbolethref01_Give.mono _ _
   | exact LeO.none _
   | refine LeO.ite ?_ ?_
   | refine LeO.bind ?_ (fun _ => ?_)
theorem shibbolethref06_Bytes.mono : ∀ a0 a1 a2 a3 a4 a5 k, LeO (shibbolethref06_Bytes.f k a0 a1 a2 a3 a4 a5) (shibbolethref06_Bytes.f (k + 1) a0 a1 a2 a3 a4 a5) := by
 intro a0 a1 a2 a3 a4 a5 k
 obtain ⟨ih0, ih1⟩ := shibbolethref06_Bytes.mono_l k
 unfold shibbolethref06_Bytes.f
 repeat' first
   | (with_reducible exact ih0 _ _ _ _ _ _ _ _)
   | (with_reducible exact ih1 _ _ _ _ _ _ _ _)
   | (with_reducible exact shibbolethref01_Bytes.mono _ _)
   | (with_reducible exact shibbolethref01_Give.mono _ _)
   | (with_reducible exact LeO.refl _)
   | (with_reducible exact LeO.none _)
   | (with_reducible refine LeO.ite ?_ ?_)
   | (with_reducible refine LeO.bind ?_ (fun _ => ?_))
   | exact ih0 _ _ _ _ _ _ _ _
   | exact ih1 _ _ _ _ _ _ _ _
   | exact shibbolethref01_Bytes.mono _ _
   | exact shibbolethref01_Give.mono _ _
   | exact LeO.none _
   | refine LeO.ite ?_ ?_
   | refine LeO.bind ?_ (fun _ => ?_)
def shibbolethref06_Bytes.T15 : Bool × List (List Nat × List Nat) := (true, [([], []), ([], []), ([1], [1]), ([], []), ([3], [3]), ([2, 4], [2, 4]), ([5], [5]), ([6], [6]), ([], []), ([8], [8]), ([], []), ([9, 10], [9, 10]), ([11], [11]), ([12], [12]), ([7, 13], [7, 13]), ([14], [14]), ([15], [15]), ([0, 16, 16], [0, 16]), ([17, 17, 0, 1, 2, 3, 4, 5, 6, 7, 8, 9, 10, 11, 12, 13, 14, 15, 16, 17], [0, 17])])
def shibbolethref06_Bytes.B15 : List Nat := [0, 0, 2, 0, 8, 30, 62, 126, 0, 256, 0, 1792, 3840, 7936, 16382, 32766, 65534, 131071, 262143]
theorem shibbolethref06_Bytes.tab15 : rtab .any (opsOf Tryd.f69 15) = shibbolethref06_Bytes.T15 := by kernel_rfl
theorem shibbolethref06_Bytes.bits15 : waitsOk shibbolethref06_Bytes.T15.2 shibbolethref06_Bytes.B15 = true := by kernel_rfl
def shibbolethref06_Bytes.T16 : Bool × List (List Nat × List Nat) := (true, [([], []), ([], []), ([1], [1]), ([], []), ([2, 3], [2, 3]), ([4], [4]), ([5], [5]), ([], []), ([7], [7]), ([], []), ([8, 9], [8, 9]), ([10], [10]), ([11], [11]), ([6, 12], [6, 12]), ([13], [13]), ([0, 14, 14], [0, 14]), ([15, 15, 0, 1, 2, 3, 4, 5, 6, 7, 8, 9, 10, 11, 12, 13, 14, 15], [0, 15])])
def shibbolethref06_Bytes.B16 : List Nat := [0, 0, 2, 0, 14, 30, 62, 0, 128, 0, 896, 1920, 3968, 8190, 16382, 32767, 65535]
theorem shibbolethref06_Bytes.tab16 : rtab .any (opsOf Tryd.f69 16) = shibbolethref06_Bytes.T16 := by kernel_rfl
theorem shibbolethref06_Bytes.bits16 : waitsOk shibbolethref06_Bytes.T16.2 shibbolethref06_Bytes.B16 = true := by kernel_rfl
def shibbolethref06_Bytes.T18 : Bool × List (List Nat × List Nat) := (true, [([], []), ([], []), ([1], [1]), ([2], [2]), ([0, 3, 3], [0, 3]), ([], []), ([5], [5]), ([6, 4], [6]), ([4, 7, 7], [4, 7]), ([8, 8, 0, 1, 2, 3, 4, 5, 6, 7, 8], [0, 8])])
def shibbolethref06_Bytes.B18 : List Nat := [0, 0, 2, 6, 15, 0, 32, 127, 255, 511]
theorem shibbolethref06_Bytes.tab18 : rtab .any (opsOf Tryd.f69 18) = shibbolethref06_Bytes.T18 := by kernel_rfl
theorem shibbolethref06_Bytes.bits18 : waitsOk shibbolethref06_Bytes.T18.2 shibbolethref06_Bytes.B18 = true := by kernel_rfl
def shibbolethref06_Bytes.T22 : Bool × List (List Nat × List Nat) := (true, [([], []), ([], []), ([1], [1]), ([2], [2]), ([0, 3, 3], [0, 3]), ([], []), ([5], [5]), ([6, 4], [6]), ([4, 7, 7], [4, 7]), ([8, 8, 0, 1, 2, 3, 4, 5, 6, 7, 8], [0, 8])])
def shibbolethref06_Bytes.B22 : List Nat := [0, 0, 2, 6, 15, 0, 32, 127, 255, 511]
theorem shibbolethref06_Bytes.tab22 : rtab .any (opsOf Tryd.f69 22) = shibbolethref06_Bytes.T22 := by kernel_rfl
theorem shibbolethref06_Bytes.bits22 : waitsOk shibbolethref06_Bytes.T22.2 shibbolethref06_Bytes.B22 = true := by kernel_rfl
set_option maxHeartbeats 8000000 in
set_option maxRecDepth 100000 in
theorem shibbolethref06_Bytes.calls (k : Nat) (a0_0 : Int) (a0_1 : Int) (A0_2 : Option Addr) (c0_2 : Nat) (l0_2 : List (S102)) (a0_3 : Int) (A0_4 : Option Addr) (c0_4 : Nat) (l0_4 : List Int) (a0_5 : Int) (r : List Int) (w : World) (hr0_2 : Kd.C k102 w A0_2 l0_2.length l0_2) (hc0_2 : l0_2.length ≤ c0_2) (hr0_4 : Kd.C (Kd.int .u8) w A0_4 l0_4.length l0_4) (hc0_4 : l0_4.length ≤ c0_4) (h : shibbolethref06_Bytes.f k a0_0 a0_1 l0_2 a0_3 l0_4 a0_5 = some r) :
  Calls Tryd.prog 69 #[.agg #[.int .i64 a0_0, .int .i64 a0_1, .slice A0_2 l0_2.length c0_2, .int .i64 a0_3, .slice A0_4 l0_4.length c0_4, .int .i64 a0_5]] w fun e w' => ∃ v0_ : Value, e = .returned (v0_) ∧ Kd.R (Kd.int .u8) 5 w' w.heap.size (fun _ => True) v0_ r ∧ Below w.heap.size w w' := by
 have hu62 := Tryd.underlying62
 have HR0_2 := Aside0.mk hr0_2
 have HC0_2 := Aside0.mk hc0_2
 clear hr0_2 hc0_2
 have HR0_4 := Aside0.mk hr0_4
 have HC0_4 := Aside0.mk hc0_4
 clear hr0_4 hc0_4
 have HB := Aside0.mk (Below.refl w.heap.size w)
 have H : ((some (([(a0_0) % 256] : List Int) : List Int)).bind fun y228 => (pu200_)) = some r := h
 clear h
 obtain ⟨y228, hy228⟩ : ∃ y_ : List Int, y_ = (([(a0_0) % 256] : List Int)) := ⟨_, rfl⟩
 replace H : (pu200_) = some r := by first | (rw [hy228]; with_reducible exact H) | (have H2_ := (Option.bind_some _ _).symm.trans H; rw [hy228]; with_reducible exact H2_) | (have H2_ := (Option.bind_some _ _).symm.trans H; with_reducible exact H2_) | with_reducible exact H | (rw [hy228]; exact H) | exact H
 have Ny228 := Aside0.mk hy228
 clear hy228
 by_cases c2 : a0_0 = 0
 ·rw [if_pos c2] at H
  have c2b0 : (a0_0 == 0) = true := beq_iff_eq.mpr c2
  have c2b1 : (a0_0 != 0) = false := bne_eq_false_iff_eq.mpr c2
  clear c2
  have H' := Aside0.mk H
  clear H
  go_enter Tryd.func69, Tryd.ntmps69
  go_wp2_with (first | ((with_reducible refine gate_dst (N := 1) rfl ?_); refine box_event ?hg (N := 1) ?hd (cs := #[.int .i64 a0_0, .int .i64 a0_1, .slice A0_2 l0_2.length c0_2, .int .i64 a0_3, .slice A0_4 l0_4.length c0_4, .int .i64 a0_5]) (t := 62) ?hr ?_; (case hd => rfl); (case hg => rfl); (case hr => first | (go_simp; done) | (go_simp; rfl)); intro gb227 hg w3 hbox hb; have n0_ := Aside0.mk (below_step (by qc0_) hb); have n1_ := Aside0.mk (hbox); have n2_ := Aside0.mk ((pu202_)); have n3_ := Aside0.mk ((pu202_)); clear HB; have HB := n0_; have BK227 := n1_; have GW227 := n2_; have GE227 := n3_; clear n0_ n1_ n2_ n3_; clear hb hbox hg; have hcz4_0 : w3.cell? ⟨gb227, 0, none⟩ = some (.int .i64 a0_0) := (blk_cell BK227.out 0).trans rfl; have hcz4_1 : w3.cell? ⟨gb227, 1, none⟩ = some (.int .i64 a0_1) := (blk_cell BK227.out 1).trans rfl; have hcz4_2 : w3.cell? ⟨gb227, 2, none⟩ = some (.slice A0_2 l0_2.length c0_2) := (blk_cell BK227.out 2).trans rfl; have hcz4_3 : w3.cell? ⟨gb227, 3, none⟩ = some (.int .i64 a0_3) := (blk_cell BK227.out 3).trans rfl; have hcz4_4 : w3.cell? ⟨gb227, 4, none⟩ = some (.slice A0_4 l0_4.length c0_4) := (blk_cell BK227.out 4).trans rfl; have hcz4_5 : w3.cell? ⟨gb227, 5, none⟩ = some (.int .i64 a0_5) := (blk_cell BK227.out 5).trans rfl; have hfz4_0 := blk_frozen BK227.out 0; have hfz4_1 := blk_frozen BK227.out 1; have hfz4_2 := blk_frozen BK227.out 2; have hfz4_3 := blk_frozen BK227.out 3; have hfz4_4 := blk_frozen BK227.out 4; have hfz4_5 := blk_frozen BK227.out 5) | ((with_reducible refine gate_dst (N := 9) rfl ?_); refine Kd.R_lit (Kd.int .u8) _ 5 ?hg (N := 9) ?hd (xs := ([(a0_0) % 256] : List Int)) (inner := [.int .u8 ((a0_0) % 256)]) (ok := fun _ => True) (okp := fun _ => True) ?hr ?hp (fun _ hk => hk) trivial (Below.refl _ _) (Nat.le_refl _) (by simp) ?_; (case hd => rfl); (case hg => rfl); (case hr => first | (go_simp; done) | (go_simp; rfl)); (case hp => exact (Reps.one (show Kd.M (Kd.int .u8) _ _ _ ((a0_0) % 256) [.int .u8 ((a0_0) % 256)] from rfl) (Reps.none _ _))); intro v229 w5 ho6 hb hg_ hnew_; clear hg_ hnew_; (first | rw [← Ny228.out] at ho6 | (simp only [Int.reduceToNat] at ho6; rw [← Ny228.out] at ho6)); have n0_ := Aside0.mk (Kd.R_lower ho6 (below_size (by qb1_ GE227))); have n1_ := Aside0.mk (blk_below (g := gb227) (o := (ou200_)) (by qk_; exact BK227.out) hb); have n2_ := Aside0.mk (below_step (by qb1_ GE227) hb); clear BK227; clear HB; have HO230 := n0_; have BK227 := n1_; have HB := n2_; clear n0_ n1_ n2_; clear hb ho6; have hcz7_0 : w5.cell? ⟨gb227, 0, none⟩ = some (.int .i64 a0_0) := (blk_cell BK227.out 0).trans rfl; have hcz7_1 : w5.cell? ⟨gb227, 1, none⟩ = some (.int .i64 a0_1) := (blk_cell BK227.out 1).trans rfl; have hcz7_2 : w5.cell? ⟨gb227, 2, none⟩ = some (.slice A0_2 l0_2.length c0_2) := (blk_cell BK227.out 2).trans rfl; have hcz7_3 : w5.cell? ⟨gb227, 3, none⟩ = some (.int .i64 a0_3) := (blk_cell BK227.out 3).trans rfl; have hcz7_4 : w5.cell? ⟨gb227, 4, none⟩ = some (.slice A0_4 l0_4.length c0_4) := (blk_cell BK227.out 4).trans rfl; have hcz7_5 : w5.cell? ⟨gb227, 5, none⟩ = some (.int .i64 a0_5) := (blk_cell BK227.out 5).trans rfl; have hfz7_0 := blk_frozen BK227.out 0; have hfz7_1 := blk_frozen BK227.out 1; have hfz7_2 := blk_frozen BK227.out 2; have hfz7_3 := blk_frozen BK227.out 3; have hfz7_4 := blk_frozen BK227.out 4; have hfz7_5 := blk_frozen BK227.out 5))
  go_loopg [3, 4] k (fun kq v3 v4 w' => ∃ (x3_1 : List Int) (x4_1 : Int), v4 = .int .i64 x4_1 ∧ Aside0 (shibbolethref06_Bytes.l0 kq x3_1 x4_1 a0_0 a0_1 l0_2 a0_3 l0_4 a0_5 = some r) ∧ Aside0 (kq ≤ k) ∧ Aside0 (Kd.R (Kd.int .u8) 5 w' w.heap.size (fun _ => True) v3 x3_1) ∧ Aside0 (w'.heap[gb227]? = some (.cells #[.int .i64 a0_0, .int .i64 a0_1, (.slice A0_2 l0_2.length c0_2), .int .i64 a0_3, (.slice A0_4 l0_4.length c0_4), .int .i64 a0_5] 62 (0, 0))) ∧ Aside0 (Below w.heap.size w w'))
  case atStart => exact ⟨(y228), (1), (pu209_), H', ⟨Nat.le_refl _⟩, ⟨by qR_; exact HO230.out⟩, ⟨by qk_; exact BK227.out⟩, ⟨by qb1_ GE227⟩⟩
  case round =>
   clear H'
   try clear c2
   try clear c2b0
   try clear c2b1
   try clear p2
   try clear c6
   try clear p6
   try clear hcz4_0
   try clear hcz4_1
   try clear hcz4_2
   try clear hcz4_3
   try clear hcz4_4
   try clear hcz4_5
   try clear hcz7_0
   try clear hcz7_1
   try clear hcz7_2
   try clear hcz7_3
   try clear hcz7_4
   try clear hcz7_5
   try clear hfz4_0
   try clear hfz4_1
   try clear hfz4_2
   try clear hfz4_3
   try clear hfz4_4
   try clear hfz4_5
   try clear hfz7_0
   try clear hfz7_1
   try clear hfz7_2
   try clear hfz7_3
   try clear hfz7_4
   try clear hfz7_5
   obtain ⟨x3_1, x4_1, rfl, HA, HK1, HO_3, BK227, HB⟩ := hrel
   cases gk with
   | zero => exact absurd HA.out (by simp [shibbolethref06_Bytes.l0])
   | succ k1 =>
    have H := HA.out
    clear HA
    simp only [shibbolethref06_Bytes.l0] at H
    by_cases c8 : x4_1 < a0_1
    ·rw [if_pos c8] at H
     have c8b0 : decide (x4_1 < a0_1) = true := decide_eq_true c8
     clear c8
     by_cases c9 : x3_1.length < 140737488355328
     ·rw [if_pos c9] at H
      have LMc9 := Aside0.mk c9
      clear c9
      obtain ⟨y231, hy231⟩ : ∃ y_ : List Int, y_ = (x3_1 ++ [0]) := ⟨_, rfl⟩
      replace H : (shibbolethref06_Bytes.l0 k1 y231 (wrap64 (x4_1 + 1)) a0_0 a0_1 l0_2 a0_3 l0_4 a0_5) = some r := by first | (rw [hy231]; with_reducible exact H) | (have H2_ := (Option.bind_some _ _).symm.trans H; rw [hy231]; with_reducible exact H2_) | (have H2_ := (Option.bind_some _ _).symm.trans H; with_reducible exact H2_) | with_reducible exact H | (rw [hy231]; exact H) | exact H
      have Ny231 := Aside0.mk hy231
      clear hy231
      have H' := Aside0.mk H
      clear H
      have hcz10_0 : wr.cell? ⟨gb227, 0, none⟩ = some (.int .i64 a0_0) := (blk_cell BK227.out 0).trans rfl
      have hcz10_1 : wr.cell? ⟨gb227, 1, none⟩ = some (.int .i64 a0_1) := (blk_cell BK227.out 1).trans rfl
      have hcz10_2 : wr.cell? ⟨gb227, 2, none⟩ = some (.slice A0_2 l0_2.length c0_2) := (blk_cell BK227.out 2).trans rfl
      have hcz10_3 : wr.cell? ⟨gb227, 3, none⟩ = some (.int .i64 a0_3) := (blk_cell BK227.out 3).trans rfl
      have hcz10_4 : wr.cell? ⟨gb227, 4, none⟩ = some (.slice A0_4 l0_4.length c0_4) := (blk_cell BK227.out 4).trans rfl
      have hcz10_5 : wr.cell? ⟨gb227, 5, none⟩ = some (.int .i64 a0_5) := (blk_cell BK227.out 5).trans rfl
      have hfz10_0 := blk_frozen BK227.out 0
      have hfz10_1 := blk_frozen BK227.out 1
      have hfz10_2 := blk_frozen BK227.out 2
      have hfz10_3 := blk_frozen BK227.out 3
      have hfz10_4 := blk_frozen BK227.out 4
      have hfz10_5 := blk_frozen BK227.out 5
      go_wp2_with (first | ((with_reducible refine gate_builtin (b := .append) (xs := #[.tmp 20, .tmp 21]) rfl ?_); at_builtin; refine Kd.R_append (Kd.int .u8) (w0 := w) w.heap.size rfl (.tmp 20) (.tmp 21) 22 5 (.int .u8 0) 1 rfl Tryd.underlying22 info5 rfl (by decide) (by omega) u3 x3_1 0 [.int .u8 0] (fun _ => True) (fun _ => False) rfl rfl ?aP (fun _ hk => hk.elim) ?aF ?aO ?aB ?aS ?aL ?_; (case aP => exact rfl); (case aB => exact (by qb1_ GE227)); (case aF => exact (fun _ _ => trivial)); (case aO => exact (by qR_; exact HO_3.out)); (case aS => exact (below_size (by qb1_ GE227))); (case aL => have := LMc9.out; omega); intro v232 w11 ho hb hg hat; rw [← Ny231.out] at ho; have n0_ := Aside0.mk (blk_grown (g := gb227) (o := (ou200_)) (by qk_; exact BK227.out) hg (Kd.R_ne HO_3.out BK227.out (by decide))); have n1_ := Aside0.mk (hb); have n2_ := Aside0.mk (ho); clear BK227; clear HB; clear HO_3; have BK227 := n0_; have HB := n1_; have HO233 := n2_; clear n0_ n1_ n2_; clear ho hb hg hat))
      go_roundg k1
      case measure => have := HK1.out; omega
      case rel => exact ⟨(y231), (wrap64 (x4_1 + 1)), (pu209_), H', ⟨by have := HK1.out; omega⟩, ⟨by qR_; exact HO233.out⟩, ⟨by qk_; exact BK227.out⟩, ⟨by qb1_ GE227⟩⟩
     ·rw [if_neg c9] at H
      exact absurd H (by simp)
    ·rw [if_neg c8] at H
     have c8b0 : decide (x4_1 < a0_1) = false := decide_eq_false c8
     clear c8
     obtain rfl := Option.some.inj H
     have hcz12_0 : wr.cell? ⟨gb227, 0, none⟩ = some (.int .i64 a0_0) := (blk_cell BK227.out 0).trans rfl
     have hcz12_1 : wr.cell? ⟨gb227, 1, none⟩ = some (.int .i64 a0_1) := (blk_cell BK227.out 1).trans rfl
     have hcz12_2 : wr.cell? ⟨gb227, 2, none⟩ = some (.slice A0_2 l0_2.length c0_2) := (blk_cell BK227.out 2).trans rfl
     have hcz12_3 : wr.cell? ⟨gb227, 3, none⟩ = some (.int .i64 a0_3) := (blk_cell BK227.out 3).trans rfl
     have hcz12_4 : wr.cell? ⟨gb227, 4, none⟩ = some (.slice A0_4 l0_4.length c0_4) := (blk_cell BK227.out 4).trans rfl
     have hcz12_5 : wr.cell? ⟨gb227, 5, none⟩ = some (.int .i64 a0_5) := (blk_cell BK227.out 5).trans rfl
     have hfz12_0 := blk_frozen BK227.out 0
     have hfz12_1 := blk_frozen BK227.out 1
     have hfz12_2 := blk_frozen BK227.out 2
     have hfz12_3 := blk_frozen BK227.out 3
     have hfz12_4 := blk_frozen BK227.out 4
     have hfz12_5 := blk_frozen BK227.out 5
     go_wp2
     go_ret
     lu200_
 ·rw [if_neg c2] at H
  have c2b0 : (a0_0 == 0) = false := beq_eq_false_iff_ne.mpr c2
  have c2b1 : (a0_0 != 0) = true := bne_iff_ne.mpr c2
  by_cases c13 : a0_0 = 2
  ·rw [if_pos c13] at H
   have c13b0 : (a0_0 == 2) = true := beq_iff_eq.mpr c13
   have c13b1 : (a0_0 != 2) = false := bne_eq_false_iff_eq.mpr c13
   clear c13
   by_cases c14 : 0 < (l0_2.length : Int)
   ·rw [if_pos c14] at H
    have c14b0 : decide (0 < (l0_2.length : Int)) = true := decide_eq_true c14
    have c14b1 : decide (0 < l0_2.length) = true := decide_eq_true (by omega)
    clear c14
    lu201_
    obtain ⟨t235, A150, H⟩ := H
    replace H : (if y228.length + t235.length < 140737488355328 then ((some (y228 ++ t235 : List Int)).bind fun y238 => ((shibbolethref01_Bytes.f k (wrap64 ((l0_2.length : Int) - 1))).bind fun t241 => (pu205_))) else (none)) = some r := H
    have A15 := Aside0.mk A150
    clear A150
    by_cases c16 : y228.length + t235.length < 140737488355328
    ·rw [if_pos c16] at H
     have LMc16 := Aside0.mk c16
     clear c16
     obtain ⟨y238, hy238⟩ : ∃ y_ : List Int, y_ = (y228 ++ t235) := ⟨_, rfl⟩
     replace H : ((shibbolethref01_Bytes.f k (wrap64 ((l0_2.length : Int) - 1))).bind fun t241 => (pu205_)) = some r := by first | (rw [hy238]; with_reducible exact H) | (have H2_ := (Option.bind_some _ _).symm.trans H; rw [hy238]; with_reducible exact H2_) | (have H2_ := (Option.bind_some _ _).symm.trans H; with_reducible exact H2_) | with_reducible exact H | (rw [hy238]; exact H) | exact H
     have Ny238 := Aside0.mk hy238
     clear hy238
     lu201_
     obtain ⟨t241, A170, H⟩ := H
     replace H : (pu205_) = some r := H
     have A17 := Aside0.mk A170
     clear A170
     by_cases c18 : y238.length + t241.length < 140737488355328
     ·rw [if_pos c18] at H
      have LMc18 := Aside0.mk c18
      clear c18
      obtain ⟨y244, hy244⟩ : ∃ y_ : List Int, y_ = (y238 ++ t241) := ⟨_, rfl⟩
      replace H : (shibbolethref06_Bytes.l1 k y244 0 a0_0 a0_1 l0_2 a0_3 l0_4 a0_5) = some r := by first | (rw [hy244]; with_reducible exact H) | (have H2_ := (Option.bind_some _ _).symm.trans H; rw [hy244]; with_reducible exact H2_) | (have H2_ := (Option.bind_some _ _).symm.trans H; with_reducible exact H2_) | with_reducible exact H | (rw [hy244]; exact H) | exact H
      have Ny244 := Aside0.mk hy244
      clear hy244
      have H' := Aside0.mk H
      clear H
      go_enter Tryd.func69, Tryd.ntmps69
      go_wp2_with (first | ((with_reducible refine gate_dst (N := 1) rfl ?_); refine box_event ?hg (N := 1) ?hd (cs := #[.int .i64 a0_0, .int .i64 a0_1, .slice A0_2 l0_2.length c0_2, .int .i64 a0_3, .slice A0_4 l0_4.length c0_4, .int .i64 a0_5]) (t := 62) ?hr ?_; (case hd => rfl); (case hg => rfl); (case hr => first | (go_simp; done) | (go_simp; rfl)); intro gb227 hg w19 hbox hb; have n0_ := Aside0.mk (below_step (by qc0_) hb); have n1_ := Aside0.mk (hbox); have n2_ := Aside0.mk ((pu202_)); have n3_ := Aside0.mk ((pu202_)); clear HB; have HB := n0_; have BK227 := n1_; have GW227 := n2_; have GE227 := n3_; clear n0_ n1_ n2_ n3_; clear hb hbox hg; have hcz20_0 : w19.cell? ⟨gb227, 0, none⟩ = some (.int .i64 a0_0) := (blk_cell BK227.out 0).trans rfl; have hcz20_1 : w19.cell? ⟨gb227, 1, none⟩ = some (.int .i64 a0_1) := (blk_cell BK227.out 1).trans rfl; have hcz20_2 : w19.cell? ⟨gb227, 2, none⟩ = some (.slice A0_2 l0_2.length c0_2) := (blk_cell BK227.out 2).trans rfl; have hcz20_3 : w19.cell? ⟨gb227, 3, none⟩ = some (.int .i64 a0_3) := (blk_cell BK227.out 3).trans rfl; have hcz20_4 : w19.cell? ⟨gb227, 4, none⟩ = some (.slice A0_4 l0_4.length c0_4) := (blk_cell BK227.out 4).trans rfl; have hcz20_5 : w19.cell? ⟨gb227, 5, none⟩ = some (.int .i64 a0_5) := (blk_cell BK227.out 5).trans rfl; have hfz20_0 := blk_frozen BK227.out 0; have hfz20_1 := blk_frozen BK227.out 1; have hfz20_2 := blk_frozen BK227.out 2; have hfz20_3 := blk_frozen BK227.out 3; have hfz20_4 := blk_frozen BK227.out 4; have hfz20_5 := blk_frozen BK227.out 5) | ((with_reducible refine gate_dst (N := 9) rfl ?_); refine Kd.R_lit (Kd.int .u8) _ 5 ?hg (N := 9) ?hd (xs := ([(a0_0) % 256] : List Int)) (inner := [.int .u8 ((a0_0) % 256)]) (ok := fun _ => True) (okp := fun _ => True) ?hr ?hp (fun _ hk => hk) trivial (Below.refl _ _) (Nat.le_refl _) (by simp) ?_; (case hd => rfl); (case hg => rfl); (case hr => first | (go_simp; done) | (go_simp; rfl)); (case hp => exact (Reps.one (show Kd.M (Kd.int .u8) _ _ _ ((a0_0) % 256) [.int .u8 ((a0_0) % 256)] from rfl) (Reps.none _ _))); intro v229 w21 ho22 hb hg_ hnew_; clear hg_ hnew_; (first | rw [← Ny228.out] at ho22 | (simp only [Int.reduceToNat] at ho22; rw [← Ny228.out] at ho22)); have n0_ := Aside0.mk (Kd.R_lower ho22 (below_size (by qb1_ GE227))); have n1_ := Aside0.mk (blk_below (g := gb227) (o := (ou200_)) (by qk_; exact BK227.out) hb); have n2_ := Aside0.mk (below_step (by qb1_ GE227) hb); clear BK227; clear HB; have HO230 := n0_; have BK227 := n1_; have HB := n2_; clear n0_ n1_ n2_; clear hb ho22; have hcz23_0 : w21.cell? ⟨gb227, 0, none⟩ = some (.int .i64 a0_0) := (blk_cell BK227.out 0).trans rfl; have hcz23_1 : w21.cell? ⟨gb227, 1, none⟩ = some (.int .i64 a0_1) := (blk_cell BK227.out 1).trans rfl; have hcz23_2 : w21.cell? ⟨gb227, 2, none⟩ = some (.slice A0_2 l0_2.length c0_2) := (blk_cell BK227.out 2).trans rfl; have hcz23_3 : w21.cell? ⟨gb227, 3, none⟩ = some (.int .i64 a0_3) := (blk_cell BK227.out 3).trans rfl; have hcz23_4 : w21.cell? ⟨gb227, 4, none⟩ = some (.slice A0_4 l0_4.length c0_4) := (blk_cell BK227.out 4).trans rfl; have hcz23_5 : w21.cell? ⟨gb227, 5, none⟩ = some (.int .i64 a0_5) := (blk_cell BK227.out 5).trans rfl; have hfz23_0 := blk_frozen BK227.out 0; have hfz23_1 := blk_frozen BK227.out 1; have hfz23_2 := blk_frozen BK227.out 2; have hfz23_3 := blk_frozen BK227.out 3; have hfz23_4 := blk_frozen BK227.out 4; have hfz23_5 := blk_frozen BK227.out 5; have p234 : 0 ≤ (0 : Int) := (by omega); have q234 : 0 < (l0_2.length : Int) := of_decide_eq_true (pu203_); obtain ⟨ad234, e234, hx234_0, hx234_1⟩ := at_T102 HR0_2.out 0 p234 q234; cases e234; have qi234 : (0 < l0_2.length) = True := eq_true (by omega); (try rw [show ((0 : Int)).toNat = 0 from rfl] at hx234_0); (try rw [show 0 * 2 = 0 from rfl] at hx234_0); (try rw [Addr.add_zero'] at hx234_0); (try rw [show ((0 : Int)).toNat = 0 from rfl] at hx234_1); (try rw [show 0 * 2 = 0 from rfl] at hx234_1); (try rw [Addr.add_zero'] at hx234_1); replace hx234_0 := (HB.out.cell (World.block_lt_of_cell? w _ hx234_0)).trans hx234_0; replace hx234_1 := (HB.out.cell (World.block_lt_of_cell? w _ hx234_1)).trans hx234_1; replace p234 := eq_true p234; replace q234 := eq_true q234) | ((with_reducible refine gate_callee (f := 23) rfl ?_); refine goesL_ (some 31) rfl rfl Tryd.func23 (by kernel_rfl) rfl #[.int .i64 ((rd_T102 l0_2 0).f1)] rfl (pu201_) ?_; (with_reducible refine (shibbolethref01_Bytes.calls k ((rd_T102 l0_2 0).f1) t235 _ A15.out).mono ?_); rintro e w24 ⟨v236, rfl, ho0, hb⟩; refine ⟨_, rfl, ?_⟩; have n0_ := Aside0.mk (Kd.R_elder' (by qR_; exact HO230.out) (Kd.R_base ho0) hb); have n1_ := Aside0.mk (Kd.R_lower (Kd.R_new' ho0 (Kd.R_lt (by qR_; exact HO230.out))) (below_size (by qb1_ GE227))); have n2_ := Aside0.mk (blk_below (g := gb227) (o := (ou201_)) (by qk_; exact BK227.out) hb); have n3_ := Aside0.mk (below_step (by qb1_ GE227) hb); clear HO230; clear BK227; clear HB; have HO230 := n0_; have HO237 := n1_; have BK227 := n2_; have HB := n3_; clear n0_ n1_ n2_ n3_; (try clear hb); (try clear hb2); (try clear hk); (try clear hi); (try clear ho0); obtain ⟨Ao26, co26, eo26⟩ := Kd.R_slice HO237.out; subst eo26) | ((with_reducible refine gate_builtin (b := .append) (xs := #[.tmp 25, .tmp 31]) rfl ?_); at_builtin; refine Kd.R_append_rows (Kd.int .u8) (w0 := w) w.heap.size rfl (.tmp 25) (.tmp 31) 22 5 (.int .u8 0) 1 rfl Tryd.underlying22 info5 rfl (by decide) (by omega) v229 y228 t235 _ _ _ (fun k_ => some k_ ≠ (.slice Ao26 t235.length co26 : Value).ownBlock) (fun _ => False) rfl rfl ?aO ?aR (fun _ _ h => h) (fun _ h => h.elim) ?aF ?aB ?aS ?aL ?_; (case aR => repeat (first | exact (Kd.R_reads' HO237.out).2.2 | (with_reducible refine Kd.C_alloc ?_ _) | (with_reducible refine Kd.C_drewN ?_ _) | (with_reducible refine Kd.C_drew ?_))); (case aB => exact (by qb1_ GE227)); (case aF => exact (fun k_ hk => Kd.fresh' (Kd.R_lt (by qR_; exact HO237.out)) k_ hk)); (case aO => exact (pu207_)); (case aS => exact (below_size (by qb1_ GE227))); (case aL => have := LMc16.out; omega); intro v239 w25 ho hb hg hat; rw [← Ny238.out] at ho; have n0_ := Aside0.mk (blk_grown (g := gb227) (o := (ou201_)) (by qk_; exact BK227.out) hg (Kd.R_ne HO230.out BK227.out (by decide))); have n1_ := Aside0.mk (Kd.R_after (ok := (fun _ => True)) (by qR_; exact HO237.out) hg hat); have n2_ := Aside0.mk (hb); have n3_ := Aside0.mk (ho); clear BK227; clear HO237; clear HB; clear HO230; have BK227 := n0_; have HO237 := n1_; have HB := n2_; have HO240 := n3_; clear n0_ n1_ n2_ n3_; clear ho hb hg hat; have hcz27_0 : w25.cell? ⟨gb227, 0, none⟩ = some (.int .i64 a0_0) := (blk_cell BK227.out 0).trans rfl; have hcz27_1 : w25.cell? ⟨gb227, 1, none⟩ = some (.int .i64 a0_1) := (blk_cell BK227.out 1).trans rfl; have hcz27_2 : w25.cell? ⟨gb227, 2, none⟩ = some (pu206_) := (blk_cell BK227.out 2).trans rfl; have hcz27_3 : w25.cell? ⟨gb227, 3, none⟩ = some (.int .i64 a0_3) := (blk_cell BK227.out 3).trans rfl; have hcz27_4 : w25.cell? ⟨gb227, 4, none⟩ = some (.slice A0_4 l0_4.length c0_4) := (blk_cell BK227.out 4).trans rfl; have hcz27_5 : w25.cell? ⟨gb227, 5, none⟩ = some (.int .i64 a0_5) := (blk_cell BK227.out 5).trans rfl; have hfz27_0 := blk_frozen BK227.out 0; have hfz27_1 := blk_frozen BK227.out 1; have hfz27_2 := blk_frozen BK227.out 2; have hfz27_3 := blk_frozen BK227.out 3; have hfz27_4 := blk_frozen BK227.out 4; have hfz27_5 := blk_frozen BK227.out 5) | ((with_reducible refine gate_callee (f := 23) rfl ?_); refine goesL_ (some 38) rfl rfl Tryd.func23 (by kernel_rfl) rfl #[.int .i64 (wrap64 ((l0_2.length : Int) - 1))] rfl (pu201_) ?_; (with_reducible refine (shibbolethref01_Bytes.calls k (wrap64 ((l0_2.length : Int) - 1)) t241 _ A17.out).mono ?_); rintro e w28 ⟨v242, rfl, ho0, hb⟩; refine ⟨_, rfl, ?_⟩; have n0_ := Aside0.mk (Kd.R_elder' (by qR_; exact HO237.out) (Kd.R_base ho0) hb); have n1_ := Aside0.mk (Kd.R_elder' (by qR_; exact HO240.out) (Kd.R_base ho0) hb); have n2_ := Aside0.mk (Kd.R_lower (Kd.R_new' (Kd.R_new' ho0 (Kd.R_lt (by qR_; exact HO237.out))) (Kd.R_lt (by qR_; exact HO240.out))) (below_size (by qb1_ GE227))); have n3_ := Aside0.mk (blk_below (g := gb227) (o := (ou201_)) (by qk_; exact BK227.out) hb); have n4_ := Aside0.mk (below_step (by qb1_ GE227) hb); clear HO237; clear HO240; clear BK227; clear HB; have HO237 := n0_; have HO240 := n1_; have HO243 := n2_; have BK227 := n3_; have HB := n4_; clear n0_ n1_ n2_ n3_ n4_; (try clear hb); (try clear hb2); (try clear hk); (try clear hi); (try clear ho0); obtain ⟨Ao30, co30, eo30⟩ := Kd.R_slice HO243.out; subst eo30) | ((with_reducible refine gate_builtin (b := .append) (xs := #[.tmp 33, .tmp 38]) rfl ?_); at_builtin; refine Kd.R_append_rows (Kd.int .u8) (w0 := w) w.heap.size rfl (.tmp 33) (.tmp 38) 22 5 (.int .u8 0) 1 rfl Tryd.underlying22 info5 rfl (by decide) (by omega) v239 y238 t241 _ _ _ (fun k_ => some k_ ≠ (.slice Ao26 t235.length co26 : Value).ownBlock ∧ some k_ ≠ (.slice Ao30 t241.length co30 : Value).ownBlock) (fun _ => False) rfl rfl ?aO ?aR (fun _ _ h => h) (fun _ h => h.elim) ?aF ?aB ?aS ?aL ?_; (case aR => repeat (first | exact (Kd.R_reads' HO243.out).2.2 | (with_reducible refine Kd.C_alloc ?_ _) | (with_reducible refine Kd.C_drewN ?_ _) | (with_reducible refine Kd.C_drew ?_))); (case aB => exact (by qb1_ GE227)); (case aF => exact (fun k_ hk => ⟨Kd.fresh' (Kd.R_lt (by qR_; exact HO237.out)) k_ hk, Kd.fresh' (Kd.R_lt (by qR_; exact HO243.out)) k_ hk⟩)); (case aO => exact (by qR_; exact HO240.out)); (case aS => exact (below_size (by qb1_ GE227))); (case aL => have := LMc18.out; omega); intro v245 w29 ho hb hg hat; rw [← Ny244.out] at ho; have n0_ := Aside0.mk (blk_grown (g := gb227) (o := (ou201_)) (by qk_; exact BK227.out) hg (Kd.R_ne HO240.out BK227.out (by decide))); have n1_ := Aside0.mk (Kd.R_after (ok := (fun k_ => some k_ ≠ (.slice Ao30 t241.length co30 : Value).ownBlock)) (by qR_; exact Kd.R_mono HO237.out (fun _ hk => ⟨hk.2, hk.1.2⟩)) hg hat); have n2_ := Aside0.mk (Kd.R_after (ok := (fun k_ => some k_ ≠ (.slice Ao26 t235.length co26 : Value).ownBlock)) (by qR_; exact Kd.R_mono HO243.out (fun _ hk => ⟨hk.1.2, hk.2⟩)) hg hat); have n3_ := Aside0.mk (hb); have n4_ := Aside0.mk (ho); clear BK227; clear HO237; clear HO243; clear HB; clear HO240; have BK227 := n0_; have HO237 := n1_; have HO243 := n2_; have HB := n3_; have HO246 := n4_; clear n0_ n1_ n2_ n3_ n4_; clear ho hb hg hat))
      go_loopg [3, 5] k (fun kq v3 v5 w' => ∃ (x3_1 : List Int) (x5_1 : Int), v5 = .int .i64 x5_1 ∧ Aside0 (shibbolethref06_Bytes.l1 kq x3_1 x5_1 a0_0 a0_1 l0_2 a0_3 l0_4 a0_5 = some r) ∧ Aside0 (kq ≤ k) ∧ Aside0 (Kd.R (Kd.int .u8) 5 w' w.heap.size (fun _ => True) v3 x3_1) ∧ Aside0 (w'.heap[gb227]? = some (.cells #[.int .i64 a0_0, .int .i64 a0_1, (pu206_), .int .i64 a0_3, (.slice A0_4 l0_4.length c0_4), .int .i64 a0_5] 62 (0, 0))) ∧ Aside0 (Below w.heap.size w w'))
      case atStart => exact ⟨(y244), (0), (pu209_), H', ⟨Nat.le_refl _⟩, ⟨by qR_; exact Kd.R_mono HO246.out (fun _ hk => trivial)⟩, ⟨by qk_; exact BK227.out⟩, ⟨by qb1_ GE227⟩⟩
      case round =>
       clear H'
       try clear c1
       try clear c2
       try clear c2b0
       try clear c2b1
       try clear p2
       try clear q2
       try clear hx2
       try clear qi2
       try clear c6
       try clear p6
       try clear c8
       try clear c8b0
       try clear c9
       try clear c13
       try clear c13b0
       try clear c13b1
       try clear c14
       try clear c14b0
       try clear c14b1
       try clear c16
       try clear c18
       try clear c23
       try clear p23
       try clear q23
       try clear hx23
       try clear qi23
       try clear hcz10_0
       try clear hcz10_1
       try clear hcz10_2
       try clear hcz10_3
       try clear hcz10_4
       try clear hcz10_5
       try clear hcz12_0
       try clear hcz12_1
       try clear hcz12_2
       try clear hcz12_3
       try clear hcz12_4
       try clear hcz12_5
       try clear hcz20_0
       try clear hcz20_1
       try clear hcz20_2
       try clear hcz20_3
       try clear hcz20_4
       try clear hcz20_5
       try clear hcz23_0
       try clear hcz23_1
       try clear hcz23_2
       try clear hcz23_3
       try clear hcz23_4
       try clear hcz23_5
       try clear hcz27_0
       try clear hcz27_1
       try clear hcz27_2
       try clear hcz27_3
       try clear hcz27_4
       try clear hcz27_5
       try clear hcz4_0
       try clear hcz4_1
       try clear hcz4_2
       try clear hcz4_3
       try clear hcz4_4
       try clear hcz4_5
       try clear hcz7_0
       try clear hcz7_1
       try clear hcz7_2
       try clear hcz7_3
       try clear hcz7_4
       try clear hcz7_5
       try clear hfz10_0
       try clear hfz10_1
       try clear hfz10_2
       try clear hfz10_3
       try clear hfz10_4
       try clear hfz10_5
       try clear hfz12_0
       try clear hfz12_1
       try clear hfz12_2
       try clear hfz12_3
       try clear hfz12_4
       try clear hfz12_5
       try clear hfz20_0
       try clear hfz20_1
       try clear hfz20_2
       try clear hfz20_3
       try clear hfz20_4
       try clear hfz20_5
       try clear hfz23_0
       try clear hfz23_1
       try clear hfz23_2
       try clear hfz23_3
       try clear hfz23_4
       try clear hfz23_5
       try clear hfz27_0
       try clear hfz27_1
       try clear hfz27_2
       try clear hfz27_3
       try clear hfz27_4
       try clear hfz27_5
       try clear hfz4_0
       try clear hfz4_1
       try clear hfz4_2
       try clear hfz4_3
       try clear hfz4_4
       try clear hfz4_5
       try clear hfz7_0
       try clear hfz7_1
       try clear hfz7_2
       try clear hfz7_3
       try clear hfz7_4
       try clear hfz7_5
       try clear hx234_0
       try clear hx234_1
       try clear p2
       try clear p234
       try clear p6
       try clear q234
       obtain ⟨x3_1, x5_1, rfl, HA, HK1, HO_3, BK227, HB⟩ := hrel
       cases gk with
       | zero => exact absurd HA.out (by simp [shibbolethref06_Bytes.l1])
       | succ k1 =>
        have H := HA.out
        clear HA
        simp only [shibbolethref06_Bytes.l1] at H
        by_cases c31 : x5_1 < (l0_2.length : Int)
        ·rw [if_pos c31] at H
         have c31b0 : decide (x5_1 < (l0_2.length : Int)) = true := decide_eq_true c31
         clear c31
         by_cases c32 : x5_1 > 0
         ·rw [if_pos c32] at H
          have c32b0 : decide (0 < x5_1) = true := decide_eq_true c32
          clear c32
          obtain ⟨ji33, hji33⟩ : ∃ j_ : Int, (wrap64 (x5_1 - 1)) = j_ := ⟨_, rfl⟩
          replace H : (if 0 ≤ (ji33) then (if (ji33) < (l0_2.length : Int) then (if 0 ≤ x5_1 then ((shibbolethref01_Bytes.f k1 (wrap64 ((wrap64 (((rd_T102 l0_2 (ji33)).f0) - ((rd_T102 l0_2 x5_1).f1))) - 2))).bind fun t249 => (if x3_1.length + t249.length < 140737488355328 then ((some (x3_1 ++ t249 : List Int)).bind fun y252 => ((pu208_).bind fun t257 => (pu204_))) else (none))) else (none)) else (none)) else (none)) = some r := by first | (rw [hji33] at H; exact H) | (simp only [hji33] at H ⊢; exact H)
          have hji33w : (IntKind.i64.wrap (x5_1 - 1)) = ji33 := (i64_w _).trans hji33
          by_cases c34 : 0 ≤ (ji33)
          ·rw [if_pos c34] at H
           have c34b0 : decide (0 ≤ (ji33)) = true := decide_eq_true c34
           clear c34
           by_cases c35 : (ji33) < (l0_2.length : Int)
           ·rw [if_pos c35] at H
            have c35b0 : decide ((ji33) < (l0_2.length : Int)) = true := decide_eq_true c35
            clear c35
            by_cases c36 : 0 ≤ x5_1
            ·rw [if_pos c36] at H
             have c36b0 : decide (0 ≤ x5_1) = true := decide_eq_true c36
             clear c36
             lu201_
             obtain ⟨t249, A370, H⟩ := H
             replace H : (if x3_1.length + t249.length < 140737488355328 then ((some (x3_1 ++ t249 : List Int)).bind fun y252 => ((pu208_).bind fun t257 => (pu204_))) else (none)) = some r := H
             have A37 := Aside0.mk A370
             clear A370
             by_cases c38 : x3_1.length + t249.length < 140737488355328
             ·rw [if_pos c38] at H
              have LMc38 := Aside0.mk c38
              clear c38
              obtain ⟨y252, hy252⟩ : ∃ y_ : List Int, y_ = (x3_1 ++ t249) := ⟨_, rfl⟩
              replace H : ((pu208_).bind fun t257 => (pu204_)) = some r := by first | (rw [hy252]; with_reducible exact H) | (have H2_ := (Option.bind_some _ _).symm.trans H; rw [hy252]; with_reducible exact H2_) | (have H2_ := (Option.bind_some _ _).symm.trans H; with_reducible exact H2_) | with_reducible exact H | (rw [hy252]; exact H) | exact H
              have Ny252 := Aside0.mk hy252
              clear hy252
              lu201_
              obtain ⟨t257, A390, H⟩ := H
              replace H : (pu204_) = some r := H
              have A39 := Aside0.mk A390
              clear A390
              by_cases c40 : y252.length + t257.length < 140737488355328
              ·rw [if_pos c40] at H
               have LMc40 := Aside0.mk c40
               clear c40
               obtain ⟨y260, hy260⟩ : ∃ y_ : List Int, y_ = (y252 ++ t257) := ⟨_, rfl⟩
               replace H : (shibbolethref06_Bytes.l1 k1 y260 (wrap64 (x5_1 + 1)) a0_0 a0_1 l0_2 a0_3 l0_4 a0_5) = some r := by first | (rw [hy260]; with_reducible exact H) | (have H2_ := (Option.bind_some _ _).symm.trans H; rw [hy260]; with_reducible exact H2_) | (have H2_ := (Option.bind_some _ _).symm.trans H; with_reducible exact H2_) | with_reducible exact H | (rw [hy260]; exact H) | exact H
               have Ny260 := Aside0.mk hy260
               clear hy260
               have H' := Aside0.mk H
               clear H
               have hcz41_0 : wr.cell? ⟨gb227, 0, none⟩ = some (.int .i64 a0_0) := (blk_cell BK227.out 0).trans rfl
               have hcz41_1 : wr.cell? ⟨gb227, 1, none⟩ = some (.int .i64 a0_1) := (blk_cell BK227.out 1).trans rfl
               have hcz41_2 : wr.cell? ⟨gb227, 2, none⟩ = some (pu206_) := (blk_cell BK227.out 2).trans rfl
               have hcz41_3 : wr.cell? ⟨gb227, 3, none⟩ = some (.int .i64 a0_3) := (blk_cell BK227.out 3).trans rfl
               have hcz41_4 : wr.cell? ⟨gb227, 4, none⟩ = some (.slice A0_4 l0_4.length c0_4) := (blk_cell BK227.out 4).trans rfl
               have hcz41_5 : wr.cell? ⟨gb227, 5, none⟩ = some (.int .i64 a0_5) := (blk_cell BK227.out 5).trans rfl
               have hfz41_0 := blk_frozen BK227.out 0
               have hfz41_1 := blk_frozen BK227.out 1
               have hfz41_2 := blk_frozen BK227.out 2
               have hfz41_3 := blk_frozen BK227.out 3
               have hfz41_4 := blk_frozen BK227.out 4
               have hfz41_5 := blk_frozen BK227.out 5
               try go_wp2
               have n0_ := Aside0.mk (Kd.R_drew HO_3.out)
               have n1_ := Aside0.mk (blk_drew BK227.out)
               have n2_ := Aside0.mk (below_drew1 HB.out)
               clear HO_3
               clear BK227
               clear HB
               have HO_3 := n0_
               have BK227 := n1_
               have HB := n2_
               clear n0_ n1_ n2_
               have p247 : 0 ≤ ((ji33) : Int) := of_decide_eq_true (pu203_)
               have q247 : (ji33) < (l0_2.length : Int) := of_decide_eq_true (pu203_)
               obtain ⟨ad247, e247, hx247_0, hx247_1⟩ := at_T102 HR0_2.out (ji33) p247 q247
               have hw247_1 := hx247_1
               have hw247_0 := hx247_0
               obtain rfl : ad234 = ad247 := (by injection e247)
               replace hx247_0 := (HB.out.cell (World.block_lt_of_cell? w _ hx247_0)).trans hx247_0
               replace hx247_1 := (HB.out.cell (World.block_lt_of_cell? w _ hx247_1)).trans hx247_1
               replace p247 := eq_true p247
               replace q247 := eq_true q247
               have p248 : 0 ≤ (x5_1 : Int) := of_decide_eq_true (pu203_)
               have q248 : x5_1 < (l0_2.length : Int) := of_decide_eq_true (pu203_)
               obtain ⟨ad248, e248, hx248_0, hx248_1⟩ := at_T102 HR0_2.out x5_1 p248 q248
               have hw248_1 := hx248_1
               have hw248_0 := hx248_0
               obtain rfl : ad234 = ad248 := (by injection e248)
               replace hx248_0 := (HB.out.cell (World.block_lt_of_cell? w _ hx248_0)).trans hx248_0
               replace hx248_1 := (HB.out.cell (World.block_lt_of_cell? w _ hx248_1)).trans hx248_1
               replace p248 := eq_true p248
               replace q248 := eq_true q248
               refine start_ (n := 19) (S := fun w' => w'.cell? ⟨gb227, 0, none⟩ = some (.int .i64 a0_0) ∧ w'.cell? ⟨gb227, 1, none⟩ = some (.int .i64 a0_1) ∧ w'.cell? ⟨gb227, 2, none⟩ = some (pu206_) ∧ w'.cell? ⟨gb227, 3, none⟩ = some (.int .i64 a0_3) ∧ w'.cell? ⟨gb227, 4, none⟩ = some (.slice A0_4 l0_4.length c0_4) ∧ w'.cell? ⟨gb227, 5, none⟩ = some (.int .i64 a0_5) ∧ w'.cell? (ad234.add (((ji33)).toNat * 2)) = some (.int .i64 ((rd_T102 l0_2 (ji33)).f0)) ∧ w'.cell? ⟨(ad234.add (((ji33)).toNat * 2)).block, (ad234.add (((ji33)).toNat * 2)).off + 1, none⟩ = some (.int .i64 ((rd_T102 l0_2 (ji33)).f1)) ∧ w'.cell? (ad234.add ((x5_1).toNat * 2)) = some (.int .i64 ((rd_T102 l0_2 x5_1).f0)) ∧ w'.cell? ⟨(ad234.add ((x5_1).toNat * 2)).block, (ad234.add ((x5_1).toNat * 2)).off + 1, none⟩ = some (.int .i64 ((rd_T102 l0_2 x5_1).f1))) (ds := []) #[false, false, false, false, false, false, false, false, false, false, false, false, false, false, false, false, false, false, false] (by kernel_rfl) rfl rfl ⟨(blk_cell BK227.out 0).trans rfl, (blk_cell BK227.out 1).trans rfl, (blk_cell BK227.out 2).trans rfl, (blk_cell BK227.out 3).trans rfl, (blk_cell BK227.out 4).trans rfl, (blk_cell BK227.out 5).trans rfl, ((HB.out.cell (World.block_lt_of_cell? w _ hw247_0)).trans hw247_0), ((HB.out.cell (World.block_lt_of_cell? w _ hw247_1)).trans hw247_1), ((HB.out.cell (World.block_lt_of_cell? w _ hw248_0)).trans hw248_0), ((HB.out.cell (World.block_lt_of_cell? w _ hw248_1)).trans hw248_1)⟩ (fun hHeld => ?_); refine with_tabW shibbolethref06_Bytes.tab15 shibbolethref06_Bytes.bits15 (fun HT_ HW_ => ?_)
               generalize wr.drew = w42 at HO_3 BK227 HB hx247_0 hx247_1 hx248_0 hx248_1 hHeld ⊢
               refine pure_ (i := 0) (N := some 49) (v := ?_) (a' := ?_) #[true, false, false, false, false, false, false, false, false, false, false, false, false, false, false, false, false, false, false] rfl rfl (any_of HT_.out (by kernel_rfl)) (fun _ _ _ h => h) (Or.inl ⟨by rfl, ?_⟩) ?_ ?_
               rotate_left
               ·intro w'
                go_simp
                with_reducible rfl
               rotate_left
               ·qp_
                rfl
               refine pure_ (i := 1) (N := some 50) (v := ?_) (a' := ?_) #[true, true, false, false, false, false, false, false, false, false, false, false, false, false, false, false, false, false, false] rfl rfl (any_of HT_.out (by kernel_rfl)) (fun _ _ _ h => h) (Or.inl ⟨by rfl, ?_⟩) ?_ ?_
               rotate_left
               ·intro w'
                go_simp
                with_reducible rfl
               rotate_left
               ·qp_
                rfl
               refine pure_ (i := 3) (N := some 52) (v := ?_) (a' := ?_) #[true, true, false, true, false, false, false, false, false, false, false, false, false, false, false, false, false, false, false] rfl rfl (any_of HT_.out (by kernel_rfl)) (fun _ _ _ h => h) (Or.inl ⟨by rfl, ?_⟩) ?_ ?_
               rotate_left
               ·intro w'
                go_simp
                with_reducible rfl
               rotate_left
               ·qp_
                rfl
               refine pure_ (i := 4) (N := some 53) (v := ?_) (a' := ?_) #[true, true, false, true, true, false, false, false, false, false, false, false, false, false, false, false, false, false, false] rfl rfl (any_of HT_.out (by kernel_rfl)) (fun _ _ _ h => h) (Or.inl ⟨by rfl, ?_⟩) ?_ ?_
               rotate_left
               ·intro w'
                go_simp
                with_reducible rfl
               rotate_left
               ·qp_
                rfl
               refine pure_ (i := 8) (N := some 57) (v := ?_) (a' := ?_) #[true, true, false, true, true, false, false, false, true, false, false, false, false, false, false, false, false, false, false] rfl rfl (any_of HT_.out (by kernel_rfl)) (fun _ _ _ h => h) (Or.inl ⟨by rfl, ?_⟩) ?_ ?_
               rotate_left
               ·intro w'
                go_simp
                with_reducible rfl
               rotate_left
               ·qp_
                rfl
               refine pure_ (i := 10) (N := some 59) (v := ?_) (a' := ?_) #[true, true, false, true, true, false, false, false, true, false, true, false, false, false, false, false, false, false, false] rfl rfl (any_of HT_.out (by kernel_rfl)) (fun _ _ _ h => h) (Or.inl ⟨by rfl, ?_⟩) ?_ ?_
               rotate_left
               ·intro w'
                go_simp
                with_reducible rfl
               rotate_left
               ·qp_
                rfl
               refine take_ (i := 2) (N := some 51) (v := ?_) (a' := ?_) #[true, true, true, true, true, false, false, false, true, false, true, false, false, false, false, false, false, false, false] rfl rfl (take_ofW HT_.out HW_.out (by kernel_rfl)) (fun _ _ _ h => h) (Or.inl ⟨by rfl, ?_⟩) hHeld ?_ ?_
               rotate_left
               ·lu202_
                go_simp
                with_reducible rfl
               rotate_left
               ·qp_
                rfl
               refine pure_ (i := 5) (N := some 54) (v := ?_) (a' := ?_) #[true, true, true, true, true, true, false, false, true, false, true, false, false, false, false, false, false, false, false] rfl rfl (any_of HT_.out (by kernel_rfl)) (fun _ _ _ h => h) (Or.inl ⟨by rfl, ?_⟩) ?_ ?_
               rotate_left
               ·intro w'
                go_simp
                with_reducible rfl
               rotate_left
               ·qp_
                rfl
               refine pure_ (i := 6) (N := some 55) (v := ?_) (a' := ?_) #[true, true, true, true, true, true, true, false, true, false, true, false, false, false, false, false, false, false, false] rfl rfl (any_of HT_.out (by kernel_rfl)) (fun _ _ _ h => h) (Or.inl ⟨by rfl, ?_⟩) ?_ ?_
               rotate_left
               ·intro w'
                go_simp
                with_reducible rfl
               rotate_left
               ·qp_
                rfl
               refine take_ (i := 7) (N := some 56) (v := ?_) (a' := ?_) #[true, true, true, true, true, true, true, true, true, false, true, false, false, false, false, false, false, false, false] rfl rfl (take_ofW HT_.out HW_.out (by kernel_rfl)) (fun _ _ _ h => h) (Or.inl ⟨by rfl, ?_⟩) hHeld ?_ ?_
               rotate_left
               ·lu202_
                go_simp
                with_reducible rfl
               rotate_left
               ·qp_
                rfl
               refine take_ (i := 9) (N := some 58) (v := ?_) (a' := ?_) #[true, true, true, true, true, true, true, true, true, true, true, false, false, false, false, false, false, false, false] rfl rfl (take_ofW HT_.out HW_.out (by kernel_rfl)) (fun _ _ _ h => h) (Or.inl ⟨by rfl, ?_⟩) hHeld ?_ ?_
               rotate_left
               ·lu202_
                go_simp
                with_reducible rfl
               rotate_left
               ·qp_
                rfl
               refine pure_ (i := 11) (N := some 60) (v := ?_) (a' := ?_) #[true, true, true, true, true, true, true, true, true, true, true, true, false, false, false, false, false, false, false] rfl rfl (any_of HT_.out (by kernel_rfl)) (fun _ _ _ h => h) (Or.inl ⟨by rfl, ?_⟩) ?_ ?_
               rotate_left
               ·intro w'
                go_simp
                with_reducible rfl
               rotate_left
               ·qp_
                rfl
               refine pure_ (i := 12) (N := some 61) (v := ?_) (a' := ?_) #[true, true, true, true, true, true, true, true, true, true, true, true, true, false, false, false, false, false, false] rfl rfl (any_of HT_.out (by kernel_rfl)) (fun _ _ _ h => h) (Or.inl ⟨by rfl, ?_⟩) ?_ ?_
               rotate_left
               ·intro w'
                go_simp
                with_reducible rfl
               rotate_left
               ·qp_
                rfl
               refine take_ (i := 13) (N := some 62) (v := ?_) (a' := ?_) #[true, true, true, true, true, true, true, true, true, true, true, true, true, true, false, false, false, false, false] rfl rfl (take_ofW HT_.out HW_.out (by kernel_rfl)) (fun _ _ _ h => h) (Or.inl ⟨by rfl, ?_⟩) hHeld ?_ ?_
               rotate_left
               ·lu202_
                go_simp
                with_reducible rfl
               rotate_left
               ·qp_
                rfl
               refine pure_ (i := 14) (N := some 63) (v := ?_) (a' := ?_) #[true, true, true, true, true, true, true, true, true, true, true, true, true, true, true, false, false, false, false] rfl rfl (any_of HT_.out (by kernel_rfl)) (fun _ _ _ h => h) (Or.inl ⟨by rfl, ?_⟩) ?_ ?_
               rotate_left
               ·intro w'
                go_simp
                with_reducible rfl
               rotate_left
               ·qp_
                rfl
               refine pure_ (i := 15) (N := some 64) (v := ?_) (a' := ?_) #[true, true, true, true, true, true, true, true, true, true, true, true, true, true, true, true, false, false, false] rfl rfl (any_of HT_.out (by kernel_rfl)) (fun _ _ _ h => h) (Or.inl ⟨by rfl, ?_⟩) ?_ ?_
               rotate_left
               ·intro w'
                go_simp
                with_reducible rfl
               rotate_left
               ·qp_
                rfl
               refine one_ (i := 16) (N := some 65) #[true, true, true, true, true, true, true, true, true, true, true, true, true, true, true, true, true, false, false] rfl rfl (one_of HT_.out (by kernel_rfl)) (by decide) (fun K hK => ?_)
               refine goes_ Tryd.func23 (by kernel_rfl) rfl #[.int .i64 (wrap64 ((wrap64 (((rd_T102 l0_2 (ji33)).f0) - ((rd_T102 l0_2 x5_1).f1))) - 2))] (by rfl) rfl rfl (by (try simp only [List.map_toArray, List.map_cons, List.map_nil]); first | done | (simp only [hji33]; rfl) | rfl | (simp only [List.length_drop, List.length_take]; rfl)) ?_
               with_reducible refine (shibbolethref01_Bytes.calls k1 (wrap64 ((wrap64 (((rd_T102 l0_2 (ji33)).f0) - ((rd_T102 l0_2 x5_1).f1))) - 2)) t249 _ A37.out).mono ?_
               rintro e w43 ⟨v250, rfl, ho0, hb⟩
               refine ⟨_, rfl, ?_⟩
               have n0_ := Aside0.mk (Kd.R_elder' (by qR_; exact HO_3.out) (Kd.R_base ho0) hb)
               have n1_ := Aside0.mk (Kd.R_lower (Kd.R_new' ho0 (Kd.R_lt (by qR_; exact HO_3.out))) (below_size (by qb1_ GE227)))
               have n2_ := Aside0.mk (blk_below (g := gb227) (o := (ou201_)) (by qk_; exact BK227.out) hb)
               lu203_
               clear HO_3
               clear BK227
               clear HB
               have HO_3 := n0_
               have HO251 := n1_
               have BK227 := n2_
               have HB := n3_
               clear n0_ n1_ n2_ n3_
               (try clear hb)
               (try clear hb2)
               (try clear hk)
               (try clear hi)
               (try clear ho0)
               obtain ⟨Ao45, co45, eo45⟩ := Kd.R_slice HO251.out
               (first | subst eo45 | (injection eo45 with f1_ f2_ f3_; have f4_ := f1_.symm; have f5_ := f3_.symm; clear f1_ f2_ f3_; subst f4_; subst f5_))
               lu204_
               clear hK K
               refine norm_ (a' := ?_) ?_ ?_
               rotate_left
               ·show Act.put _ (some 65) _ = _
                qp_
                rfl
               refine one_ (i := 17) (N := some 66) #[true, true, true, true, true, true, true, true, true, true, true, true, true, true, true, true, true, true, false] rfl rfl (one_of HT_.out (by kernel_rfl)) (by decide) (fun K hK => ?_)
               refine Kd.R_append_rows_step (Kd.int .u8) (w0 := w) w.heap.size (by rfl) (.tmp 49) (.tmp 65) 22 5 (.int .u8 0) 1 rfl Tryd.underlying22 info5 rfl (by decide) (by omega) u3 x3_1 t249 _ _ _ (fun k_ => some k_ ≠ (.slice Ao45 t249.length co45 : Value).ownBlock) (fun _ => False) rfl rfl ?aO ?aR (fun _ _ h => h) (fun _ h => h.elim) ?aF ?aB ?aS ?aL ?_
               (case aR => repeat (first | exact (Kd.R_reads' HO251.out).2.2 | (with_reducible refine Kd.C_alloc ?_ _) | (with_reducible refine Kd.C_drewN ?_ _) | (with_reducible refine Kd.C_drew ?_)))
               (case aB => exact (by qb1_ GE227))
               (case aF => exact (fun k_ hk => Kd.fresh' (Kd.R_lt (by qR_; exact HO251.out)) k_ hk))
               (case aO => exact (by qR_; exact Kd.R_mono HO_3.out (fun _ hk => hk.2)))
               lu205_
               (case aL => have := LMc38.out; omega)
               intro v253 w44 ho hb hg hat
               rw [← Ny252.out] at ho
               have n0_ := Aside0.mk (blk_grown (g := gb227) (o := (ou201_)) (by qk_; exact BK227.out) hg (Kd.R_ne HO_3.out BK227.out (by decide)))
               have n1_ := Aside0.mk (Kd.R_after (ok := (fun _ => True)) (by qR_; exact HO251.out) hg hat)
               have n2_ := Aside0.mk (hb)
               have n3_ := Aside0.mk (ho)
               clear BK227
               clear HO251
               clear HB
               clear HO_3
               have BK227 := n0_
               have HO251 := n1_
               have HB := n2_
               have HO254 := n3_
               clear n0_ n1_ n2_ n3_
               clear ho hb hg hat
               lu204_
               clear hK K
               refine norm_ (a' := ?_) ?_ ?_
               rotate_left
               ·show Act.put _ (some 66) _ = _
                qp_
                rfl
               refine pure_ (i := 18) (N := some 3) (v := ?_) (a' := ?_) #[true, true, true, true, true, true, true, true, true, true, true, true, true, true, true, true, true, true, true] rfl rfl (any_of HT_.out (by kernel_rfl)) (fun _ _ _ h => h) (Or.inl ⟨by rfl, ?_⟩) ?_ ?_
               rotate_left
               ·intro w'
                go_simp
                with_reducible rfl
               rotate_left
               ·qp_
                rfl
               lu206_
               try go_wp2
               have n0_ := Aside0.mk (Kd.R_drew HO251.out)
               have n1_ := Aside0.mk (Kd.R_drew HO254.out)
               have n2_ := Aside0.mk (blk_drew BK227.out)
               have n3_ := Aside0.mk (below_drew1 HB.out)
               clear HO251
               clear HO254
               clear BK227
               clear HB
               have HO251 := n0_
               have HO254 := n1_
               have BK227 := n2_
               have HB := n3_
               clear n0_ n1_ n2_ n3_
               have p255 : 0 ≤ (x5_1 : Int) := of_decide_eq_true (pu203_)
               have q255 : x5_1 < (l0_2.length : Int) := of_decide_eq_true (pu203_)
               obtain ⟨ad255, e255, hx255_0, hx255_1⟩ := at_T102 HR0_2.out x5_1 p255 q255
               have hw255_1 := hx255_1
               have hw255_0 := hx255_0
               obtain rfl : ad234 = ad255 := (by injection e255)
               replace hx255_0 := (HB.out.cell (World.block_lt_of_cell? w _ hx255_0)).trans hx255_0
               replace hx255_1 := (HB.out.cell (World.block_lt_of_cell? w _ hx255_1)).trans hx255_1
               replace p255 := eq_true p255
               replace q255 := eq_true q255
               have p256 : 0 ≤ (x5_1 : Int) := of_decide_eq_true (pu203_)
               have q256 : x5_1 < (l0_2.length : Int) := of_decide_eq_true (pu203_)
               obtain ⟨ad256, e256, hx256_0, hx256_1⟩ := at_T102 HR0_2.out x5_1 p256 q256
               have hw256_1 := hx256_1
               have hw256_0 := hx256_0
               obtain rfl : ad234 = ad256 := (by injection e256)
               replace hx256_0 := (HB.out.cell (World.block_lt_of_cell? w _ hx256_0)).trans hx256_0
               replace hx256_1 := (HB.out.cell (World.block_lt_of_cell? w _ hx256_1)).trans hx256_1
               replace p256 := eq_true p256
               replace q256 := eq_true q256
               refine start_ (n := 17) (S := fun w' => w'.cell? ⟨gb227, 0, none⟩ = some (.int .i64 a0_0) ∧ w'.cell? ⟨gb227, 1, none⟩ = some (.int .i64 a0_1) ∧ w'.cell? ⟨gb227, 2, none⟩ = some (pu206_) ∧ w'.cell? ⟨gb227, 3, none⟩ = some (.int .i64 a0_3) ∧ w'.cell? ⟨gb227, 4, none⟩ = some (.slice A0_4 l0_4.length c0_4) ∧ w'.cell? ⟨gb227, 5, none⟩ = some (.int .i64 a0_5) ∧ w'.cell? (ad234.add ((x5_1).toNat * 2)) = some (.int .i64 ((rd_T102 l0_2 x5_1).f0)) ∧ w'.cell? ⟨(ad234.add ((x5_1).toNat * 2)).block, (ad234.add ((x5_1).toNat * 2)).off + 1, none⟩ = some (.int .i64 ((rd_T102 l0_2 x5_1).f1)) ∧ w'.cell? (ad234.add ((x5_1).toNat * 2)) = some (.int .i64 ((rd_T102 l0_2 x5_1).f0)) ∧ w'.cell? ⟨(ad234.add ((x5_1).toNat * 2)).block, (ad234.add ((x5_1).toNat * 2)).off + 1, none⟩ = some (.int .i64 ((rd_T102 l0_2 x5_1).f1))) (ds := []) #[false, false, false, false, false, false, false, false, false, false, false, false, false, false, false, false, false] (by kernel_rfl) rfl rfl ⟨(blk_cell BK227.out 0).trans rfl, (blk_cell BK227.out 1).trans rfl, (blk_cell BK227.out 2).trans rfl, (blk_cell BK227.out 3).trans rfl, (blk_cell BK227.out 4).trans rfl, (blk_cell BK227.out 5).trans rfl, ((HB.out.cell (World.block_lt_of_cell? w _ hw255_0)).trans hw255_0), ((HB.out.cell (World.block_lt_of_cell? w _ hw255_1)).trans hw255_1), ((HB.out.cell (World.block_lt_of_cell? w _ hw256_0)).trans hw256_0), ((HB.out.cell (World.block_lt_of_cell? w _ hw256_1)).trans hw256_1)⟩ (fun hHeld => ?_); refine with_tabW shibbolethref06_Bytes.tab16 shibbolethref06_Bytes.bits16 (fun HT_ HW_ => ?_)
               generalize w44.drew = w46 at HO251 HO254 BK227 HB hx255_0 hx255_1 hx256_0 hx256_1 hHeld ⊢
               lu207_
               rotate_left
               ·intro w'
                go_simp
                with_reducible rfl
               rotate_left
               ·qp_
                rfl
               lu208_
               rotate_left
               ·intro w'
                go_simp
                with_reducible rfl
               rotate_left
               ·qp_
                rfl
               lu209_
               rotate_left
               ·intro w'
                go_simp
                with_reducible rfl
               rotate_left
               ·qp_
                rfl
               lu2010_
               rotate_left
               ·intro w'
                go_simp
                with_reducible rfl
               rotate_left
               ·qp_
                rfl
               lu2011_
               rotate_left
               ·intro w'
                go_simp
                with_reducible rfl
               rotate_left
               ·qp_
                rfl
               lu2012_
               rotate_left
               ·lu202_
                go_simp
                with_reducible rfl
               rotate_left
               ·qp_
                rfl
               lu2013_
               rotate_left
               ·intro w'
                go_simp
                with_reducible rfl
               rotate_left
               ·qp_
                rfl
               lu2014_
               rotate_left
               ·intro w'
                go_simp
                with_reducible rfl
               rotate_left
               ·qp_
                rfl
               lu2015_
               rotate_left
               ·lu202_
                go_simp
                with_reducible rfl
               rotate_left
               ·qp_
                rfl
               lu2016_
               rotate_left
               ·lu202_
                go_simp
                with_reducible rfl
               rotate_left
               ·qp_
                rfl
               lu2017_
               rotate_left
               ·intro w'
                go_simp
                with_reducible rfl
               rotate_left
               ·qp_
                rfl
               lu2018_
               rotate_left
               ·intro w'
                go_simp
                with_reducible rfl
               rotate_left
               ·qp_
                rfl
               lu2019_
               rotate_left
               ·lu202_
                go_simp
                with_reducible rfl
               rotate_left
               ·qp_
                rfl
               lu2020_
               rotate_left
               ·intro w'
                go_simp
                with_reducible rfl
               rotate_left
               ·qp_
                rfl
               lu2021_
               lu2022_
               with_reducible refine (shibbolethref01_Bytes.calls k1 (wrap64 (((rd_T102 l0_2 x5_1).f1) - ((rd_T102 l0_2 x5_1).f0))) t257 _ A39.out).mono ?_
               rintro e w47 ⟨v258, rfl, ho0, hb⟩
               refine ⟨_, rfl, ?_⟩
               have n0_ := Aside0.mk (Kd.R_elder' (by qR_; exact HO251.out) (Kd.R_base ho0) hb)
               have n1_ := Aside0.mk (Kd.R_elder' (by qR_; exact HO254.out) (Kd.R_base ho0) hb)
               have n2_ := Aside0.mk (Kd.R_lower (Kd.R_new' (Kd.R_new' ho0 (Kd.R_lt (by qR_; exact HO251.out))) (Kd.R_lt (by qR_; exact HO254.out))) (below_size (by qb1_ GE227)))
               have n3_ := Aside0.mk (blk_below (g := gb227) (o := (ou201_)) (by qk_; exact BK227.out) hb)
               have n4_ := Aside0.mk (below_step (by qb1_ GE227) hb)
               clear HO251
               clear HO254
               clear BK227
               clear HB
               have HO251 := n0_
               have HO254 := n1_
               have HO259 := n2_
               have BK227 := n3_
               have HB := n4_
               clear n0_ n1_ n2_ n3_ n4_
               (try clear hb)
               (try clear hb2)
               (try clear hk)
               (try clear hi)
               (try clear ho0)
               obtain ⟨Ao49, co49, eo49⟩ := Kd.R_slice HO259.out
               (first | subst eo49 | (injection eo49 with f1_ f2_ f3_; have f4_ := f1_.symm; have f5_ := f3_.symm; clear f1_ f2_ f3_; subst f4_; subst f5_))
               lu2023_
               clear hK K
               refine norm_ (a' := ?_) ?_ ?_
               rotate_left
               ·show Act.put _ (some 81) _ = _
                qp_
                rfl
               lu2024_
               refine Kd.R_append_rows_step (Kd.int .u8) (w0 := w) w.heap.size (by rfl) (.tmp 67) (.tmp 81) 22 5 (.int .u8 0) 1 rfl Tryd.underlying22 info5 rfl (by decide) (by omega) v253 y252 t257 _ _ _ (fun k_ => some k_ ≠ (.slice Ao45 t249.length co45 : Value).ownBlock ∧ some k_ ≠ (.slice Ao49 t257.length co49 : Value).ownBlock) (fun _ => False) rfl rfl ?aO ?aR (fun _ _ h => h) (fun _ h => h.elim) ?aF ?aB ?aS ?aL ?_
               (case aR => repeat (first | exact (Kd.R_reads' HO259.out).2.2 | (with_reducible refine Kd.C_alloc ?_ _) | (with_reducible refine Kd.C_drewN ?_ _) | (with_reducible refine Kd.C_drew ?_)))
               (case aB => exact (by qb1_ GE227))
               (case aF => exact (fun k_ hk => ⟨Kd.fresh' (Kd.R_lt (by qR_; exact HO251.out)) k_ hk, Kd.fresh' (Kd.R_lt (by qR_; exact HO259.out)) k_ hk⟩))
               (case aO => exact (by qR_; exact HO254.out))
               lu205_
               (case aL => have := LMc40.out; omega)
               intro v261 w48 ho hb hg hat
               rw [← Ny260.out] at ho
               have n0_ := Aside0.mk (blk_grown (g := gb227) (o := (ou201_)) (by qk_; exact BK227.out) hg (Kd.R_ne HO254.out BK227.out (by decide)))
               have n1_ := Aside0.mk (Kd.R_after (ok := (fun k_ => some k_ ≠ (.slice Ao49 t257.length co49 : Value).ownBlock)) (by qR_; exact Kd.R_mono HO251.out (fun _ hk => ⟨hk.2, hk.1.2⟩)) hg hat)
               have n2_ := Aside0.mk (Kd.R_after (ok := (fun k_ => some k_ ≠ (.slice Ao45 t249.length co45 : Value).ownBlock)) (by qR_; exact Kd.R_mono HO259.out (fun _ hk => ⟨hk.1.2, hk.2⟩)) hg hat)
               have n3_ := Aside0.mk (hb)
               have n4_ := Aside0.mk (ho)
               clear BK227
               clear HO251
               clear HO259
               clear HB
               clear HO254
               have BK227 := n0_
               have HO251 := n1_
               have HO259 := n2_
               have HB := n3_
               have HO262 := n4_
               clear n0_ n1_ n2_ n3_ n4_
               clear ho hb hg hat
               lu2023_
               clear hK K
               refine norm_ (a' := ?_) ?_ ?_
               rotate_left
               ·show Act.put _ (some 82) _ = _
                qp_
                rfl
               lu2025_
               rotate_left
               ·intro w'
                go_simp
                with_reducible rfl
               rotate_left
               ·qp_
                rfl
               lu206_
               try go_wp2
               go_roundg k1
               case measure => have := HK1.out; omega
               case rel => exact ⟨(y260), (wrap64 (x5_1 + 1)), (pu209_), H', ⟨by have := HK1.out; omega⟩, ⟨by qR_; exact Kd.R_mono HO262.out (fun _ hk => trivial)⟩, ⟨by qk_; exact BK227.out⟩, ⟨by qb1_ GE227⟩⟩
              ·rw [if_neg c40] at H
               exact absurd H (by simp)
             ·rw [if_neg c38] at H
              exact absurd H (by simp)
            ·rw [if_neg c36] at H
             exact absurd H (by simp)
           ·rw [if_neg c35] at H
            exact absurd H (by simp)
          ·rw [if_neg c34] at H
           exact absurd H (by simp)
         ·rw [if_neg c32] at H
          have c32b0 : decide (0 < x5_1) = false := decide_eq_false c32
          clear c32
          by_cases c50 : 0 ≤ x5_1
          ·rw [if_pos c50] at H
           have c50b0 : decide (0 ≤ x5_1) = true := decide_eq_true c50
           clear c50
           lu201_
           obtain ⟨t265, A510, H⟩ := H
           replace H : (if x3_1.length + t265.length < 140737488355328 then (shibbolethref06_Bytes.l1 k1 (x3_1 ++ t265) (wrap64 (x5_1 + 1)) a0_0 a0_1 l0_2 a0_3 l0_4 a0_5) else (none)) = some r := H
           have A51 := Aside0.mk A510
           clear A510
           by_cases c52 : x3_1.length + t265.length < 140737488355328
           ·rw [if_pos c52] at H
            have LMc52 := Aside0.mk c52
            clear c52
            obtain ⟨y268, hy268⟩ : ∃ y_ : List Int, y_ = (x3_1 ++ t265) := ⟨_, rfl⟩
            replace H : (shibbolethref06_Bytes.l1 k1 y268 (wrap64 (x5_1 + 1)) a0_0 a0_1 l0_2 a0_3 l0_4 a0_5) = some r := by first | (rw [hy268]; with_reducible exact H) | (have H2_ := (Option.bind_some _ _).symm.trans H; rw [hy268]; with_reducible exact H2_) | (have H2_ := (Option.bind_some _ _).symm.trans H; with_reducible exact H2_) | with_reducible exact H | (rw [hy268]; exact H) | exact H
            have Ny268 := Aside0.mk hy268
            clear hy268
            have H' := Aside0.mk H
            clear H
            have hcz53_0 : wr.cell? ⟨gb227, 0, none⟩ = some (.int .i64 a0_0) := (blk_cell BK227.out 0).trans rfl
            have hcz53_1 : wr.cell? ⟨gb227, 1, none⟩ = some (.int .i64 a0_1) := (blk_cell BK227.out 1).trans rfl
            have hcz53_2 : wr.cell? ⟨gb227, 2, none⟩ = some (pu206_) := (blk_cell BK227.out 2).trans rfl
            have hcz53_3 : wr.cell? ⟨gb227, 3, none⟩ = some (.int .i64 a0_3) := (blk_cell BK227.out 3).trans rfl
            have hcz53_4 : wr.cell? ⟨gb227, 4, none⟩ = some (.slice A0_4 l0_4.length c0_4) := (blk_cell BK227.out 4).trans rfl
            have hcz53_5 : wr.cell? ⟨gb227, 5, none⟩ = some (.int .i64 a0_5) := (blk_cell BK227.out 5).trans rfl
            have hfz53_0 := blk_frozen BK227.out 0
            have hfz53_1 := blk_frozen BK227.out 1
            have hfz53_2 := blk_frozen BK227.out 2
            have hfz53_3 := blk_frozen BK227.out 3
            have hfz53_4 := blk_frozen BK227.out 4
            have hfz53_5 := blk_frozen BK227.out 5
            try go_wp2
            have n0_ := Aside0.mk (Kd.R_drew HO_3.out)
            have n1_ := Aside0.mk (blk_drew BK227.out)
            have n2_ := Aside0.mk (below_drew1 HB.out)
            clear HO_3
            clear BK227
            clear HB
            have HO_3 := n0_
            have BK227 := n1_
            have HB := n2_
            clear n0_ n1_ n2_
            have p263 : 0 ≤ (x5_1 : Int) := of_decide_eq_true (pu203_)
            have q263 : x5_1 < (l0_2.length : Int) := of_decide_eq_true (pu203_)
            obtain ⟨ad263, e263, hx263_0, hx263_1⟩ := at_T102 HR0_2.out x5_1 p263 q263
            have hw263_1 := hx263_1
            have hw263_0 := hx263_0
            obtain rfl : ad234 = ad263 := (by injection e263)
            replace hx263_0 := (HB.out.cell (World.block_lt_of_cell? w _ hx263_0)).trans hx263_0
            replace hx263_1 := (HB.out.cell (World.block_lt_of_cell? w _ hx263_1)).trans hx263_1
            replace p263 := eq_true p263
            replace q263 := eq_true q263
            have p264 : 0 ≤ (x5_1 : Int) := of_decide_eq_true (pu203_)
            have q264 : x5_1 < (l0_2.length : Int) := of_decide_eq_true (pu203_)
            obtain ⟨ad264, e264, hx264_0, hx264_1⟩ := at_T102 HR0_2.out x5_1 p264 q264
            have hw264_1 := hx264_1
            have hw264_0 := hx264_0
            obtain rfl : ad234 = ad264 := (by injection e264)
            replace hx264_0 := (HB.out.cell (World.block_lt_of_cell? w _ hx264_0)).trans hx264_0
            replace hx264_1 := (HB.out.cell (World.block_lt_of_cell? w _ hx264_1)).trans hx264_1
            replace p264 := eq_true p264
            replace q264 := eq_true q264
            refine start_ (n := 17) (S := fun w' => w'.cell? ⟨gb227, 0, none⟩ = some (.int .i64 a0_0) ∧ w'.cell? ⟨gb227, 1, none⟩ = some (.int .i64 a0_1) ∧ w'.cell? ⟨gb227, 2, none⟩ = some (pu206_) ∧ w'.cell? ⟨gb227, 3, none⟩ = some (.int .i64 a0_3) ∧ w'.cell? ⟨gb227, 4, none⟩ = some (.slice A0_4 l0_4.length c0_4) ∧ w'.cell? ⟨gb227, 5, none⟩ = some (.int .i64 a0_5) ∧ w'.cell? (ad234.add ((x5_1).toNat * 2)) = some (.int .i64 ((rd_T102 l0_2 x5_1).f0)) ∧ w'.cell? ⟨(ad234.add ((x5_1).toNat * 2)).block, (ad234.add ((x5_1).toNat * 2)).off + 1, none⟩ = some (.int .i64 ((rd_T102 l0_2 x5_1).f1)) ∧ w'.cell? (ad234.add ((x5_1).toNat * 2)) = some (.int .i64 ((rd_T102 l0_2 x5_1).f0)) ∧ w'.cell? ⟨(ad234.add ((x5_1).toNat * 2)).block, (ad234.add ((x5_1).toNat * 2)).off + 1, none⟩ = some (.int .i64 ((rd_T102 l0_2 x5_1).f1))) (ds := []) #[false, false, false, false, false, false, false, false, false, false, false, false, false, false, false, false, false] (by kernel_rfl) rfl rfl ⟨(blk_cell BK227.out 0).trans rfl, (blk_cell BK227.out 1).trans rfl, (blk_cell BK227.out 2).trans rfl, (blk_cell BK227.out 3).trans rfl, (blk_cell BK227.out 4).trans rfl, (blk_cell BK227.out 5).trans rfl, ((HB.out.cell (World.block_lt_of_cell? w _ hw263_0)).trans hw263_0), ((HB.out.cell (World.block_lt_of_cell? w _ hw263_1)).trans hw263_1), ((HB.out.cell (World.block_lt_of_cell? w _ hw264_0)).trans hw264_0), ((HB.out.cell (World.block_lt_of_cell? w _ hw264_1)).trans hw264_1)⟩ (fun hHeld => ?_); refine with_tabW shibbolethref06_Bytes.tab16 shibbolethref06_Bytes.bits16 (fun HT_ HW_ => ?_)
            generalize wr.drew = w54 at HO_3 BK227 HB hx263_0 hx263_1 hx264_0 hx264_1 hHeld ⊢
            lu207_
            rotate_left
            ·intro w'
             go_simp
             with_reducible rfl
            rotate_left
            ·qp_
             rfl
            lu208_
            rotate_left
            ·intro w'
             go_simp
             with_reducible rfl
            rotate_left
            ·qp_
             rfl
            lu209_
            rotate_left
            ·intro w'
             go_simp
             with_reducible rfl
            rotate_left
            ·qp_
             rfl
            lu2010_
            rotate_left
            ·intro w'
             go_simp
             with_reducible rfl
            rotate_left
            ·qp_
             rfl
            lu2011_
            rotate_left
            ·intro w'
             go_simp
             with_reducible rfl
            rotate_left
            ·qp_
             rfl
            lu2012_
            rotate_left
            ·lu202_
             go_simp
             with_reducible rfl
            rotate_left
            ·qp_
             rfl
            lu2013_
            rotate_left
            ·intro w'
             go_simp
             with_reducible rfl
            rotate_left
            ·qp_
             rfl
            lu2014_
            rotate_left
            ·intro w'
             go_simp
             with_reducible rfl
            rotate_left
            ·qp_
             rfl
            lu2015_
            rotate_left
            ·lu202_
             go_simp
             with_reducible rfl
            rotate_left
            ·qp_
             rfl
            lu2016_
            rotate_left
            ·lu202_
             go_simp
             with_reducible rfl
            rotate_left
            ·qp_
             rfl
            lu2017_
            rotate_left
            ·intro w'
             go_simp
             with_reducible rfl
            rotate_left
            ·qp_
             rfl
            lu2018_
            rotate_left
            ·intro w'
             go_simp
             with_reducible rfl
            rotate_left
            ·qp_
             rfl
            lu2019_
            rotate_left
            ·lu202_
             go_simp
             with_reducible rfl
            rotate_left
            ·qp_
             rfl
            lu2020_
            rotate_left
            ·intro w'
             go_simp
             with_reducible rfl
            rotate_left
            ·qp_
             rfl
            lu2021_
            lu2022_
            with_reducible refine (shibbolethref01_Bytes.calls k1 (wrap64 (((rd_T102 l0_2 x5_1).f1) - ((rd_T102 l0_2 x5_1).f0))) t265 _ A51.out).mono ?_
            rintro e w55 ⟨v266, rfl, ho0, hb⟩
            refine ⟨_, rfl, ?_⟩
            have n0_ := Aside0.mk (Kd.R_elder' (by qR_; exact HO_3.out) (Kd.R_base ho0) hb)
            have n1_ := Aside0.mk (Kd.R_lower (Kd.R_new' ho0 (Kd.R_lt (by qR_; exact HO_3.out))) (below_size (by qb1_ GE227)))
            have n2_ := Aside0.mk (blk_below (g := gb227) (o := (ou201_)) (by qk_; exact BK227.out) hb)
            lu203_
            clear HO_3
            clear BK227
            clear HB
            have HO_3 := n0_
            have HO267 := n1_
            have BK227 := n2_
            have HB := n3_
            clear n0_ n1_ n2_ n3_
            (try clear hb)
            (try clear hb2)
            (try clear hk)
            (try clear hi)
            (try clear ho0)
            obtain ⟨Ao57, co57, eo57⟩ := Kd.R_slice HO267.out
            (first | subst eo57 | (injection eo57 with f1_ f2_ f3_; have f4_ := f1_.symm; have f5_ := f3_.symm; clear f1_ f2_ f3_; subst f4_; subst f5_))
            lu2026_
            clear hK K
            refine norm_ (a' := ?_) ?_ ?_
            rotate_left
            ·show Act.put _ (some 81) _ = _
             qp_
             rfl
            lu2024_
            refine Kd.R_append_rows_step (Kd.int .u8) (w0 := w) w.heap.size (by rfl) (.tmp 67) (.tmp 81) 22 5 (.int .u8 0) 1 rfl Tryd.underlying22 info5 rfl (by decide) (by omega) u3 x3_1 t265 _ _ _ (fun k_ => some k_ ≠ (.slice Ao57 t265.length co57 : Value).ownBlock) (fun _ => False) rfl rfl ?aO ?aR (fun _ _ h => h) (fun _ h => h.elim) ?aF ?aB ?aS ?aL ?_
            (case aR => repeat (first | exact (Kd.R_reads' HO267.out).2.2 | (with_reducible refine Kd.C_alloc ?_ _) | (with_reducible refine Kd.C_drewN ?_ _) | (with_reducible refine Kd.C_drew ?_)))
            (case aB => exact (by qb1_ GE227))
            (case aF => exact (fun k_ hk => Kd.fresh' (Kd.R_lt (by qR_; exact HO267.out)) k_ hk))
            (case aO => exact (by qR_; exact Kd.R_mono HO_3.out (fun _ hk => hk.2)))
            lu205_
            (case aL => have := LMc52.out; omega)
            intro v269 w56 ho hb hg hat
            rw [← Ny268.out] at ho
            have n0_ := Aside0.mk (blk_grown (g := gb227) (o := (ou201_)) (by qk_; exact BK227.out) hg (Kd.R_ne HO_3.out BK227.out (by decide)))
            have n1_ := Aside0.mk (Kd.R_after (ok := (fun _ => True)) (by qR_; exact HO267.out) hg hat)
            have n2_ := Aside0.mk (hb)
            have n3_ := Aside0.mk (ho)
            clear BK227
            clear HO267
            clear HB
            clear HO_3
            have BK227 := n0_
            have HO267 := n1_
            have HB := n2_
            have HO270 := n3_
            clear n0_ n1_ n2_ n3_
            clear ho hb hg hat
            lu2026_
            clear hK K
            refine norm_ (a' := ?_) ?_ ?_
            rotate_left
            ·show Act.put _ (some 82) _ = _
             qp_
             rfl
            lu2025_
            rotate_left
            ·intro w'
             go_simp
             with_reducible rfl
            rotate_left
            ·qp_
             rfl
            lu206_
            try go_wp2
            go_roundg k1
            case measure => have := HK1.out; omega
            case rel => exact ⟨(y268), (wrap64 (x5_1 + 1)), (pu209_), H', ⟨by have := HK1.out; omega⟩, ⟨by qR_; exact Kd.R_mono HO270.out (fun _ hk => trivial)⟩, ⟨by qk_; exact BK227.out⟩, ⟨by qb1_ GE227⟩⟩
           ·rw [if_neg c52] at H
            exact absurd H (by simp)
          ·rw [if_neg c50] at H
           exact absurd H (by simp)
        ·rw [if_neg c31] at H
         have c31b0 : decide (x5_1 < (l0_2.length : Int)) = false := decide_eq_false c31
         clear c31
         obtain rfl := Option.some.inj H
         have hcz58_0 : wr.cell? ⟨gb227, 0, none⟩ = some (.int .i64 a0_0) := (blk_cell BK227.out 0).trans rfl
         have hcz58_1 : wr.cell? ⟨gb227, 1, none⟩ = some (.int .i64 a0_1) := (blk_cell BK227.out 1).trans rfl
         have hcz58_2 : wr.cell? ⟨gb227, 2, none⟩ = some (pu206_) := (blk_cell BK227.out 2).trans rfl
         have hcz58_3 : wr.cell? ⟨gb227, 3, none⟩ = some (.int .i64 a0_3) := (blk_cell BK227.out 3).trans rfl
         have hcz58_4 : wr.cell? ⟨gb227, 4, none⟩ = some (.slice A0_4 l0_4.length c0_4) := (blk_cell BK227.out 4).trans rfl
         have hcz58_5 : wr.cell? ⟨gb227, 5, none⟩ = some (.int .i64 a0_5) := (blk_cell BK227.out 5).trans rfl
         have hfz58_0 := blk_frozen BK227.out 0
         have hfz58_1 := blk_frozen BK227.out 1
         have hfz58_2 := blk_frozen BK227.out 2
         have hfz58_3 := blk_frozen BK227.out 3
         have hfz58_4 := blk_frozen BK227.out 4
         have hfz58_5 := blk_frozen BK227.out 5
         go_wp2
         go_ret
         lu200_
     ·rw [if_neg c18] at H
      exact absurd H (by simp)
    ·rw [if_neg c16] at H
     exact absurd H (by simp)
   ·rw [if_neg c14] at H
    exact absurd H (by simp)
  ·rw [if_neg c13] at H
   have c13b0 : (a0_0 == 2) = false := beq_eq_false_iff_ne.mpr c13
   have c13b1 : (a0_0 != 2) = true := bne_iff_ne.mpr c13
   by_cases c59 : a0_0 = 6
   ·rw [if_pos c59] at H
    have c59b0 : (a0_0 == 6) = true := beq_iff_eq.mpr c59
    have c59b1 : (a0_0 != 6) = false := bne_eq_false_iff_eq.mpr c59
    clear c59
    lu201_
    obtain ⟨t271, A600, H⟩ := H
    replace H : (if y228.length + t271.length < 140737488355328 then ((some (y228 ++ t271 : List Int)).bind fun y274 => ((shibbolethref01_Give.f k l0_4).bind fun t277 => (pu2011_))) else (none)) = some r := H
    have A60 := Aside0.mk A600
    clear A600
    by_cases c61 : y228.length + t271.length < 140737488355328
    ·rw [if_pos c61] at H
     have LMc61 := Aside0.mk c61
     clear c61
     obtain ⟨y274, hy274⟩ : ∃ y_ : List Int, y_ = (y228 ++ t271) := ⟨_, rfl⟩
     replace H : ((shibbolethref01_Give.f k l0_4).bind fun t277 => (pu2011_)) = some r := by first | (rw [hy274]; with_reducible exact H) | (have H2_ := (Option.bind_some _ _).symm.trans H; rw [hy274]; with_reducible exact H2_) | (have H2_ := (Option.bind_some _ _).symm.trans H; with_reducible exact H2_) | with_reducible exact H | (rw [hy274]; exact H) | exact H
     have Ny274 := Aside0.mk hy274
     clear hy274
     lu201_
     obtain ⟨t277, A620, H⟩ := H
     replace H : (pu2011_) = some r := H
     have A62 := Aside0.mk A620
     clear A620
     by_cases c63 : y274.length + t277.length < 140737488355328
     ·rw [if_pos c63] at H
      have LMc63 := Aside0.mk c63
      clear c63
      obtain ⟨y280, hy280⟩ : ∃ y_ : List Int, y_ = (y274 ++ t277) := ⟨_, rfl⟩
      replace H : (some y280) = some r := by first | (rw [hy280]; with_reducible exact H) | (have H2_ := (Option.bind_some _ _).symm.trans H; rw [hy280]; with_reducible exact H2_) | (have H2_ := (Option.bind_some _ _).symm.trans H; with_reducible exact H2_) | with_reducible exact H | (rw [hy280]; exact H) | exact H
      have Ny280 := Aside0.mk hy280
      clear hy280
      obtain rfl := Option.some.inj H
      go_enter Tryd.func69, Tryd.ntmps69
      try go_wp2_with (first | ((with_reducible refine gate_dst (N := 1) rfl ?_); refine box_event ?hg (N := 1) ?hd (cs := #[.int .i64 a0_0, .int .i64 a0_1, .slice A0_2 l0_2.length c0_2, .int .i64 a0_3, .slice A0_4 l0_4.length c0_4, .int .i64 a0_5]) (t := 62) ?hr ?_; (case hd => rfl); (case hg => rfl); (case hr => first | (go_simp; done) | (go_simp; rfl)); intro gb227 hg w64 hbox hb; have n0_ := Aside0.mk (below_step (by qc0_) hb); have n1_ := Aside0.mk (hbox); have n2_ := Aside0.mk ((pu202_)); have n3_ := Aside0.mk ((pu202_)); clear HB; have HB := n0_; have BK227 := n1_; have GW227 := n2_; have GE227 := n3_; clear n0_ n1_ n2_ n3_; clear hb hbox hg; have hcz65_0 : w64.cell? ⟨gb227, 0, none⟩ = some (.int .i64 a0_0) := (blk_cell BK227.out 0).trans rfl; have hcz65_1 : w64.cell? ⟨gb227, 1, none⟩ = some (.int .i64 a0_1) := (blk_cell BK227.out 1).trans rfl; have hcz65_2 : w64.cell? ⟨gb227, 2, none⟩ = some (.slice A0_2 l0_2.length c0_2) := (blk_cell BK227.out 2).trans rfl; have hcz65_3 : w64.cell? ⟨gb227, 3, none⟩ = some (.int .i64 a0_3) := (blk_cell BK227.out 3).trans rfl; have hcz65_4 : w64.cell? ⟨gb227, 4, none⟩ = some (.slice A0_4 l0_4.length c0_4) := (blk_cell BK227.out 4).trans rfl; have hcz65_5 : w64.cell? ⟨gb227, 5, none⟩ = some (.int .i64 a0_5) := (blk_cell BK227.out 5).trans rfl; have hfz65_0 := blk_frozen BK227.out 0; have hfz65_1 := blk_frozen BK227.out 1; have hfz65_2 := blk_frozen BK227.out 2; have hfz65_3 := blk_frozen BK227.out 3; have hfz65_4 := blk_frozen BK227.out 4; have hfz65_5 := blk_frozen BK227.out 5) | ((with_reducible refine gate_dst (N := 9) rfl ?_); refine Kd.R_lit (Kd.int .u8) _ 5 ?hg (N := 9) ?hd (xs := ([(a0_0) % 256] : List Int)) (inner := [.int .u8 ((a0_0) % 256)]) (ok := fun _ => True) (okp := fun _ => True) ?hr ?hp (fun _ hk => hk) trivial (Below.refl _ _) (Nat.le_refl _) (by simp) ?_; (case hd => rfl); (case hg => rfl); (case hr => first | (go_simp; done) | (go_simp; rfl)); (case hp => exact (Reps.one (show Kd.M (Kd.int .u8) _ _ _ ((a0_0) % 256) [.int .u8 ((a0_0) % 256)] from rfl) (Reps.none _ _))); intro v229 w66 ho67 hb hg_ hnew_; clear hg_ hnew_; (first | rw [← Ny228.out] at ho67 | (simp only [Int.reduceToNat] at ho67; rw [← Ny228.out] at ho67)); have n0_ := Aside0.mk (Kd.R_lower ho67 (below_size (by qb1_ GE227))); have n1_ := Aside0.mk (blk_below (g := gb227) (o := (ou200_)) (by qk_; exact BK227.out) hb); have n2_ := Aside0.mk (below_step (by qb1_ GE227) hb); clear BK227; clear HB; have HO230 := n0_; have BK227 := n1_; have HB := n2_; clear n0_ n1_ n2_; clear hb ho67; have hcz68_0 : w66.cell? ⟨gb227, 0, none⟩ = some (.int .i64 a0_0) := (blk_cell BK227.out 0).trans rfl; have hcz68_1 : w66.cell? ⟨gb227, 1, none⟩ = some (.int .i64 a0_1) := (blk_cell BK227.out 1).trans rfl; have hcz68_2 : w66.cell? ⟨gb227, 2, none⟩ = some (.slice A0_2 l0_2.length c0_2) := (blk_cell BK227.out 2).trans rfl; have hcz68_3 : w66.cell? ⟨gb227, 3, none⟩ = some (.int .i64 a0_3) := (blk_cell BK227.out 3).trans rfl; have hcz68_4 : w66.cell? ⟨gb227, 4, none⟩ = some (.slice A0_4 l0_4.length c0_4) := (blk_cell BK227.out 4).trans rfl; have hcz68_5 : w66.cell? ⟨gb227, 5, none⟩ = some (.int .i64 a0_5) := (blk_cell BK227.out 5).trans rfl; have hfz68_0 := blk_frozen BK227.out 0; have hfz68_1 := blk_frozen BK227.out 1; have hfz68_2 := blk_frozen BK227.out 2; have hfz68_3 := blk_frozen BK227.out 3; have hfz68_4 := blk_frozen BK227.out 4; have hfz68_5 := blk_frozen BK227.out 5))
      have n0_ := Aside0.mk (Kd.R_drew HO230.out)
      have n1_ := Aside0.mk (blk_drew BK227.out)
      have n2_ := Aside0.mk (below_drew1 HB.out)
      clear HO230
      clear BK227
      clear HB
      have HO230 := n0_
      have BK227 := n1_
      have HB := n2_
      clear n0_ n1_ n2_
      refine start_ (n := 10) (S := fun w' => w'.cell? ⟨gb227, 0, none⟩ = some (.int .i64 a0_0) ∧ w'.cell? ⟨gb227, 1, none⟩ = some (.int .i64 a0_1) ∧ w'.cell? ⟨gb227, 2, none⟩ = some (.slice A0_2 l0_2.length c0_2) ∧ w'.cell? ⟨gb227, 3, none⟩ = some (.int .i64 a0_3) ∧ w'.cell? ⟨gb227, 4, none⟩ = some (.slice A0_4 l0_4.length c0_4) ∧ w'.cell? ⟨gb227, 5, none⟩ = some (.int .i64 a0_5)) (ds := []) #[false, false, false, false, false, false, false, false, false, false] (by kernel_rfl) rfl rfl ⟨(blk_cell BK227.out 0).trans rfl, (blk_cell BK227.out 1).trans rfl, (blk_cell BK227.out 2).trans rfl, (blk_cell BK227.out 3).trans rfl, (blk_cell BK227.out 4).trans rfl, (blk_cell BK227.out 5).trans rfl⟩ (fun hHeld => ?_); refine with_tabW shibbolethref06_Bytes.tab18 shibbolethref06_Bytes.bits18 (fun HT_ HW_ => ?_)
      generalize w66.drew = w69 at HO230 BK227 HB hHeld ⊢
      refine pure_ (i := 0) (N := some 85) (v := ?_) (a' := ?_) #[true, false, false, false, false, false, false, false, false, false] rfl rfl (any_of HT_.out (by kernel_rfl)) (fun _ _ _ h => h) (Or.inl ⟨by rfl, ?_⟩) ?_ ?_
      rotate_left
      ·intro w'
       go_simp
       with_reducible rfl
      rotate_left
      ·qp_
       rfl
      refine pure_ (i := 1) (N := some 86) (v := ?_) (a' := ?_) #[true, true, false, false, false, false, false, false, false, false] rfl rfl (any_of HT_.out (by kernel_rfl)) (fun _ _ _ h => h) (Or.inl ⟨by rfl, ?_⟩) ?_ ?_
      rotate_left
      ·intro w'
       go_simp
       with_reducible rfl
      rotate_left
      ·qp_
       rfl
      refine pure_ (i := 5) (N := some 90) (v := ?_) (a' := ?_) #[true, true, false, false, false, true, false, false, false, false] rfl rfl (any_of HT_.out (by kernel_rfl)) (fun _ _ _ h => h) (Or.inl ⟨by rfl, ?_⟩) ?_ ?_
      rotate_left
      ·intro w'
       go_simp
       with_reducible rfl
      rotate_left
      ·qp_
       rfl
      refine take_ (i := 2) (N := some 87) (v := ?_) (a' := ?_) #[true, true, true, false, false, true, false, false, false, false] rfl rfl (take_ofW HT_.out HW_.out (by kernel_rfl)) (fun _ _ _ h => h) (Or.inl ⟨by rfl, ?_⟩) hHeld ?_ ?_
      rotate_left
      ·rintro w' ⟨s0, s1, s2, s3, s4, s5⟩
       go_simp
       with_reducible rfl
      rotate_left
      ·qp_
       rfl
      refine take_ (i := 6) (N := some 91) (v := ?_) (a' := ?_) #[true, true, true, false, false, true, true, false, false, false] rfl rfl (take_ofW HT_.out HW_.out (by kernel_rfl)) (fun _ _ _ h => h) (Or.inl ⟨by rfl, ?_⟩) hHeld ?_ ?_
      rotate_left
      ·rintro w' ⟨s0, s1, s2, s3, s4, s5⟩
       go_simp
       with_reducible rfl
      rotate_left
      ·qp_
       rfl
      refine one_ (i := 3) (N := some 88) #[true, true, true, true, false, true, true, false, false, false] rfl rfl (one_of HT_.out (by kernel_rfl)) (by decide) (fun K hK => ?_)
      refine goes_ Tryd.func23 (by kernel_rfl) rfl #[.int .i64 a0_3] (by rfl) rfl rfl (pu201_) ?_
      with_reducible refine (shibbolethref01_Bytes.calls k a0_3 t271 _ A60.out).mono ?_
      rintro e w70 ⟨v272, rfl, ho0, hb⟩
      refine ⟨_, rfl, ?_⟩
      have n0_ := Aside0.mk (Kd.R_elder' (by qR_; exact HO230.out) (Kd.R_base ho0) hb)
      have n1_ := Aside0.mk (Kd.R_lower (Kd.R_new' ho0 (Kd.R_lt (by qR_; exact HO230.out))) (below_size (by qb1_ GE227)))
      have n2_ := Aside0.mk (blk_below (g := gb227) (o := (ou200_)) (by qk_; exact BK227.out) hb)
      lu203_
      clear HO230
      clear BK227
      clear HB
      have HO230 := n0_
      have HO273 := n1_
      have BK227 := n2_
      have HB := n3_
      clear n0_ n1_ n2_ n3_
      (try clear hb)
      (try clear hb2)
      (try clear hk)
      (try clear hi)
      (try clear ho0)
      obtain ⟨Ao72, co72, eo72⟩ := Kd.R_slice HO273.out
      (first | subst eo72 | (injection eo72 with f1_ f2_ f3_; have f4_ := f1_.symm; have f5_ := f3_.symm; clear f1_ f2_ f3_; subst f4_; subst f5_))
      lu2027_
      clear hK K
      refine norm_ (a' := ?_) ?_ ?_
      rotate_left
      ·show Act.put _ (some 88) _ = _
       qp_
       rfl
      refine one_ (i := 4) (N := some 89) #[true, true, true, true, true, true, true, false, false, false] rfl rfl (one_of HT_.out (by kernel_rfl)) (by decide) (fun K hK => ?_)
      refine Kd.R_append_rows_step (Kd.int .u8) (w0 := w) w.heap.size (by rfl) (.tmp 85) (.tmp 88) 22 5 (.int .u8 0) 1 rfl Tryd.underlying22 info5 rfl (by decide) (by omega) v229 y228 t271 _ _ _ (fun k_ => some k_ ≠ (.slice Ao72 t271.length co72 : Value).ownBlock) (fun _ => False) rfl rfl ?aO ?aR (fun _ _ h => h) (fun _ h => h.elim) ?aF ?aB ?aS ?aL ?_
      (case aR => repeat (first | exact (Kd.R_reads' HO273.out).2.2 | (with_reducible refine Kd.C_alloc ?_ _) | (with_reducible refine Kd.C_drewN ?_ _) | (with_reducible refine Kd.C_drew ?_)))
      (case aB => exact (by qb1_ GE227))
      (case aF => exact (fun k_ hk => Kd.fresh' (Kd.R_lt (by qR_; exact HO273.out)) k_ hk))
      (case aO => exact (pu207_))
      lu205_
      (case aL => have := LMc61.out; omega)
      intro v275 w71 ho hb hg hat
      rw [← Ny274.out] at ho
      have n0_ := Aside0.mk (blk_grown (g := gb227) (o := (ou200_)) (by qk_; exact BK227.out) hg (Kd.R_ne HO230.out BK227.out (by decide)))
      have n1_ := Aside0.mk (Kd.R_after (ok := (fun _ => True)) (by qR_; exact HO273.out) hg hat)
      have n2_ := Aside0.mk (hb)
      have n3_ := Aside0.mk (ho)
      clear BK227
      clear HO273
      clear HB
      clear HO230
      have BK227 := n0_
      have HO273 := n1_
      have HB := n2_
      have HO276 := n3_
      clear n0_ n1_ n2_ n3_
      clear ho hb hg hat
      lu2027_
      clear hK K
      refine norm_ (a' := ?_) ?_ ?_
      rotate_left
      ·show Act.put _ (some 89) _ = _
       qp_
       rfl
      refine one_ (i := 7) (N := some 92) #[true, true, true, true, true, true, true, true, false, false] rfl rfl (one_of HT_.out (by kernel_rfl)) (by decide) (fun K hK => ?_)
      refine goes_ Tryd.func32 (by kernel_rfl) rfl #[.slice A0_4 l0_4.length c0_4] (by rfl) rfl rfl (pu201_) ?_
      with_reducible refine (shibbolethref01_Give.calls k _ _ l0_4 t277 _ ?side1 ?side2 A62.out).mono ?_
      (case side1 => repeat (first | exact (Kd.C_below HR0_4.out HB.out) | exact HR0_4.out | (with_reducible refine Kd.C_alloc ?_ _) | (with_reducible refine Kd.C_drewN ?_ _) | (with_reducible refine Kd.C_drew ?_)))
      (case side2 => exact HC0_4.out)
      rintro e w73 ⟨v278, rfl, ho0, hb⟩
      refine ⟨_, rfl, ?_⟩
      have n0_ := Aside0.mk (Kd.R_elder' (by qR_; exact HO273.out) (Kd.R_base ho0) hb)
      have n1_ := Aside0.mk (Kd.R_elder' (by qR_; exact HO276.out) (Kd.R_base ho0) hb)
      have n2_ := Aside0.mk (Kd.R_lower (Kd.R_new' (Kd.R_new' ho0 (Kd.R_lt (by qR_; exact HO273.out))) (Kd.R_lt (by qR_; exact HO276.out))) (below_size (by qb1_ GE227)))
      have n3_ := Aside0.mk (blk_below (g := gb227) (o := (ou200_)) (by qk_; exact BK227.out) hb)
      have n4_ := Aside0.mk (below_step (by qb1_ GE227) hb)
      clear HO273
      clear HO276
      clear BK227
      clear HB
      have HO273 := n0_
      have HO276 := n1_
      have HO279 := n2_
      have BK227 := n3_
      have HB := n4_
      clear n0_ n1_ n2_ n3_ n4_
      (try clear hb)
      (try clear hb2)
      (try clear hk)
      (try clear hi)
      (try clear ho0)
      obtain ⟨Ao75, co75, eo75⟩ := Kd.R_slice HO279.out
      (first | subst eo75 | (injection eo75 with f1_ f2_ f3_; have f4_ := f1_.symm; have f5_ := f3_.symm; clear f1_ f2_ f3_; subst f4_; subst f5_))
      lu2027_
      clear hK K
      refine norm_ (a' := ?_) ?_ ?_
      rotate_left
      ·show Act.put _ (some 92) _ = _
       qp_
       rfl
      refine one_ (i := 8) (N := some 93) #[true, true, true, true, true, true, true, true, true, false] rfl rfl (one_of HT_.out (by kernel_rfl)) (by decide) (fun K hK => ?_)
      refine Kd.R_append_rows_step (Kd.int .u8) (w0 := w) w.heap.size (by rfl) (.tmp 89) (.tmp 92) 22 5 (.int .u8 0) 1 rfl Tryd.underlying22 info5 rfl (by decide) (by omega) v275 y274 t277 _ _ _ (fun k_ => some k_ ≠ (.slice Ao72 t271.length co72 : Value).ownBlock ∧ some k_ ≠ (.slice Ao75 t277.length co75 : Value).ownBlock) (fun _ => False) rfl rfl ?aO ?aR (fun _ _ h => h) (fun _ h => h.elim) ?aF ?aB ?aS ?aL ?_
      (case aR => repeat (first | exact (Kd.R_reads' HO279.out).2.2 | (with_reducible refine Kd.C_alloc ?_ _) | (with_reducible refine Kd.C_drewN ?_ _) | (with_reducible refine Kd.C_drew ?_)))
      (case aB => exact (by qb1_ GE227))
      (case aF => exact (fun k_ hk => ⟨Kd.fresh' (Kd.R_lt (by qR_; exact HO273.out)) k_ hk, Kd.fresh' (Kd.R_lt (by qR_; exact HO279.out)) k_ hk⟩))
      (case aO => exact (by qR_; exact HO276.out))
      lu205_
      (case aL => have := LMc63.out; omega)
      intro v281 w74 ho hb hg hat
      rw [← Ny280.out] at ho
      have n0_ := Aside0.mk (blk_grown (g := gb227) (o := (ou200_)) (by qk_; exact BK227.out) hg (Kd.R_ne HO276.out BK227.out (by decide)))
      have n1_ := Aside0.mk (Kd.R_after (ok := (fun k_ => some k_ ≠ (.slice Ao75 t277.length co75 : Value).ownBlock)) (by qR_; exact Kd.R_mono HO273.out (fun _ hk => ⟨hk.2, hk.1.2⟩)) hg hat)
      have n2_ := Aside0.mk (Kd.R_after (ok := (fun k_ => some k_ ≠ (.slice Ao72 t271.length co72 : Value).ownBlock)) (by qR_; exact Kd.R_mono HO279.out (fun _ hk => ⟨hk.1.2, hk.2⟩)) hg hat)
      have n3_ := Aside0.mk (hb)
      have n4_ := Aside0.mk (ho)
      clear BK227
      clear HO273
      clear HO279
      clear HB
      clear HO276
      have BK227 := n0_
      have HO273 := n1_
      have HO279 := n2_
      have HB := n3_
      have HO282 := n4_
      clear n0_ n1_ n2_ n3_ n4_
      clear ho hb hg hat
      lu2027_
      clear hK K
      refine norm_ (a' := ?_) ?_ ?_
      rotate_left
      ·show Act.put _ (some 93) _ = _
       qp_
       rfl
      lu2028_
      rotate_left
      ·intro w'
       go_simp
       with_reducible rfl
      rotate_left
      ·qp_
       rfl
      lu206_
      try go_wp2
      go_ret
      exact ⟨_, by first | rfl | (simp [errW_none, errW_some] <;> rfl) | (simp [*, errW_none, errW_some] <;> rfl), by qR_; exact Kd.R_mono HO282.out (fun _ hk => trivial), by qb1_ GE227⟩
     ·rw [if_neg c63] at H
      exact absurd H (by simp)
    ·rw [if_neg c61] at H
     exact absurd H (by simp)
   ·rw [if_neg c59] at H
    have c59b0 : (a0_0 == 6) = false := beq_eq_false_iff_ne.mpr c59
    have c59b1 : (a0_0 != 6) = true := bne_iff_ne.mpr c59
    by_cases c76 : a0_0 = 7
    ·rw [if_pos c76] at H
     have c76b0 : (a0_0 == 7) = true := beq_iff_eq.mpr c76
     have c76b1 : (a0_0 != 7) = false := bne_eq_false_iff_eq.mpr c76
     clear c76
     lu201_
     obtain ⟨t283, A770, H⟩ := H
     replace H : (if y228.length + t283.length < 140737488355328 then (some (y228 ++ t283)) else (none)) = some r := H
     have A77 := Aside0.mk A770
     clear A770
     by_cases c78 : y228.length + t283.length < 140737488355328
     ·rw [if_pos c78] at H
      have LMc78 := Aside0.mk c78
      clear c78
      obtain ⟨y286, hy286⟩ : ∃ y_ : List Int, y_ = (y228 ++ t283) := ⟨_, rfl⟩
      replace H : (some y286) = some r := by first | (rw [hy286]; with_reducible exact H) | (have H2_ := (Option.bind_some _ _).symm.trans H; rw [hy286]; with_reducible exact H2_) | (have H2_ := (Option.bind_some _ _).symm.trans H; with_reducible exact H2_) | with_reducible exact H | (rw [hy286]; exact H) | exact H
      have Ny286 := Aside0.mk hy286
      clear hy286
      obtain rfl := Option.some.inj H
      go_enter Tryd.func69, Tryd.ntmps69
      go_wp2_with (first | ((with_reducible refine gate_dst (N := 1) rfl ?_); refine box_event ?hg (N := 1) ?hd (cs := #[.int .i64 a0_0, .int .i64 a0_1, .slice A0_2 l0_2.length c0_2, .int .i64 a0_3, .slice A0_4 l0_4.length c0_4, .int .i64 a0_5]) (t := 62) ?hr ?_; (case hd => rfl); (case hg => rfl); (case hr => first | (go_simp; done) | (go_simp; rfl)); intro gb227 hg w79 hbox hb; have n0_ := Aside0.mk (below_step (by qc0_) hb); have n1_ := Aside0.mk (hbox); have n2_ := Aside0.mk ((pu202_)); have n3_ := Aside0.mk ((pu202_)); clear HB; have HB := n0_; have BK227 := n1_; have GW227 := n2_; have GE227 := n3_; clear n0_ n1_ n2_ n3_; clear hb hbox hg; have hcz80_0 : w79.cell? ⟨gb227, 0, none⟩ = some (.int .i64 a0_0) := (blk_cell BK227.out 0).trans rfl; have hcz80_1 : w79.cell? ⟨gb227, 1, none⟩ = some (.int .i64 a0_1) := (blk_cell BK227.out 1).trans rfl; have hcz80_2 : w79.cell? ⟨gb227, 2, none⟩ = some (.slice A0_2 l0_2.length c0_2) := (blk_cell BK227.out 2).trans rfl; have hcz80_3 : w79.cell? ⟨gb227, 3, none⟩ = some (.int .i64 a0_3) := (blk_cell BK227.out 3).trans rfl; have hcz80_4 : w79.cell? ⟨gb227, 4, none⟩ = some (.slice A0_4 l0_4.length c0_4) := (blk_cell BK227.out 4).trans rfl; have hcz80_5 : w79.cell? ⟨gb227, 5, none⟩ = some (.int .i64 a0_5) := (blk_cell BK227.out 5).trans rfl; have hfz80_0 := blk_frozen BK227.out 0; have hfz80_1 := blk_frozen BK227.out 1; have hfz80_2 := blk_frozen BK227.out 2; have hfz80_3 := blk_frozen BK227.out 3; have hfz80_4 := blk_frozen BK227.out 4; have hfz80_5 := blk_frozen BK227.out 5) | ((with_reducible refine gate_dst (N := 9) rfl ?_); refine Kd.R_lit (Kd.int .u8) _ 5 ?hg (N := 9) ?hd (xs := ([(a0_0) % 256] : List Int)) (inner := [.int .u8 ((a0_0) % 256)]) (ok := fun _ => True) (okp := fun _ => True) ?hr ?hp (fun _ hk => hk) trivial (Below.refl _ _) (Nat.le_refl _) (by simp) ?_; (case hd => rfl); (case hg => rfl); (case hr => first | (go_simp; done) | (go_simp; rfl)); (case hp => exact (Reps.one (show Kd.M (Kd.int .u8) _ _ _ ((a0_0) % 256) [.int .u8 ((a0_0) % 256)] from rfl) (Reps.none _ _))); intro v229 w81 ho82 hb hg_ hnew_; clear hg_ hnew_; (first | rw [← Ny228.out] at ho82 | (simp only [Int.reduceToNat] at ho82; rw [← Ny228.out] at ho82)); have n0_ := Aside0.mk (Kd.R_lower ho82 (below_size (by qb1_ GE227))); have n1_ := Aside0.mk (blk_below (g := gb227) (o := (ou200_)) (by qk_; exact BK227.out) hb); have n2_ := Aside0.mk (below_step (by qb1_ GE227) hb); clear BK227; clear HB; have HO230 := n0_; have BK227 := n1_; have HB := n2_; clear n0_ n1_ n2_; clear hb ho82; have hcz83_0 : w81.cell? ⟨gb227, 0, none⟩ = some (.int .i64 a0_0) := (blk_cell BK227.out 0).trans rfl; have hcz83_1 : w81.cell? ⟨gb227, 1, none⟩ = some (.int .i64 a0_1) := (blk_cell BK227.out 1).trans rfl; have hcz83_2 : w81.cell? ⟨gb227, 2, none⟩ = some (.slice A0_2 l0_2.length c0_2) := (blk_cell BK227.out 2).trans rfl; have hcz83_3 : w81.cell? ⟨gb227, 3, none⟩ = some (.int .i64 a0_3) := (blk_cell BK227.out 3).trans rfl; have hcz83_4 : w81.cell? ⟨gb227, 4, none⟩ = some (.slice A0_4 l0_4.length c0_4) := (blk_cell BK227.out 4).trans rfl; have hcz83_5 : w81.cell? ⟨gb227, 5, none⟩ = some (.int .i64 a0_5) := (blk_cell BK227.out 5).trans rfl; have hfz83_0 := blk_frozen BK227.out 0; have hfz83_1 := blk_frozen BK227.out 1; have hfz83_2 := blk_frozen BK227.out 2; have hfz83_3 := blk_frozen BK227.out 3; have hfz83_4 := blk_frozen BK227.out 4; have hfz83_5 := blk_frozen BK227.out 5) | ((with_reducible refine gate_callee (f := 89) rfl ?_); refine goesL_ (some 99) rfl rfl Tryd.func89 (by kernel_rfl) rfl #[.int .i64 a0_5] rfl (pu201_) ?_; (with_reducible refine (shibbolethref04_Number.calls a0_5 t283 _ A77.out).mono ?_); rintro e w84 ⟨v284, rfl, ho0, hb⟩; refine ⟨_, rfl, ?_⟩; have n0_ := Aside0.mk (Kd.R_elder' (by qR_; exact HO230.out) (Kd.R_base ho0) hb); have n1_ := Aside0.mk (Kd.R_lower (Kd.R_new' ho0 (Kd.R_lt (by qR_; exact HO230.out))) (below_size (by qb1_ GE227))); have n2_ := Aside0.mk (blk_below (g := gb227) (o := (ou200_)) (by qk_; exact BK227.out) hb); have n3_ := Aside0.mk (below_step (by qb1_ GE227) hb); clear HO230; clear BK227; clear HB; have HO230 := n0_; have HO285 := n1_; have BK227 := n2_; have HB := n3_; clear n0_ n1_ n2_ n3_; (try clear hb); (try clear hb2); (try clear hk); (try clear hi); (try clear ho0); obtain ⟨Ao86, co86, eo86⟩ := Kd.R_slice HO285.out; subst eo86) | ((with_reducible refine gate_builtin (b := .append) (xs := #[.tmp 96, .tmp 99]) rfl ?_); at_builtin; refine Kd.R_append_rows (Kd.int .u8) (w0 := w) w.heap.size rfl (.tmp 96) (.tmp 99) 22 5 (.int .u8 0) 1 rfl Tryd.underlying22 info5 rfl (by decide) (by omega) v229 y228 t283 _ _ _ (fun k_ => some k_ ≠ (.slice Ao86 t283.length co86 : Value).ownBlock) (fun _ => False) rfl rfl ?aO ?aR (fun _ _ h => h) (fun _ h => h.elim) ?aF ?aB ?aS ?aL ?_; (case aR => repeat (first | exact (Kd.R_reads' HO285.out).2.2 | (with_reducible refine Kd.C_alloc ?_ _) | (with_reducible refine Kd.C_drewN ?_ _) | (with_reducible refine Kd.C_drew ?_))); (case aB => exact (by qb1_ GE227)); (case aF => exact (fun k_ hk => Kd.fresh' (Kd.R_lt (by qR_; exact HO285.out)) k_ hk)); (case aO => exact (pu207_)); (case aS => exact (below_size (by qb1_ GE227))); (case aL => have := LMc78.out; omega); intro v287 w85 ho hb hg hat; rw [← Ny286.out] at ho; have n0_ := Aside0.mk (blk_grown (g := gb227) (o := (ou200_)) (by qk_; exact BK227.out) hg (Kd.R_ne HO230.out BK227.out (by decide))); have n1_ := Aside0.mk (Kd.R_after (ok := (fun _ => True)) (by qR_; exact HO285.out) hg hat); have n2_ := Aside0.mk (hb); have n3_ := Aside0.mk (ho); clear BK227; clear HO285; clear HB; clear HO230; have BK227 := n0_; have HO285 := n1_; have HB := n2_; have HO288 := n3_; clear n0_ n1_ n2_ n3_; clear ho hb hg hat))
      go_ret
      exact ⟨_, by first | rfl | (simp [errW_none, errW_some] <;> rfl) | (simp [*, errW_none, errW_some] <;> rfl), by qR_; exact Kd.R_mono HO288.out (fun _ hk => trivial), by qb1_ GE227⟩
     ·rw [if_neg c78] at H
      exact absurd H (by simp)
    ·rw [if_neg c76] at H
     have c76b0 : (a0_0 == 7) = false := beq_eq_false_iff_ne.mpr c76
     have c76b1 : (a0_0 != 7) = true := bne_iff_ne.mpr c76
     by_cases c87 : a0_0 = 8
     ·rw [if_pos c87] at H
      have c87b0 : (a0_0 == 8) = true := beq_iff_eq.mpr c87
      have c87b1 : (a0_0 != 8) = false := bne_eq_false_iff_eq.mpr c87
      clear c87
      lu201_
      obtain ⟨t289, A880, H⟩ := H
      replace H : (if y228.length + t289.length < 140737488355328 then ((some (y228 ++ t289 : List Int)).bind fun y292 => ((shibbolethref04_Number.f a0_5).bind fun t295 => (pu2010_))) else (none)) = some r := H
      have A88 := Aside0.mk A880
      clear A880
      by_cases c89 : y228.length + t289.length < 140737488355328
      ·rw [if_pos c89] at H
       have LMc89 := Aside0.mk c89
       clear c89
       obtain ⟨y292, hy292⟩ : ∃ y_ : List Int, y_ = (y228 ++ t289) := ⟨_, rfl⟩
       replace H : ((shibbolethref04_Number.f a0_5).bind fun t295 => (pu2010_)) = some r := by first | (rw [hy292]; with_reducible exact H) | (have H2_ := (Option.bind_some _ _).symm.trans H; rw [hy292]; with_reducible exact H2_) | (have H2_ := (Option.bind_some _ _).symm.trans H; with_reducible exact H2_) | with_reducible exact H | (rw [hy292]; exact H) | exact H
       have Ny292 := Aside0.mk hy292
       clear hy292
       lu201_
       obtain ⟨t295, A900, H⟩ := H
       replace H : (pu2010_) = some r := H
       have A90 := Aside0.mk A900
       clear A900
       by_cases c91 : y292.length + t295.length < 140737488355328
       ·rw [if_pos c91] at H
        have LMc91 := Aside0.mk c91
        clear c91
        obtain ⟨y298, hy298⟩ : ∃ y_ : List Int, y_ = (y292 ++ t295) := ⟨_, rfl⟩
        replace H : (some y298) = some r := by first | (rw [hy298]; with_reducible exact H) | (have H2_ := (Option.bind_some _ _).symm.trans H; rw [hy298]; with_reducible exact H2_) | (have H2_ := (Option.bind_some _ _).symm.trans H; with_reducible exact H2_) | with_reducible exact H | (rw [hy298]; exact H) | exact H
        have Ny298 := Aside0.mk hy298
        clear hy298
        obtain rfl := Option.some.inj H
        go_enter Tryd.func69, Tryd.ntmps69
        try go_wp2_with (first | ((with_reducible refine gate_dst (N := 1) rfl ?_); refine box_event ?hg (N := 1) ?hd (cs := #[.int .i64 a0_0, .int .i64 a0_1, .slice A0_2 l0_2.length c0_2, .int .i64 a0_3, .slice A0_4 l0_4.length c0_4, .int .i64 a0_5]) (t := 62) ?hr ?_; (case hd => rfl); (case hg => rfl); (case hr => first | (go_simp; done) | (go_simp; rfl)); intro gb227 hg w92 hbox hb; have n0_ := Aside0.mk (below_step (by qc0_) hb); have n1_ := Aside0.mk (hbox); have n2_ := Aside0.mk ((pu202_)); have n3_ := Aside0.mk ((pu202_)); clear HB; have HB := n0_; have BK227 := n1_; have GW227 := n2_; have GE227 := n3_; clear n0_ n1_ n2_ n3_; clear hb hbox hg; have hcz93_0 : w92.cell? ⟨gb227, 0, none⟩ = some (.int .i64 a0_0) := (blk_cell BK227.out 0).trans rfl; have hcz93_1 : w92.cell? ⟨gb227, 1, none⟩ = some (.int .i64 a0_1) := (blk_cell BK227.out 1).trans rfl; have hcz93_2 : w92.cell? ⟨gb227, 2, none⟩ = some (.slice A0_2 l0_2.length c0_2) := (blk_cell BK227.out 2).trans rfl; have hcz93_3 : w92.cell? ⟨gb227, 3, none⟩ = some (.int .i64 a0_3) := (blk_cell BK227.out 3).trans rfl; have hcz93_4 : w92.cell? ⟨gb227, 4, none⟩ = some (.slice A0_4 l0_4.length c0_4) := (blk_cell BK227.out 4).trans rfl; have hcz93_5 : w92.cell? ⟨gb227, 5, none⟩ = some (.int .i64 a0_5) := (blk_cell BK227.out 5).trans rfl; have hfz93_0 := blk_frozen BK227.out 0; have hfz93_1 := blk_frozen BK227.out 1; have hfz93_2 := blk_frozen BK227.out 2; have hfz93_3 := blk_frozen BK227.out 3; have hfz93_4 := blk_frozen BK227.out 4; have hfz93_5 := blk_frozen BK227.out 5) | ((with_reducible refine gate_dst (N := 9) rfl ?_); refine Kd.R_lit (Kd.int .u8) _ 5 ?hg (N := 9) ?hd (xs := ([(a0_0) % 256] : List Int)) (inner := [.int .u8 ((a0_0) % 256)]) (ok := fun _ => True) (okp := fun _ => True) ?hr ?hp (fun _ hk => hk) trivial (Below.refl _ _) (Nat.le_refl _) (by simp) ?_; (case hd => rfl); (case hg => rfl); (case hr => first | (go_simp; done) | (go_simp; rfl)); (case hp => exact (Reps.one (show Kd.M (Kd.int .u8) _ _ _ ((a0_0) % 256) [.int .u8 ((a0_0) % 256)] from rfl) (Reps.none _ _))); intro v229 w94 ho95 hb hg_ hnew_; clear hg_ hnew_; (first | rw [← Ny228.out] at ho95 | (simp only [Int.reduceToNat] at ho95; rw [← Ny228.out] at ho95)); have n0_ := Aside0.mk (Kd.R_lower ho95 (below_size (by qb1_ GE227))); have n1_ := Aside0.mk (blk_below (g := gb227) (o := (ou200_)) (by qk_; exact BK227.out) hb); have n2_ := Aside0.mk (below_step (by qb1_ GE227) hb); clear BK227; clear HB; have HO230 := n0_; have BK227 := n1_; have HB := n2_; clear n0_ n1_ n2_; clear hb ho95; have hcz96_0 : w94.cell? ⟨gb227, 0, none⟩ = some (.int .i64 a0_0) := (blk_cell BK227.out 0).trans rfl; have hcz96_1 : w94.cell? ⟨gb227, 1, none⟩ = some (.int .i64 a0_1) := (blk_cell BK227.out 1).trans rfl; have hcz96_2 : w94.cell? ⟨gb227, 2, none⟩ = some (.slice A0_2 l0_2.length c0_2) := (blk_cell BK227.out 2).trans rfl; have hcz96_3 : w94.cell? ⟨gb227, 3, none⟩ = some (.int .i64 a0_3) := (blk_cell BK227.out 3).trans rfl; have hcz96_4 : w94.cell? ⟨gb227, 4, none⟩ = some (.slice A0_4 l0_4.length c0_4) := (blk_cell BK227.out 4).trans rfl; have hcz96_5 : w94.cell? ⟨gb227, 5, none⟩ = some (.int .i64 a0_5) := (blk_cell BK227.out 5).trans rfl; have hfz96_0 := blk_frozen BK227.out 0; have hfz96_1 := blk_frozen BK227.out 1; have hfz96_2 := blk_frozen BK227.out 2; have hfz96_3 := blk_frozen BK227.out 3; have hfz96_4 := blk_frozen BK227.out 4; have hfz96_5 := blk_frozen BK227.out 5))
        have n0_ := Aside0.mk (Kd.R_drew HO230.out)
        have n1_ := Aside0.mk (blk_drew BK227.out)
        have n2_ := Aside0.mk (below_drew1 HB.out)
        clear HO230
        clear BK227
        clear HB
        have HO230 := n0_
        have BK227 := n1_
        have HB := n2_
        clear n0_ n1_ n2_
        refine start_ (n := 10) (S := fun w' => w'.cell? ⟨gb227, 0, none⟩ = some (.int .i64 a0_0) ∧ w'.cell? ⟨gb227, 1, none⟩ = some (.int .i64 a0_1) ∧ w'.cell? ⟨gb227, 2, none⟩ = some (.slice A0_2 l0_2.length c0_2) ∧ w'.cell? ⟨gb227, 3, none⟩ = some (.int .i64 a0_3) ∧ w'.cell? ⟨gb227, 4, none⟩ = some (.slice A0_4 l0_4.length c0_4) ∧ w'.cell? ⟨gb227, 5, none⟩ = some (.int .i64 a0_5)) (ds := []) #[false, false, false, false, false, false, false, false, false, false] (by kernel_rfl) rfl rfl ⟨(blk_cell BK227.out 0).trans rfl, (blk_cell BK227.out 1).trans rfl, (blk_cell BK227.out 2).trans rfl, (blk_cell BK227.out 3).trans rfl, (blk_cell BK227.out 4).trans rfl, (blk_cell BK227.out 5).trans rfl⟩ (fun hHeld => ?_); refine with_tabW shibbolethref06_Bytes.tab22 shibbolethref06_Bytes.bits22 (fun HT_ HW_ => ?_)
        generalize w94.drew = w97 at HO230 BK227 HB hHeld ⊢
        refine pure_ (i := 0) (N := some 103) (v := ?_) (a' := ?_) #[true, false, false, false, false, false, false, false, false, false] rfl rfl (any_of HT_.out (by kernel_rfl)) (fun _ _ _ h => h) (Or.inl ⟨by rfl, ?_⟩) ?_ ?_
        rotate_left
        ·intro w'
         go_simp
         with_reducible rfl
        rotate_left
        ·qp_
         rfl
        refine pure_ (i := 1) (N := some 104) (v := ?_) (a' := ?_) #[true, true, false, false, false, false, false, false, false, false] rfl rfl (any_of HT_.out (by kernel_rfl)) (fun _ _ _ h => h) (Or.inl ⟨by rfl, ?_⟩) ?_ ?_
        rotate_left
        ·intro w'
         go_simp
         with_reducible rfl
        rotate_left
        ·qp_
         rfl
        refine pure_ (i := 5) (N := some 108) (v := ?_) (a' := ?_) #[true, true, false, false, false, true, false, false, false, false] rfl rfl (any_of HT_.out (by kernel_rfl)) (fun _ _ _ h => h) (Or.inl ⟨by rfl, ?_⟩) ?_ ?_
        rotate_left
        ·intro w'
         go_simp
         with_reducible rfl
        rotate_left
        ·qp_
         rfl
        refine take_ (i := 2) (N := some 105) (v := ?_) (a' := ?_) #[true, true, true, false, false, true, false, false, false, false] rfl rfl (take_ofW HT_.out HW_.out (by kernel_rfl)) (fun _ _ _ h => h) (Or.inl ⟨by rfl, ?_⟩) hHeld ?_ ?_
        rotate_left
        ·rintro w' ⟨s0, s1, s2, s3, s4, s5⟩
         go_simp
         with_reducible rfl
        rotate_left
        ·qp_
         rfl
        refine take_ (i := 6) (N := some 109) (v := ?_) (a' := ?_) #[true, true, true, false, false, true, true, false, false, false] rfl rfl (take_ofW HT_.out HW_.out (by kernel_rfl)) (fun _ _ _ h => h) (Or.inl ⟨by rfl, ?_⟩) hHeld ?_ ?_
        rotate_left
        ·rintro w' ⟨s0, s1, s2, s3, s4, s5⟩
         go_simp
         with_reducible rfl
        rotate_left
        ·qp_
         rfl
        refine one_ (i := 3) (N := some 106) #[true, true, true, true, false, true, true, false, false, false] rfl rfl (one_of HT_.out (by kernel_rfl)) (by decide) (fun K hK => ?_)
        refine goes_ Tryd.func23 (by kernel_rfl) rfl #[.int .i64 a0_1] (by rfl) rfl rfl (pu201_) ?_
        with_reducible refine (shibbolethref01_Bytes.calls k a0_1 t289 _ A88.out).mono ?_
        rintro e w98 ⟨v290, rfl, ho0, hb⟩
        refine ⟨_, rfl, ?_⟩
        have n0_ := Aside0.mk (Kd.R_elder' (by qR_; exact HO230.out) (Kd.R_base ho0) hb)
        have n1_ := Aside0.mk (Kd.R_lower (Kd.R_new' ho0 (Kd.R_lt (by qR_; exact HO230.out))) (below_size (by qb1_ GE227)))
        have n2_ := Aside0.mk (blk_below (g := gb227) (o := (ou200_)) (by qk_; exact BK227.out) hb)
        lu203_
        clear HO230
        clear BK227
        clear HB
        have HO230 := n0_
        have HO291 := n1_
        have BK227 := n2_
        have HB := n3_
        clear n0_ n1_ n2_ n3_
        (try clear hb)
        (try clear hb2)
        (try clear hk)
        (try clear hi)
        (try clear ho0)
        obtain ⟨Ao100, co100, eo100⟩ := Kd.R_slice HO291.out
        (first | subst eo100 | (injection eo100 with f1_ f2_ f3_; have f4_ := f1_.symm; have f5_ := f3_.symm; clear f1_ f2_ f3_; subst f4_; subst f5_))
        lu2027_
        clear hK K
        refine norm_ (a' := ?_) ?_ ?_
        rotate_left
        ·show Act.put _ (some 106) _ = _
         qp_
         rfl
        refine one_ (i := 4) (N := some 107) #[true, true, true, true, true, true, true, false, false, false] rfl rfl (one_of HT_.out (by kernel_rfl)) (by decide) (fun K hK => ?_)
        refine Kd.R_append_rows_step (Kd.int .u8) (w0 := w) w.heap.size (by rfl) (.tmp 103) (.tmp 106) 22 5 (.int .u8 0) 1 rfl Tryd.underlying22 info5 rfl (by decide) (by omega) v229 y228 t289 _ _ _ (fun k_ => some k_ ≠ (.slice Ao100 t289.length co100 : Value).ownBlock) (fun _ => False) rfl rfl ?aO ?aR (fun _ _ h => h) (fun _ h => h.elim) ?aF ?aB ?aS ?aL ?_
        (case aR => repeat (first | exact (Kd.R_reads' HO291.out).2.2 | (with_reducible refine Kd.C_alloc ?_ _) | (with_reducible refine Kd.C_drewN ?_ _) | (with_reducible refine Kd.C_drew ?_)))
        (case aB => exact (by qb1_ GE227))
        (case aF => exact (fun k_ hk => Kd.fresh' (Kd.R_lt (by qR_; exact HO291.out)) k_ hk))
        (case aO => exact (pu207_))
        lu205_
        (case aL => have := LMc89.out; omega)
        intro v293 w99 ho hb hg hat
        rw [← Ny292.out] at ho
        have n0_ := Aside0.mk (blk_grown (g := gb227) (o := (ou200_)) (by qk_; exact BK227.out) hg (Kd.R_ne HO230.out BK227.out (by decide)))
        have n1_ := Aside0.mk (Kd.R_after (ok := (fun _ => True)) (by qR_; exact HO291.out) hg hat)
        have n2_ := Aside0.mk (hb)
        have n3_ := Aside0.mk (ho)
        clear BK227
        clear HO291
        clear HB
        clear HO230
        have BK227 := n0_
        have HO291 := n1_
        have HB := n2_
        have HO294 := n3_
        clear n0_ n1_ n2_ n3_
        clear ho hb hg hat
        lu2027_
        clear hK K
        refine norm_ (a' := ?_) ?_ ?_
        rotate_left
        ·show Act.put _ (some 107) _ = _
         qp_
         rfl
        refine one_ (i := 7) (N := some 110) #[true, true, true, true, true, true, true, true, false, false] rfl rfl (one_of HT_.out (by kernel_rfl)) (by decide) (fun K hK => ?_)
        refine goes_ Tryd.func89 (by kernel_rfl) rfl #[.int .i64 a0_5] (by rfl) rfl rfl (pu201_) ?_
        with_reducible refine (shibbolethref04_Number.calls a0_5 t295 _ A90.out).mono ?_
        rintro e w101 ⟨v296, rfl, ho0, hb⟩
        refine ⟨_, rfl, ?_⟩
        have n0_ := Aside0.mk (Kd.R_elder' (by qR_; exact HO291.out) (Kd.R_base ho0) hb)
        have n1_ := Aside0.mk (Kd.R_elder' (by qR_; exact HO294.out) (Kd.R_base ho0) hb)
        have n2_ := Aside0.mk (Kd.R_lower (Kd.R_new' (Kd.R_new' ho0 (Kd.R_lt (by qR_; exact HO291.out))) (Kd.R_lt (by qR_; exact HO294.out))) (below_size (by qb1_ GE227)))
        have n3_ := Aside0.mk (blk_below (g := gb227) (o := (ou200_)) (by qk_; exact BK227.out) hb)
        have n4_ := Aside0.mk (below_step (by qb1_ GE227) hb)
        clear HO291
        clear HO294
        clear BK227
        clear HB
        have HO291 := n0_
        have HO294 := n1_
        have HO297 := n2_
        have BK227 := n3_
        have HB := n4_
        clear n0_ n1_ n2_ n3_ n4_
        (try clear hb)
        (try clear hb2)
        (try clear hk)
        (try clear hi)
        (try clear ho0)
        obtain ⟨Ao103, co103, eo103⟩ := Kd.R_slice HO297.out
        (first | subst eo103 | (injection eo103 with f1_ f2_ f3_; have f4_ := f1_.symm; have f5_ := f3_.symm; clear f1_ f2_ f3_; subst f4_; subst f5_))
        lu2027_
        clear hK K
        refine norm_ (a' := ?_) ?_ ?_
        rotate_left
        ·show Act.put _ (some 110) _ = _
         qp_
         rfl
        refine one_ (i := 8) (N := some 111) #[true, true, true, true, true, true, true, true, true, false] rfl rfl (one_of HT_.out (by kernel_rfl)) (by decide) (fun K hK => ?_)
        refine Kd.R_append_rows_step (Kd.int .u8) (w0 := w) w.heap.size (by rfl) (.tmp 107) (.tmp 110) 22 5 (.int .u8 0) 1 rfl Tryd.underlying22 info5 rfl (by decide) (by omega) v293 y292 t295 _ _ _ (fun k_ => some k_ ≠ (.slice Ao100 t289.length co100 : Value).ownBlock ∧ some k_ ≠ (.slice Ao103 t295.length co103 : Value).ownBlock) (fun _ => False) rfl rfl ?aO ?aR (fun _ _ h => h) (fun _ h => h.elim) ?aF ?aB ?aS ?aL ?_
        (case aR => repeat (first | exact (Kd.R_reads' HO297.out).2.2 | (with_reducible refine Kd.C_alloc ?_ _) | (with_reducible refine Kd.C_drewN ?_ _) | (with_reducible refine Kd.C_drew ?_)))
        (case aB => exact (by qb1_ GE227))
        (case aF => exact (fun k_ hk => ⟨Kd.fresh' (Kd.R_lt (by qR_; exact HO291.out)) k_ hk, Kd.fresh' (Kd.R_lt (by qR_; exact HO297.out)) k_ hk⟩))
        (case aO => exact (by qR_; exact HO294.out))
        lu205_
        (case aL => have := LMc91.out; omega)
        intro v299 w102 ho hb hg hat
        rw [← Ny298.out] at ho
        have n0_ := Aside0.mk (blk_grown (g := gb227) (o := (ou200_)) (by qk_; exact BK227.out) hg (Kd.R_ne HO294.out BK227.out (by decide)))
        have n1_ := Aside0.mk (Kd.R_after (ok := (fun k_ => some k_ ≠ (.slice Ao103 t295.length co103 : Value).ownBlock)) (by qR_; exact Kd.R_mono HO291.out (fun _ hk => ⟨hk.2, hk.1.2⟩)) hg hat)
        have n2_ := Aside0.mk (Kd.R_after (ok := (fun k_ => some k_ ≠ (.slice Ao100 t289.length co100 : Value).ownBlock)) (by qR_; exact Kd.R_mono HO297.out (fun _ hk => ⟨hk.1.2, hk.2⟩)) hg hat)
        have n3_ := Aside0.mk (hb)
        have n4_ := Aside0.mk (ho)
        clear BK227
        clear HO291
        clear HO297
        clear HB
        clear HO294
        have BK227 := n0_
        have HO291 := n1_
        have HO297 := n2_
        have HB := n3_
        have HO300 := n4_
        clear n0_ n1_ n2_ n3_ n4_
        clear ho hb hg hat
        lu2027_
        clear hK K
        refine norm_ (a' := ?_) ?_ ?_
        rotate_left
        ·show Act.put _ (some 111) _ = _
         qp_
         rfl
        lu2028_
        rotate_left
        ·intro w'
         go_simp
         with_reducible rfl
        rotate_left
        ·qp_
         rfl
        lu206_
        try go_wp2
        go_ret
        exact ⟨_, by first | rfl | (simp [errW_none, errW_some] <;> rfl) | (simp [*, errW_none, errW_some] <;> rfl), by qR_; exact Kd.R_mono HO300.out (fun _ hk => trivial), by qb1_ GE227⟩
       ·rw [if_neg c91] at H
        exact absurd H (by simp)
      ·rw [if_neg c89] at H
       exact absurd H (by simp)
     ·rw [if_neg c87] at H
      have c87b0 : (a0_0 == 8) = false := beq_eq_false_iff_ne.mpr c87
      have c87b1 : (a0_0 != 8) = true := bne_iff_ne.mpr c87
      by_cases c104 : a0_0 = 28
      ·rw [if_pos c104] at H
       have c104b0 : (a0_0 == 28) = true := beq_iff_eq.mpr c104
       have c104b1 : (a0_0 != 28) = false := bne_eq_false_iff_eq.mpr c104
       clear c104
       lu201_
       obtain ⟨t301, A1050, H⟩ := H
       replace H : (if y228.length + t301.length < 140737488355328 then (some (y228 ++ t301)) else (none)) = some r := H
       have A105 := Aside0.mk A1050
       clear A1050
       by_cases c106 : y228.length + t301.length < 140737488355328
       ·rw [if_pos c106] at H
        have LMc106 := Aside0.mk c106
        clear c106
        obtain ⟨y304, hy304⟩ : ∃ y_ : List Int, y_ = (y228 ++ t301) := ⟨_, rfl⟩
        replace H : (some y304) = some r := by first | (rw [hy304]; with_reducible exact H) | (have H2_ := (Option.bind_some _ _).symm.trans H; rw [hy304]; with_reducible exact H2_) | (have H2_ := (Option.bind_some _ _).symm.trans H; with_reducible exact H2_) | with_reducible exact H | (rw [hy304]; exact H) | exact H
        have Ny304 := Aside0.mk hy304
        clear hy304
        obtain rfl := Option.some.inj H
        go_enter Tryd.func69, Tryd.ntmps69
        go_wp2_with (first | ((with_reducible refine gate_dst (N := 1) rfl ?_); refine box_event ?hg (N := 1) ?hd (cs := #[.int .i64 a0_0, .int .i64 a0_1, .slice A0_2 l0_2.length c0_2, .int .i64 a0_3, .slice A0_4 l0_4.length c0_4, .int .i64 a0_5]) (t := 62) ?hr ?_; (case hd => rfl); (case hg => rfl); (case hr => first | (go_simp; done) | (go_simp; rfl)); intro gb227 hg w107 hbox hb; have n0_ := Aside0.mk (below_step (by qc0_) hb); have n1_ := Aside0.mk (hbox); have n2_ := Aside0.mk ((pu202_)); have n3_ := Aside0.mk ((pu202_)); clear HB; have HB := n0_; have BK227 := n1_; have GW227 := n2_; have GE227 := n3_; clear n0_ n1_ n2_ n3_; clear hb hbox hg; have hcz108_0 : w107.cell? ⟨gb227, 0, none⟩ = some (.int .i64 a0_0) := (blk_cell BK227.out 0).trans rfl; have hcz108_1 : w107.cell? ⟨gb227, 1, none⟩ = some (.int .i64 a0_1) := (blk_cell BK227.out 1).trans rfl; have hcz108_2 : w107.cell? ⟨gb227, 2, none⟩ = some (.slice A0_2 l0_2.length c0_2) := (blk_cell BK227.out 2).trans rfl; have hcz108_3 : w107.cell? ⟨gb227, 3, none⟩ = some (.int .i64 a0_3) := (blk_cell BK227.out 3).trans rfl; have hcz108_4 : w107.cell? ⟨gb227, 4, none⟩ = some (.slice A0_4 l0_4.length c0_4) := (blk_cell BK227.out 4).trans rfl; have hcz108_5 : w107.cell? ⟨gb227, 5, none⟩ = some (.int .i64 a0_5) := (blk_cell BK227.out 5).trans rfl; have hfz108_0 := blk_frozen BK227.out 0; have hfz108_1 := blk_frozen BK227.out 1; have hfz108_2 := blk_frozen BK227.out 2; have hfz108_3 := blk_frozen BK227.out 3; have hfz108_4 := blk_frozen BK227.out 4; have hfz108_5 := blk_frozen BK227.out 5) | ((with_reducible refine gate_dst (N := 9) rfl ?_); refine Kd.R_lit (Kd.int .u8) _ 5 ?hg (N := 9) ?hd (xs := ([(a0_0) % 256] : List Int)) (inner := [.int .u8 ((a0_0) % 256)]) (ok := fun _ => True) (okp := fun _ => True) ?hr ?hp (fun _ hk => hk) trivial (Below.refl _ _) (Nat.le_refl _) (by simp) ?_; (case hd => rfl); (case hg => rfl); (case hr => first | (go_simp; done) | (go_simp; rfl)); (case hp => exact (Reps.one (show Kd.M (Kd.int .u8) _ _ _ ((a0_0) % 256) [.int .u8 ((a0_0) % 256)] from rfl) (Reps.none _ _))); intro v229 w109 ho110 hb hg_ hnew_; clear hg_ hnew_; (first | rw [← Ny228.out] at ho110 | (simp only [Int.reduceToNat] at ho110; rw [← Ny228.out] at ho110)); have n0_ := Aside0.mk (Kd.R_lower ho110 (below_size (by qb1_ GE227))); have n1_ := Aside0.mk (blk_below (g := gb227) (o := (ou200_)) (by qk_; exact BK227.out) hb); have n2_ := Aside0.mk (below_step (by qb1_ GE227) hb); clear BK227; clear HB; have HO230 := n0_; have BK227 := n1_; have HB := n2_; clear n0_ n1_ n2_; clear hb ho110; have hcz111_0 : w109.cell? ⟨gb227, 0, none⟩ = some (.int .i64 a0_0) := (blk_cell BK227.out 0).trans rfl; have hcz111_1 : w109.cell? ⟨gb227, 1, none⟩ = some (.int .i64 a0_1) := (blk_cell BK227.out 1).trans rfl; have hcz111_2 : w109.cell? ⟨gb227, 2, none⟩ = some (.slice A0_2 l0_2.length c0_2) := (blk_cell BK227.out 2).trans rfl; have hcz111_3 : w109.cell? ⟨gb227, 3, none⟩ = some (.int .i64 a0_3) := (blk_cell BK227.out 3).trans rfl; have hcz111_4 : w109.cell? ⟨gb227, 4, none⟩ = some (.slice A0_4 l0_4.length c0_4) := (blk_cell BK227.out 4).trans rfl; have hcz111_5 : w109.cell? ⟨gb227, 5, none⟩ = some (.int .i64 a0_5) := (blk_cell BK227.out 5).trans rfl; have hfz111_0 := blk_frozen BK227.out 0; have hfz111_1 := blk_frozen BK227.out 1; have hfz111_2 := blk_frozen BK227.out 2; have hfz111_3 := blk_frozen BK227.out 3; have hfz111_4 := blk_frozen BK227.out 4; have hfz111_5 := blk_frozen BK227.out 5) | ((with_reducible refine gate_callee (f := 23) rfl ?_); refine goesL_ (some 117) rfl rfl Tryd.func23 (by kernel_rfl) rfl #[.int .i64 a0_1] rfl (pu201_) ?_; (with_reducible refine (shibbolethref01_Bytes.calls k a0_1 t301 _ A105.out).mono ?_); rintro e w112 ⟨v302, rfl, ho0, hb⟩; refine ⟨_, rfl, ?_⟩; have n0_ := Aside0.mk (Kd.R_elder' (by qR_; exact HO230.out) (Kd.R_base ho0) hb); have n1_ := Aside0.mk (Kd.R_lower (Kd.R_new' ho0 (Kd.R_lt (by qR_; exact HO230.out))) (below_size (by qb1_ GE227))); have n2_ := Aside0.mk (blk_below (g := gb227) (o := (ou200_)) (by qk_; exact BK227.out) hb); have n3_ := Aside0.mk (below_step (by qb1_ GE227) hb); clear HO230; clear BK227; clear HB; have HO230 := n0_; have HO303 := n1_; have BK227 := n2_; have HB := n3_; clear n0_ n1_ n2_ n3_; (try clear hb); (try clear hb2); (try clear hk); (try clear hi); (try clear ho0); obtain ⟨Ao114, co114, eo114⟩ := Kd.R_slice HO303.out; subst eo114) | ((with_reducible refine gate_builtin (b := .append) (xs := #[.tmp 114, .tmp 117]) rfl ?_); at_builtin; refine Kd.R_append_rows (Kd.int .u8) (w0 := w) w.heap.size rfl (.tmp 114) (.tmp 117) 22 5 (.int .u8 0) 1 rfl Tryd.underlying22 info5 rfl (by decide) (by omega) v229 y228 t301 _ _ _ (fun k_ => some k_ ≠ (.slice Ao114 t301.length co114 : Value).ownBlock) (fun _ => False) rfl rfl ?aO ?aR (fun _ _ h => h) (fun _ h => h.elim) ?aF ?aB ?aS ?aL ?_; (case aR => repeat (first | exact (Kd.R_reads' HO303.out).2.2 | (with_reducible refine Kd.C_alloc ?_ _) | (with_reducible refine Kd.C_drewN ?_ _) | (with_reducible refine Kd.C_drew ?_))); (case aB => exact (by qb1_ GE227)); (case aF => exact (fun k_ hk => Kd.fresh' (Kd.R_lt (by qR_; exact HO303.out)) k_ hk)); (case aO => exact (pu207_)); (case aS => exact (below_size (by qb1_ GE227))); (case aL => have := LMc106.out; omega); intro v305 w113 ho hb hg hat; rw [← Ny304.out] at ho; have n0_ := Aside0.mk (blk_grown (g := gb227) (o := (ou200_)) (by qk_; exact BK227.out) hg (Kd.R_ne HO230.out BK227.out (by decide))); have n1_ := Aside0.mk (Kd.R_after (ok := (fun _ => True)) (by qR_; exact HO303.out) hg hat); have n2_ := Aside0.mk (hb); have n3_ := Aside0.mk (ho); clear BK227; clear HO303; clear HB; clear HO230; have BK227 := n0_; have HO303 := n1_; have HB := n2_; have HO306 := n3_; clear n0_ n1_ n2_ n3_; clear ho hb hg hat))
        go_ret
        exact ⟨_, by first | rfl | (simp [errW_none, errW_some] <;> rfl) | (simp [*, errW_none, errW_some] <;> rfl), by qR_; exact Kd.R_mono HO306.out (fun _ hk => trivial), by qb1_ GE227⟩
       ·rw [if_neg c106] at H
        exact absurd H (by simp)
      ·rw [if_neg c104] at H
       have c104b0 : (a0_0 == 28) = false := beq_eq_false_iff_ne.mpr c104
       have c104b1 : (a0_0 != 28) = true := bne_iff_ne.mpr c104
       obtain rfl := Option.some.inj H
       go_enter Tryd.func69, Tryd.ntmps69
       go_wp2_with (first | ((with_reducible refine gate_dst (N := 1) rfl ?_); refine box_event ?hg (N := 1) ?hd (cs := #[.int .i64 a0_0, .int .i64 a0_1, .slice A0_2 l0_2.length c0_2, .int .i64 a0_3, .slice A0_4 l0_4.length c0_4, .int .i64 a0_5]) (t := 62) ?hr ?_; (case hd => rfl); (case hg => rfl); (case hr => first | (go_simp; done) | (go_simp; rfl)); intro gb227 hg w115 hbox hb; have n0_ := Aside0.mk (below_step (by qc0_) hb); have n1_ := Aside0.mk (hbox); have n2_ := Aside0.mk ((pu202_)); have n3_ := Aside0.mk ((pu202_)); clear HB; have HB := n0_; have BK227 := n1_; have GW227 := n2_; have GE227 := n3_; clear n0_ n1_ n2_ n3_; clear hb hbox hg; have hcz116_0 : w115.cell? ⟨gb227, 0, none⟩ = some (.int .i64 a0_0) := (blk_cell BK227.out 0).trans rfl; have hcz116_1 : w115.cell? ⟨gb227, 1, none⟩ = some (.int .i64 a0_1) := (blk_cell BK227.out 1).trans rfl; have hcz116_2 : w115.cell? ⟨gb227, 2, none⟩ = some (.slice A0_2 l0_2.length c0_2) := (blk_cell BK227.out 2).trans rfl; have hcz116_3 : w115.cell? ⟨gb227, 3, none⟩ = some (.int .i64 a0_3) := (blk_cell BK227.out 3).trans rfl; have hcz116_4 : w115.cell? ⟨gb227, 4, none⟩ = some (.slice A0_4 l0_4.length c0_4) := (blk_cell BK227.out 4).trans rfl; have hcz116_5 : w115.cell? ⟨gb227, 5, none⟩ = some (.int .i64 a0_5) := (blk_cell BK227.out 5).trans rfl; have hfz116_0 := blk_frozen BK227.out 0; have hfz116_1 := blk_frozen BK227.out 1; have hfz116_2 := blk_frozen BK227.out 2; have hfz116_3 := blk_frozen BK227.out 3; have hfz116_4 := blk_frozen BK227.out 4; have hfz116_5 := blk_frozen BK227.out 5) | ((with_reducible refine gate_dst (N := 9) rfl ?_); refine Kd.R_lit (Kd.int .u8) _ 5 ?hg (N := 9) ?hd (xs := ([(a0_0) % 256] : List Int)) (inner := [.int .u8 ((a0_0) % 256)]) (ok := fun _ => True) (okp := fun _ => True) ?hr ?hp (fun _ hk => hk) trivial (Below.refl _ _) (Nat.le_refl _) (by simp) ?_; (case hd => rfl); (case hg => rfl); (case hr => first | (go_simp; done) | (go_simp; rfl)); (case hp => exact (Reps.one (show Kd.M (Kd.int .u8) _ _ _ ((a0_0) % 256) [.int .u8 ((a0_0) % 256)] from rfl) (Reps.none _ _))); intro v229 w117 ho118 hb hg_ hnew_; clear hg_ hnew_; (first | rw [← Ny228.out] at ho118 | (simp only [Int.reduceToNat] at ho118; rw [← Ny228.out] at ho118)); have n0_ := Aside0.mk (Kd.R_lower ho118 (below_size (by qb1_ GE227))); have n1_ := Aside0.mk (blk_below (g := gb227) (o := (ou200_)) (by qk_; exact BK227.out) hb); have n2_ := Aside0.mk (below_step (by qb1_ GE227) hb); clear BK227; clear HB; have HO230 := n0_; have BK227 := n1_; have HB := n2_; clear n0_ n1_ n2_; clear hb ho118; have hcz119_0 : w117.cell? ⟨gb227, 0, none⟩ = some (.int .i64 a0_0) := (blk_cell BK227.out 0).trans rfl; have hcz119_1 : w117.cell? ⟨gb227, 1, none⟩ = some (.int .i64 a0_1) := (blk_cell BK227.out 1).trans rfl; have hcz119_2 : w117.cell? ⟨gb227, 2, none⟩ = some (.slice A0_2 l0_2.length c0_2) := (blk_cell BK227.out 2).trans rfl; have hcz119_3 : w117.cell? ⟨gb227, 3, none⟩ = some (.int .i64 a0_3) := (blk_cell BK227.out 3).trans rfl; have hcz119_4 : w117.cell? ⟨gb227, 4, none⟩ = some (.slice A0_4 l0_4.length c0_4) := (blk_cell BK227.out 4).trans rfl; have hcz119_5 : w117.cell? ⟨gb227, 5, none⟩ = some (.int .i64 a0_5) := (blk_cell BK227.out 5).trans rfl; have hfz119_0 := blk_frozen BK227.out 0; have hfz119_1 := blk_frozen BK227.out 1; have hfz119_2 := blk_frozen BK227.out 2; have hfz119_3 := blk_frozen BK227.out 3; have hfz119_4 := blk_frozen BK227.out 4; have hfz119_5 := blk_frozen BK227.out 5))
       go_ret
       exact ⟨_, by first | rfl | (simp [errW_none, errW_some] <;> rfl) | (simp [*, errW_none, errW_some] <;> rfl), by qR_; exact HO230.out, by qb1_ GE227⟩
end Go.Proofs.YtbcleckapamicaaDoor.QFr
