/- A part of the proof of the law HeaderJoins: QHex4. -/
import Derived.Test.YtpihkmpcnkhnfaaDoorZHj03
import Derived.Test.YtpihkmpcnkhnfaaDoorZHj02
namespace Go.Proofs.YtpihkmpcnkhnfaaDoor.QHe
open Go.RowKit Go.Proofs.YtpihkmpcnkhnfaaDoorW.PrintWords Go.Proofs.YtpihkmpcnkhnfaaDoorW.PrintLast Go.Proofs.YtpihkmpcnkhnfaaDoorW.PrintMore
attribute [local go_sem] max2_int min2_int max_two min_two max_three min_three max_four min_four
set_option linter.unusedVariables false
set_option linter.unusedSimpArgs false
set_option hygiene false
local macro "oh70_" : term => `(.cells #[.int .i64 a0_0, .int .i64 a0_1, .slice A0_2 l0_2.length c0_2, .slice A0_3 l0_3.length c0_3, .slice A0_4 l0_4.length c0_4, .int .i64 a0_5, .int .i64 a0_6, .int .i64 a0_7] 28 (0, 0))
local macro "oh71_" : term => `(.cells #[.int .i64 0, .int .i64 0, .slice none 0 0, .slice none 0 0, .slice none 0 0, .int .i64 0, .int .i64 0, .int .i64 0] 33 (0, 0))
local macro "ph70_" : term => `((by first | (simp only [putAll, Act.put, List.setIfInBounds_toArray, List.set_cons_zero, List.set_cons_succ]; done) | (simp only [putAll, Act.put, List.setIfInBounds_toArray, List.set_cons_zero, List.set_cons_succ]; rfl)))
local macro "ph71_" : term => `((if y186.length + l0_2.length < 140737488355328 then ((some (([] : List Int) : List Int)).bind fun y192 => (if y192.length + l0_3.length < 140737488355328 then ((some (([] : List Int) : List Int)).bind fun y198 => (if y198.length + l0_4.length < 140737488355328 then (some (a0_0, a0_1, (y186 ++ l0_2), (y192 ++ l0_3), (y198 ++ l0_4), a0_5, a0_6, a0_7)) else (none))) else (none))) else (none)))
local macro "ph72_" : term => `((by qR_; exact Kd.R_mono HO200.out (fun _ hk => hk.2)))
local macro "ph73_" : term => `((by qR_; exact Kd.R_mono HO194.out (fun _ hk => hk.2)))
local macro "lh70_" : tactic => `(tactic| (rintro w' ⟨s0, s1, s2, s3, s4, s5, s6, s7⟩))
local macro "lh71_" : tactic => `(tactic| (refine Kd.R_lit_step (Kd.int .u8) _ 5 ?hg (N := 7) ?hd (xs := ([] : List Int)) (inner := []) (ok := fun _ => True) (okp := fun _ => True) ?hr ?hp (fun _ hk => hk) trivial (Below.refl _ _) (Nat.le_refl _) (by simp) ?_; (case hd => rfl); (case hg => rfl); (case hr => first | (go_simp; done) | (go_simp; rfl)); (case hp => exact (Reps.none _ _))))
local macro "lh72_" : tactic => `(tactic| (have n1_ := Aside0.mk (blk_below (g := gb184) (o := (oh70_)) (by qk_; exact BK184.out) hb)))
local macro "lh73_" : tactic => `(tactic| (have n2_ := Aside0.mk (blk_below (g := gb185) (o := (oh71_)) (by qk_; exact BK185.out) hb)))
local macro "lh74_" : tactic => `(tactic| (refine hK.out _ _ ⟨(blk_cell BK184.out 0).trans rfl, (blk_cell BK184.out 1).trans rfl, (blk_cell BK184.out 2).trans rfl, (blk_cell BK184.out 3).trans rfl, (blk_cell BK184.out 4).trans rfl, (blk_cell BK184.out 5).trans rfl, (blk_cell BK184.out 6).trans rfl, (blk_cell BK184.out 7).trans rfl⟩ (fun hHeld => ?_)))
local macro "lh75_" : tactic => `(tactic| (refine Kd.R_lit_step (Kd.int .u8) _ 5 ?hg (N := 11) ?hd (xs := ([] : List Int)) (inner := []) (ok := fun _ => True) (okp := fun _ => True) ?hr ?hp (fun _ hk => hk) trivial (Below.refl _ _) (Nat.le_refl _) (by simp) ?_; (case hd => rfl); (case hg => rfl); (case hr => first | (go_simp; done) | (go_simp; rfl)); (case hp => exact (Reps.none _ _))))
local macro "lh76_" : tactic => `(tactic| (refine Kd.R_lit_step (Kd.int .u8) _ 5 ?hg (N := 15) ?hd (xs := ([] : List Int)) (inner := []) (ok := fun _ => True) (okp := fun _ => True) ?hr ?hp (fun _ hk => hk) trivial (Below.refl _ _) (Nat.le_refl _) (by simp) ?_; (case hd => rfl); (case hg => rfl); (case hr => first | (go_simp; done) | (go_simp; rfl)); (case hp => exact (Reps.none _ _))))
local macro "lh77_" : tactic => `(tactic| (have hHeld : w10.cell? ⟨gb184, 0, none⟩ = some (.int .i64 a0_0) ∧ w10.cell? ⟨gb184, 1, none⟩ = some (.int .i64 a0_1) ∧ w10.cell? ⟨gb184, 2, none⟩ = some (.slice A0_2 l0_2.length c0_2) ∧ w10.cell? ⟨gb184, 3, none⟩ = some (.slice A0_3 l0_3.length c0_3) ∧ w10.cell? ⟨gb184, 4, none⟩ = some (.slice A0_4 l0_4.length c0_4) ∧ w10.cell? ⟨gb184, 5, none⟩ = some (.int .i64 a0_5) ∧ w10.cell? ⟨gb184, 6, none⟩ = some (.int .i64 a0_6) ∧ w10.cell? ⟨gb184, 7, none⟩ = some (.int .i64 a0_7) := hS_))
local macro "lh78_" : tactic => `(tactic| (simp only [putAll, Act.put, List.setIfInBounds_toArray, List.set_cons_zero, List.set_cons_succ]))
local macro "lh79_" : tactic => `(tactic| (have n2_ := Aside0.mk (blk_below (g := gb184) (o := (oh70_)) (by qk_; exact BK184.out) hb)))
local macro "lh710_" : tactic => `(tactic| (have n3_ := Aside0.mk (blk_below (g := gb185) (o := (oh71_)) (by qk_; exact BK185.out) hb)))
local macro "lh711_" : tactic => `(tactic| (have n4_ := Aside0.mk (below_step (by qb2_ GE184 GE185) hb)))
local macro "lh712_" : tactic => `(tactic| (exact norm_ (ph70_) (hJ4_12 (v187, v199) _ ⟨hHeld, (by qR_; exact Kd.R_mono HO188.out (fun _ hk => hk.2)), (ph72_), (by qk_; exact BK184.out), (by qk_; exact BK185.out), (by qb2_ GE184 GE185)⟩)))
local macro "lh713_" : tactic => `(tactic| (exact norm_ (ph70_) (hJ8_12 (v193, v199) _ ⟨hHeld, (ph73_), (ph72_), (by qk_; exact BK184.out), (by qk_; exact BK185.out), (by qb2_ GE184 GE185)⟩)))
local macro "lh714_" : tactic => `(tactic| (exact norm_ (ph70_) (hJ4_8 (v187, v193) _ ⟨hHeld, (by qR_; exact Kd.R_mono HO188.out (fun _ hk => hk.2)), (ph73_), (by qk_; exact BK184.out), (by qk_; exact BK185.out), (by qb2_ GE184 GE185)⟩)))
local macro "lh715_" : tactic => `(tactic| ((case aR => repeat (first | exact (Kd.C_below HR0_2.out HB.out) | exact HR0_2.out | (with_reducible refine Kd.C_alloc ?_ _) | (with_reducible refine Kd.C_drewN ?_ _) | (with_reducible refine Kd.C_drew ?_)))))
local macro "lh716_" : tactic => `(tactic| ((case aB => exact (by qb2_ GE184 GE185))))
local macro "lh717_" : tactic => `(tactic| ((case aS => exact (below_size (by qb2_ GE184 GE185)))))
local macro "lh718_" : tactic => `(tactic| (have n0_ := Aside0.mk (blk_grown (g := gb184) (o := (oh70_)) (by qk_; exact BK184.out) hg (Kd.R_ne HO188.out BK184.out (by decide)))))
local macro "lh719_" : tactic => `(tactic| (have n1_ := Aside0.mk (blk_grown (g := gb185) (o := (oh71_)) (by qk_; exact BK185.out) hg (Kd.R_ne HO188.out BK185.out (by decide)))))
local macro "lh720_" : tactic => `(tactic| (have hHeld : w12.cell? ⟨gb184, 0, none⟩ = some (.int .i64 a0_0) ∧ w12.cell? ⟨gb184, 1, none⟩ = some (.int .i64 a0_1) ∧ w12.cell? ⟨gb184, 2, none⟩ = some (.slice A0_2 l0_2.length c0_2) ∧ w12.cell? ⟨gb184, 3, none⟩ = some (.slice A0_3 l0_3.length c0_3) ∧ w12.cell? ⟨gb184, 4, none⟩ = some (.slice A0_4 l0_4.length c0_4) ∧ w12.cell? ⟨gb184, 5, none⟩ = some (.int .i64 a0_5) ∧ w12.cell? ⟨gb184, 6, none⟩ = some (.int .i64 a0_6) ∧ w12.cell? ⟨gb184, 7, none⟩ = some (.int .i64 a0_7) := hS_))
local macro "lh721_" : tactic => `(tactic| (have n3_ := Aside0.mk (blk_below (g := gb184) (o := (oh70_)) (by qk_; exact BK184.out) hb)))
local macro "lh722_" : tactic => `(tactic| (have n4_ := Aside0.mk (blk_below (g := gb185) (o := (oh71_)) (by qk_; exact BK185.out) hb)))
local macro "lh723_" : tactic => `(tactic| (have n5_ := Aside0.mk (below_step (by qb2_ GE184 GE185) hb)))
local macro "lh724_" : tactic => `(tactic| (have hHeld : w14.cell? ⟨gb184, 0, none⟩ = some (.int .i64 a0_0) ∧ w14.cell? ⟨gb184, 1, none⟩ = some (.int .i64 a0_1) ∧ w14.cell? ⟨gb184, 2, none⟩ = some (.slice A0_2 l0_2.length c0_2) ∧ w14.cell? ⟨gb184, 3, none⟩ = some (.slice A0_3 l0_3.length c0_3) ∧ w14.cell? ⟨gb184, 4, none⟩ = some (.slice A0_4 l0_4.length c0_4) ∧ w14.cell? ⟨gb184, 5, none⟩ = some (.int .i64 a0_5) ∧ w14.cell? ⟨gb184, 6, none⟩ = some (.int .i64 a0_6) ∧ w14.cell? ⟨gb184, 7, none⟩ = some (.int .i64 a0_7) := hS_))
local macro "lh725_" : tactic => `(tactic| (have hHeld : w13.cell? ⟨gb184, 0, none⟩ = some (.int .i64 a0_0) ∧ w13.cell? ⟨gb184, 1, none⟩ = some (.int .i64 a0_1) ∧ w13.cell? ⟨gb184, 2, none⟩ = some (.slice A0_2 l0_2.length c0_2) ∧ w13.cell? ⟨gb184, 3, none⟩ = some (.slice A0_3 l0_3.length c0_3) ∧ w13.cell? ⟨gb184, 4, none⟩ = some (.slice A0_4 l0_4.length c0_4) ∧ w13.cell? ⟨gb184, 5, none⟩ = some (.int .i64 a0_5) ∧ w13.cell? ⟨gb184, 6, none⟩ = some (.int .i64 a0_6) ∧ w13.cell? ⟨gb184, 7, none⟩ = some (.int .i64 a0_7) := hS_))
local macro "lh726_" : tactic => `(tactic| ((case aR => repeat (first | exact (Kd.C_below HR0_3.out HB.out) | exact HR0_3.out | (with_reducible refine Kd.C_alloc ?_ _) | (with_reducible refine Kd.C_drewN ?_ _) | (with_reducible refine Kd.C_drew ?_)))))
set_option hygiene true
def shibbolethlaw05_of.f (a0_0 : Int) (a0_1 : Int) (l0_2 : List Int) (l0_3 : List Int) (l0_4 : List Int) (a0_5 : Int) (a0_6 : Int) (a0_7 : Int) : Option (Int × Int × List Int × List Int × List Int × Int × Int × Int) := (some (([] : List Int) : List Int)).bind fun y186 => (ph71_)
def shibbolethlaw05_of.T1 : Bool × List (List Nat × List Nat) := (true, [([], []), ([0], [0]), ([], []), ([2], [2]), ([], []), ([], []), ([5], [5]), ([4, 6], [4, 6]), ([], []), ([], []), ([9], [9]), ([8, 10, 7], [8, 10]), ([], []), ([], []), ([13], [13]), ([12, 14, 11], [12, 14]), ([], []), ([16], [16]), ([], []), ([18], [18]), ([], []), ([20], [20]), ([1, 3, 7, 11, 15, 17, 19, 21], [1, 3, 7, 11, 15, 17, 19, 21]), ([22, 15, 0, 1, 2, 3, 4, 5, 6, 7, 8, 9, 10, 11, 12, 13, 14, 15, 16, 17, 18, 19, 20, 21, 22], [22])])
def shibbolethlaw05_of.B1 : List Nat := [0, 1, 0, 4, 0, 0, 32, 112, 0, 0, 512, 2032, 0, 0, 8192, 32752, 0, 65536, 0, 262144, 0, 1048576, 4194303, 8388607]
theorem shibbolethlaw05_of.tab1 : rtab .any (opsOf Tryd.f12 1) = shibbolethlaw05_of.T1 := by kernel_rfl
theorem shibbolethlaw05_of.bits1 : waitsOk shibbolethlaw05_of.T1.2 shibbolethlaw05_of.B1 = true := by kernel_rfl
set_option maxHeartbeats 8000000 in
set_option maxRecDepth 100000 in
theorem shibbolethlaw05_of.calls (a0_0 : Int) (a0_1 : Int) (A0_2 : Option Addr) (c0_2 : Nat) (l0_2 : List Int) (A0_3 : Option Addr) (c0_3 : Nat) (l0_3 : List Int) (A0_4 : Option Addr) (c0_4 : Nat) (l0_4 : List Int) (a0_5 : Int) (a0_6 : Int) (a0_7 : Int) (r1 : Int) (r2 : Int) (r3 : List Int) (r4 : List Int) (r5 : List Int) (r6 : Int) (r7 : Int) (r8 : Int) (w : World) (hr0_2 : Kd.C (Kd.int .u8) w A0_2 l0_2.length l0_2) (hc0_2 : l0_2.length ≤ c0_2) (hr0_3 : Kd.C (Kd.int .u8) w A0_3 l0_3.length l0_3) (hc0_3 : l0_3.length ≤ c0_3) (hr0_4 : Kd.C (Kd.int .u8) w A0_4 l0_4.length l0_4) (hc0_4 : l0_4.length ≤ c0_4) (h : shibbolethlaw05_of.f a0_0 a0_1 l0_2 l0_3 l0_4 a0_5 a0_6 a0_7 = some (r1, r2, r3, r4, r5, r6, r7, r8)) :
  Calls Tryd.prog 12 #[.agg #[.int .i64 a0_0, .int .i64 a0_1, .slice A0_2 l0_2.length c0_2, .slice A0_3 l0_3.length c0_3, .slice A0_4 l0_4.length c0_4, .int .i64 a0_5, .int .i64 a0_6, .int .i64 a0_7]] w fun e w' => ∃ v2_ v3_ v4_ : Value, e = .returned (.agg #[.int .i64 r1, .int .i64 r2, v2_, v3_, v4_, .int .i64 r6, .int .i64 r7, .int .i64 r8]) ∧ Kd.R (Kd.int .u8) 5 w' w.heap.size (fun k_ => some k_ ≠ (v3_ : Value).ownBlock ∧ some k_ ≠ (v4_ : Value).ownBlock) v2_ r3 ∧ Kd.R (Kd.int .u8) 5 w' w.heap.size (fun k_ => some k_ ≠ (v2_ : Value).ownBlock ∧ some k_ ≠ (v4_ : Value).ownBlock) v3_ r4 ∧ Kd.R (Kd.int .u8) 5 w' w.heap.size (fun k_ => some k_ ≠ (v2_ : Value).ownBlock ∧ some k_ ≠ (v3_ : Value).ownBlock) v4_ r5 ∧ Below w.heap.size w w' := by
 have hu28 := Tryd.underlying28
 have hu33 := Tryd.underlying33
 have HR0_2 := Aside0.mk hr0_2
 have HC0_2 := Aside0.mk hc0_2
 clear hr0_2 hc0_2
 have HR0_3 := Aside0.mk hr0_3
 have HC0_3 := Aside0.mk hc0_3
 clear hr0_3 hc0_3
 have HR0_4 := Aside0.mk hr0_4
 have HC0_4 := Aside0.mk hc0_4
 clear hr0_4 hc0_4
 have HB := Aside0.mk (Below.refl w.heap.size w)
 have H : ((some (([] : List Int) : List Int)).bind fun y186 => (ph71_)) = some (r1, r2, r3, r4, r5, r6, r7, r8) := h
 clear h
 obtain ⟨y186, hy186⟩ : ∃ y_ : List Int, y_ = (([] : List Int)) := ⟨_, rfl⟩
 replace H : (ph71_) = some (r1, r2, r3, r4, r5, r6, r7, r8) := by first | (rw [hy186]; with_reducible exact H) | (have H2_ := (Option.bind_some _ _).symm.trans H; rw [hy186]; with_reducible exact H2_) | (have H2_ := (Option.bind_some _ _).symm.trans H; with_reducible exact H2_) | with_reducible exact H | (rw [hy186]; exact H) | exact H
 have Ny186 := Aside0.mk hy186
 clear hy186
 by_cases c2 : y186.length + l0_2.length < 140737488355328
 ·rw [if_pos c2] at H
  have LMc2 := Aside0.mk c2
  clear c2
  obtain ⟨y189, hy189⟩ : ∃ y_ : List Int, y_ = (y186 ++ l0_2) := ⟨_, rfl⟩
  replace H : ((some (([] : List Int) : List Int)).bind fun y192 => (if y192.length + l0_3.length < 140737488355328 then ((some (([] : List Int) : List Int)).bind fun y198 => (if y198.length + l0_4.length < 140737488355328 then (some (a0_0, a0_1, y189, (y192 ++ l0_3), (y198 ++ l0_4), a0_5, a0_6, a0_7)) else (none))) else (none))) = some (r1, r2, r3, r4, r5, r6, r7, r8) := by first | (rw [hy189]; with_reducible exact H) | (have H2_ := (Option.bind_some _ _).symm.trans H; rw [hy189]; with_reducible exact H2_) | (have H2_ := (Option.bind_some _ _).symm.trans H; with_reducible exact H2_) | with_reducible exact H | (rw [hy189]; exact H) | exact H
  have Ny189 := Aside0.mk hy189
  clear hy189
  obtain ⟨y192, hy192⟩ : ∃ y_ : List Int, y_ = (([] : List Int)) := ⟨_, rfl⟩
  replace H : (if y192.length + l0_3.length < 140737488355328 then ((some (([] : List Int) : List Int)).bind fun y198 => (if y198.length + l0_4.length < 140737488355328 then (some (a0_0, a0_1, y189, (y192 ++ l0_3), (y198 ++ l0_4), a0_5, a0_6, a0_7)) else (none))) else (none)) = some (r1, r2, r3, r4, r5, r6, r7, r8) := by first | (rw [hy192]; with_reducible exact H) | (have H2_ := (Option.bind_some _ _).symm.trans H; rw [hy192]; with_reducible exact H2_) | (have H2_ := (Option.bind_some _ _).symm.trans H; with_reducible exact H2_) | with_reducible exact H | (rw [hy192]; exact H) | exact H
  have Ny192 := Aside0.mk hy192
  clear hy192
  by_cases c3 : y192.length + l0_3.length < 140737488355328
  ·rw [if_pos c3] at H
   have LMc3 := Aside0.mk c3
   clear c3
   obtain ⟨y195, hy195⟩ : ∃ y_ : List Int, y_ = (y192 ++ l0_3) := ⟨_, rfl⟩
   replace H : ((some (([] : List Int) : List Int)).bind fun y198 => (if y198.length + l0_4.length < 140737488355328 then (some (a0_0, a0_1, y189, y195, (y198 ++ l0_4), a0_5, a0_6, a0_7)) else (none))) = some (r1, r2, r3, r4, r5, r6, r7, r8) := by first | (rw [hy195]; with_reducible exact H) | (have H2_ := (Option.bind_some _ _).symm.trans H; rw [hy195]; with_reducible exact H2_) | (have H2_ := (Option.bind_some _ _).symm.trans H; with_reducible exact H2_) | with_reducible exact H | (rw [hy195]; exact H) | exact H
   have Ny195 := Aside0.mk hy195
   clear hy195
   obtain ⟨y198, hy198⟩ : ∃ y_ : List Int, y_ = (([] : List Int)) := ⟨_, rfl⟩
   replace H : (if y198.length + l0_4.length < 140737488355328 then (some (a0_0, a0_1, y189, y195, (y198 ++ l0_4), a0_5, a0_6, a0_7)) else (none)) = some (r1, r2, r3, r4, r5, r6, r7, r8) := by first | (rw [hy198]; with_reducible exact H) | (have H2_ := (Option.bind_some _ _).symm.trans H; rw [hy198]; with_reducible exact H2_) | (have H2_ := (Option.bind_some _ _).symm.trans H; with_reducible exact H2_) | with_reducible exact H | (rw [hy198]; exact H) | exact H
   have Ny198 := Aside0.mk hy198
   clear hy198
   by_cases c4 : y198.length + l0_4.length < 140737488355328
   ·rw [if_pos c4] at H
    have LMc4 := Aside0.mk c4
    clear c4
    obtain ⟨y201, hy201⟩ : ∃ y_ : List Int, y_ = (y198 ++ l0_4) := ⟨_, rfl⟩
    replace H : (some (a0_0, a0_1, y189, y195, y201, a0_5, a0_6, a0_7)) = some (r1, r2, r3, r4, r5, r6, r7, r8) := by first | (rw [hy201]; with_reducible exact H) | (have H2_ := (Option.bind_some _ _).symm.trans H; rw [hy201]; with_reducible exact H2_) | (have H2_ := (Option.bind_some _ _).symm.trans H; with_reducible exact H2_) | with_reducible exact H | (rw [hy201]; exact H) | exact H
    have Ny201 := Aside0.mk hy201
    clear hy201
    simp only [Option.some.injEq, Prod.mk.injEq] at H
    obtain ⟨rfl, rfl, rfl, rfl, rfl, rfl, rfl, rfl⟩ := H
    go_enter Tryd.func12, Tryd.ntmps12
    try go_wp2_with (first | ((with_reducible refine gate_dst (N := 1) rfl ?_); refine box_event ?hg (N := 1) ?hd (cs := #[.int .i64 a0_0, .int .i64 a0_1, .slice A0_2 l0_2.length c0_2, .slice A0_3 l0_3.length c0_3, .slice A0_4 l0_4.length c0_4, .int .i64 a0_5, .int .i64 a0_6, .int .i64 a0_7]) (t := 28) ?hr ?_; (case hd => rfl); (case hg => rfl); (case hr => first | (go_simp; done) | (go_simp; rfl)); intro gb184 hg w5 hbox hb; have n0_ := Aside0.mk (below_step (by qc0_) hb); have n1_ := Aside0.mk (hbox); have n2_ := Aside0.mk ((by rw [hg]; exact (below_size (by qc0_)) : w.heap.size ≤ gb184)); have n3_ := Aside0.mk ((by rw [hg]; exact (below_size (by qc0_)) : w.heap.size ≤ gb184)); clear HB; have HB := n0_; have BK184 := n1_; have GW184 := n2_; have GE184 := n3_; clear n0_ n1_ n2_ n3_; clear hb hbox hg) | ((with_reducible refine gate_dst (N := 2) rfl ?_); refine box_event ?hg (N := 2) ?hd (cs := #[.int .i64 0, .int .i64 0, .slice none 0 0, .slice none 0 0, .slice none 0 0, .int .i64 0, .int .i64 0, .int .i64 0]) (t := 33) ?hr ?_; (case hd => rfl); (case hg => rfl); (case hr => first | (go_simp; done) | (go_simp; rfl)); intro gb185 hg w6 hbox hb; have n0_ := Aside0.mk (blk_below (g := gb184) (o := (oh70_)) (by qk_; exact BK184.out) hb); have n1_ := Aside0.mk (below_step (by qb1_ GE184) hb); have n2_ := Aside0.mk (hbox); have n3_ := Aside0.mk ((by rw [hg]; exact (below_size (by qb1_ GE184)) : w.heap.size ≤ gb185)); have n4_ := Aside0.mk ((by rw [hg]; exact (below_size (by qb1_ GE184)) : w.heap.size ≤ gb185)); have n5_ := Aside0.mk ((by rw [hg]; exact Nat.ne_of_lt (blk_lt (g := gb184) (o := (oh70_)) (by qk_; exact BK184.out)) : gb184 ≠ gb185)); have n6_ := Aside0.mk ((by rw [hg]; exact Nat.ne_of_gt (blk_lt (g := gb184) (o := (oh70_)) (by qk_; exact BK184.out)) : gb185 ≠ gb184)); clear BK184; clear HB; have BK184 := n0_; have HB := n1_; have BK185 := n2_; have GW185 := n3_; have GE185 := n4_; have NB184_185 := n5_; have NB185_184 := n6_; clear n0_ n1_ n2_ n3_ n4_ n5_ n6_; clear hb hbox hg))
    have n0_ := Aside0.mk (blk_drew BK184.out)
    have n1_ := Aside0.mk (blk_drew BK185.out)
    have n2_ := Aside0.mk (below_drew1 HB.out)
    clear BK184
    clear BK185
    clear HB
    have BK184 := n0_
    have BK185 := n1_
    have HB := n2_
    clear n0_ n1_ n2_
    refine start_ (n := 24) (S := fun w' => w'.cell? ⟨gb184, 0, none⟩ = some (.int .i64 a0_0) ∧ w'.cell? ⟨gb184, 1, none⟩ = some (.int .i64 a0_1) ∧ w'.cell? ⟨gb184, 2, none⟩ = some (.slice A0_2 l0_2.length c0_2) ∧ w'.cell? ⟨gb184, 3, none⟩ = some (.slice A0_3 l0_3.length c0_3) ∧ w'.cell? ⟨gb184, 4, none⟩ = some (.slice A0_4 l0_4.length c0_4) ∧ w'.cell? ⟨gb184, 5, none⟩ = some (.int .i64 a0_5) ∧ w'.cell? ⟨gb184, 6, none⟩ = some (.int .i64 a0_6) ∧ w'.cell? ⟨gb184, 7, none⟩ = some (.int .i64 a0_7)) (ds := []) #[false, false, false, false, false, false, false, false, false, false, false, false, false, false, false, false, false, false, false, false, false, false, false, false] (by kernel_rfl) rfl rfl ⟨(blk_cell BK184.out 0).trans rfl, (blk_cell BK184.out 1).trans rfl, (blk_cell BK184.out 2).trans rfl, (blk_cell BK184.out 3).trans rfl, (blk_cell BK184.out 4).trans rfl, (blk_cell BK184.out 5).trans rfl, (blk_cell BK184.out 6).trans rfl, (blk_cell BK184.out 7).trans rfl⟩ (fun hHeld => ?_); refine with_tabW shibbolethlaw05_of.tab1 shibbolethlaw05_of.bits1 (fun HT_ HW_ => ?_)
    generalize w6.drew = w7 at BK184 BK185 HB hHeld ⊢
    refine pure_ (i := 0) (N := some 3) (v := ?_) (a' := ?_) #[true, false, false, false, false, false, false, false, false, false, false, false, false, false, false, false, false, false, false, false, false, false, false, false] rfl rfl (any_of HT_.out (by kernel_rfl)) (fun _ _ _ h => h) (Or.inl ⟨by rfl, ?_⟩) ?_ ?_
    rotate_left
    ·intro w'
     go_simp
     with_reducible rfl
    rotate_left
    ·qp_
     rfl
    refine pure_ (i := 2) (N := some 5) (v := ?_) (a' := ?_) #[true, false, true, false, false, false, false, false, false, false, false, false, false, false, false, false, false, false, false, false, false, false, false, false] rfl rfl (any_of HT_.out (by kernel_rfl)) (fun _ _ _ h => h) (Or.inl ⟨by rfl, ?_⟩) ?_ ?_
    rotate_left
    ·intro w'
     go_simp
     with_reducible rfl
    rotate_left
    ·qp_
     rfl
    refine pure_ (i := 5) (N := some 8) (v := ?_) (a' := ?_) #[true, false, true, false, false, true, false, false, false, false, false, false, false, false, false, false, false, false, false, false, false, false, false, false] rfl rfl (any_of HT_.out (by kernel_rfl)) (fun _ _ _ h => h) (Or.inl ⟨by rfl, ?_⟩) ?_ ?_
    rotate_left
    ·intro w'
     go_simp
     with_reducible rfl
    rotate_left
    ·qp_
     rfl
    refine pure_ (i := 9) (N := some 12) (v := ?_) (a' := ?_) #[true, false, true, false, false, true, false, false, false, true, false, false, false, false, false, false, false, false, false, false, false, false, false, false] rfl rfl (any_of HT_.out (by kernel_rfl)) (fun _ _ _ h => h) (Or.inl ⟨by rfl, ?_⟩) ?_ ?_
    rotate_left
    ·intro w'
     go_simp
     with_reducible rfl
    rotate_left
    ·qp_
     rfl
    refine pure_ (i := 13) (N := some 16) (v := ?_) (a' := ?_) #[true, false, true, false, false, true, false, false, false, true, false, false, false, true, false, false, false, false, false, false, false, false, false, false] rfl rfl (any_of HT_.out (by kernel_rfl)) (fun _ _ _ h => h) (Or.inl ⟨by rfl, ?_⟩) ?_ ?_
    rotate_left
    ·intro w'
     go_simp
     with_reducible rfl
    rotate_left
    ·qp_
     rfl
    refine pure_ (i := 16) (N := some 19) (v := ?_) (a' := ?_) #[true, false, true, false, false, true, false, false, false, true, false, false, false, true, false, false, true, false, false, false, false, false, false, false] rfl rfl (any_of HT_.out (by kernel_rfl)) (fun _ _ _ h => h) (Or.inl ⟨by rfl, ?_⟩) ?_ ?_
    rotate_left
    ·intro w'
     go_simp
     with_reducible rfl
    rotate_left
    ·qp_
     rfl
    refine pure_ (i := 18) (N := some 21) (v := ?_) (a' := ?_) #[true, false, true, false, false, true, false, false, false, true, false, false, false, true, false, false, true, false, true, false, false, false, false, false] rfl rfl (any_of HT_.out (by kernel_rfl)) (fun _ _ _ h => h) (Or.inl ⟨by rfl, ?_⟩) ?_ ?_
    rotate_left
    ·intro w'
     go_simp
     with_reducible rfl
    rotate_left
    ·qp_
     rfl
    refine pure_ (i := 20) (N := some 23) (v := ?_) (a' := ?_) #[true, false, true, false, false, true, false, false, false, true, false, false, false, true, false, false, true, false, true, false, true, false, false, false] rfl rfl (any_of HT_.out (by kernel_rfl)) (fun _ _ _ h => h) (Or.inl ⟨by rfl, ?_⟩) ?_ ?_
    rotate_left
    ·intro w'
     go_simp
     with_reducible rfl
    rotate_left
    ·qp_
     rfl
    refine take_ (i := 1) (N := some 4) (v := ?_) (a' := ?_) #[true, true, true, false, false, true, false, false, false, true, false, false, false, true, false, false, true, false, true, false, true, false, false, false] rfl rfl (take_ofW HT_.out HW_.out (by kernel_rfl)) (fun _ _ _ h => h) (Or.inl ⟨by rfl, ?_⟩) hHeld ?_ ?_
    rotate_left
    ·lh70_
     go_simp
     with_reducible rfl
    rotate_left
    ·qp_
     rfl
    refine take_ (i := 3) (N := some 6) (v := ?_) (a' := ?_) #[true, true, true, true, false, true, false, false, false, true, false, false, false, true, false, false, true, false, true, false, true, false, false, false] rfl rfl (take_ofW HT_.out HW_.out (by kernel_rfl)) (fun _ _ _ h => h) (Or.inl ⟨by rfl, ?_⟩) hHeld ?_ ?_
    rotate_left
    ·lh70_
     go_simp
     with_reducible rfl
    rotate_left
    ·qp_
     rfl
    refine take_ (i := 6) (N := some 9) (v := ?_) (a' := ?_) #[true, true, true, true, false, true, true, false, false, true, false, false, false, true, false, false, true, false, true, false, true, false, false, false] rfl rfl (take_ofW HT_.out HW_.out (by kernel_rfl)) (fun _ _ _ h => h) (Or.inl ⟨by rfl, ?_⟩) hHeld ?_ ?_
    rotate_left
    ·lh70_
     go_simp
     with_reducible rfl
    rotate_left
    ·qp_
     rfl
    refine take_ (i := 10) (N := some 13) (v := ?_) (a' := ?_) #[true, true, true, true, false, true, true, false, false, true, true, false, false, true, false, false, true, false, true, false, true, false, false, false] rfl rfl (take_ofW HT_.out HW_.out (by kernel_rfl)) (fun _ _ _ h => h) (Or.inl ⟨by rfl, ?_⟩) hHeld ?_ ?_
    rotate_left
    ·lh70_
     go_simp
     with_reducible rfl
    rotate_left
    ·qp_
     rfl
    refine take_ (i := 14) (N := some 17) (v := ?_) (a' := ?_) #[true, true, true, true, false, true, true, false, false, true, true, false, false, true, true, false, true, false, true, false, true, false, false, false] rfl rfl (take_ofW HT_.out HW_.out (by kernel_rfl)) (fun _ _ _ h => h) (Or.inl ⟨by rfl, ?_⟩) hHeld ?_ ?_
    rotate_left
    ·lh70_
     go_simp
     with_reducible rfl
    rotate_left
    ·qp_
     rfl
    refine take_ (i := 17) (N := some 20) (v := ?_) (a' := ?_) #[true, true, true, true, false, true, true, false, false, true, true, false, false, true, true, false, true, true, true, false, true, false, false, false] rfl rfl (take_ofW HT_.out HW_.out (by kernel_rfl)) (fun _ _ _ h => h) (Or.inl ⟨by rfl, ?_⟩) hHeld ?_ ?_
    rotate_left
    ·lh70_
     go_simp
     with_reducible rfl
    rotate_left
    ·qp_
     rfl
    refine take_ (i := 19) (N := some 22) (v := ?_) (a' := ?_) #[true, true, true, true, false, true, true, false, false, true, true, false, false, true, true, false, true, true, true, true, true, false, false, false] rfl rfl (take_ofW HT_.out HW_.out (by kernel_rfl)) (fun _ _ _ h => h) (Or.inl ⟨by rfl, ?_⟩) hHeld ?_ ?_
    rotate_left
    ·lh70_
     go_simp
     with_reducible rfl
    rotate_left
    ·qp_
     rfl
    refine take_ (i := 21) (N := some 24) (v := ?_) (a' := ?_) #[true, true, true, true, false, true, true, false, false, true, true, false, false, true, true, false, true, true, true, true, true, true, false, false] rfl rfl (take_ofW HT_.out HW_.out (by kernel_rfl)) (fun _ _ _ h => h) (Or.inl ⟨by rfl, ?_⟩) hHeld ?_ ?_
    rotate_left
    ·lh70_
     go_simp
     with_reducible rfl
    rotate_left
    ·qp_
     rfl
    refine join_ (σ := Value × Value × Value × Value × Value) 3 #[true, true, true, true, true, true, true, true, true, true, true, true, true, true, true, false, true, true, true, true, true, true, false, false] (fun s_ => [(7, s_.1), (10, s_.2.1), (11, s_.2.2.1), (14, s_.2.2.2.1), (15, s_.2.2.2.2)]) (fun s_ w' => (w'.cell? ⟨gb184, 0, none⟩ = some (.int .i64 a0_0) ∧ w'.cell? ⟨gb184, 1, none⟩ = some (.int .i64 a0_1) ∧ w'.cell? ⟨gb184, 2, none⟩ = some (.slice A0_2 l0_2.length c0_2) ∧ w'.cell? ⟨gb184, 3, none⟩ = some (.slice A0_3 l0_3.length c0_3) ∧ w'.cell? ⟨gb184, 4, none⟩ = some (.slice A0_4 l0_4.length c0_4) ∧ w'.cell? ⟨gb184, 5, none⟩ = some (.int .i64 a0_5) ∧ w'.cell? ⟨gb184, 6, none⟩ = some (.int .i64 a0_6) ∧ w'.cell? ⟨gb184, 7, none⟩ = some (.int .i64 a0_7)) ∧ (Kd.R (Kd.int .u8) 5 w' w.heap.size (fun k_ => some k_ ≠ (s_.2.2.2.1 : Value).ownBlock ∧ some k_ ≠ (s_.2.2.2.2 : Value).ownBlock) s_.2.1 y189) ∧ (Kd.R (Kd.int .u8) 5 w' w.heap.size (fun k_ => some k_ ≠ (s_.2.1 : Value).ownBlock ∧ some k_ ≠ (s_.2.2.2.2 : Value).ownBlock) s_.2.2.2.1 y195) ∧ (Kd.R (Kd.int .u8) 5 w' w.heap.size (fun k_ => some k_ ≠ (s_.2.1 : Value).ownBlock ∧ some k_ ≠ (s_.2.2.2.1 : Value).ownBlock) s_.2.2.2.2 y198) ∧ (w'.heap[gb184]? = some ((oh70_))) ∧ (w'.heap[gb185]? = some ((oh71_))) ∧ (Below w.heap.size w w')) ?_ ?_
    rotate_left
    ·intro hJ4_7_8_11_12
     refine join_ (σ := Value × Value × Value × Value) 4 #[true, true, true, true, true, true, true, true, true, true, true, true, false, true, true, false, true, true, true, true, true, true, false, false] (fun s_ => [(7, s_.1), (10, s_.2.1), (11, s_.2.2.1), (14, s_.2.2.2)]) (fun s_ w' => (w'.cell? ⟨gb184, 0, none⟩ = some (.int .i64 a0_0) ∧ w'.cell? ⟨gb184, 1, none⟩ = some (.int .i64 a0_1) ∧ w'.cell? ⟨gb184, 2, none⟩ = some (.slice A0_2 l0_2.length c0_2) ∧ w'.cell? ⟨gb184, 3, none⟩ = some (.slice A0_3 l0_3.length c0_3) ∧ w'.cell? ⟨gb184, 4, none⟩ = some (.slice A0_4 l0_4.length c0_4) ∧ w'.cell? ⟨gb184, 5, none⟩ = some (.int .i64 a0_5) ∧ w'.cell? ⟨gb184, 6, none⟩ = some (.int .i64 a0_6) ∧ w'.cell? ⟨gb184, 7, none⟩ = some (.int .i64 a0_7)) ∧ (Kd.R (Kd.int .u8) 5 w' w.heap.size (fun k_ => some k_ ≠ (s_.2.2.2 : Value).ownBlock) s_.2.1 y189) ∧ (Kd.R (Kd.int .u8) 5 w' w.heap.size (fun k_ => some k_ ≠ (s_.2.1 : Value).ownBlock) s_.2.2.2 y195) ∧ (w'.heap[gb184]? = some ((oh70_))) ∧ (w'.heap[gb185]? = some ((oh71_))) ∧ (Below w.heap.size w w')) ?_ ?_
     rotate_left
     ·intro hJ4_7_8_11
      refine join_ (σ := Value × Value × Value × Value) 4 #[true, true, true, true, true, true, true, true, true, true, true, false, true, true, true, false, true, true, true, true, true, true, false, false] (fun s_ => [(7, s_.1), (10, s_.2.1), (11, s_.2.2.1), (15, s_.2.2.2)]) (fun s_ w' => (w'.cell? ⟨gb184, 0, none⟩ = some (.int .i64 a0_0) ∧ w'.cell? ⟨gb184, 1, none⟩ = some (.int .i64 a0_1) ∧ w'.cell? ⟨gb184, 2, none⟩ = some (.slice A0_2 l0_2.length c0_2) ∧ w'.cell? ⟨gb184, 3, none⟩ = some (.slice A0_3 l0_3.length c0_3) ∧ w'.cell? ⟨gb184, 4, none⟩ = some (.slice A0_4 l0_4.length c0_4) ∧ w'.cell? ⟨gb184, 5, none⟩ = some (.int .i64 a0_5) ∧ w'.cell? ⟨gb184, 6, none⟩ = some (.int .i64 a0_6) ∧ w'.cell? ⟨gb184, 7, none⟩ = some (.int .i64 a0_7)) ∧ (Kd.R (Kd.int .u8) 5 w' w.heap.size (fun k_ => some k_ ≠ (s_.2.2.1 : Value).ownBlock ∧ some k_ ≠ (s_.2.2.2 : Value).ownBlock) s_.2.1 y189) ∧ (Kd.R (Kd.int .u8) 5 w' w.heap.size (fun k_ => some k_ ≠ (s_.2.1 : Value).ownBlock ∧ some k_ ≠ (s_.2.2.2 : Value).ownBlock) s_.2.2.1 y192) ∧ (Kd.R (Kd.int .u8) 5 w' w.heap.size (fun k_ => some k_ ≠ (s_.2.1 : Value).ownBlock ∧ some k_ ≠ (s_.2.2.1 : Value).ownBlock) s_.2.2.2 y198) ∧ (w'.heap[gb184]? = some ((oh70_))) ∧ (w'.heap[gb185]? = some ((oh71_))) ∧ (Below w.heap.size w w')) ?_ ?_
      rotate_left
      ·intro hJ4_7_8_12
       refine join_ (σ := Value × Value × Value) 5 #[true, true, true, true, true, true, true, true, true, true, true, false, false, true, true, false, true, true, true, true, true, true, false, false] (fun s_ => [(7, s_.1), (10, s_.2.1), (11, s_.2.2)]) (fun s_ w' => (w'.cell? ⟨gb184, 0, none⟩ = some (.int .i64 a0_0) ∧ w'.cell? ⟨gb184, 1, none⟩ = some (.int .i64 a0_1) ∧ w'.cell? ⟨gb184, 2, none⟩ = some (.slice A0_2 l0_2.length c0_2) ∧ w'.cell? ⟨gb184, 3, none⟩ = some (.slice A0_3 l0_3.length c0_3) ∧ w'.cell? ⟨gb184, 4, none⟩ = some (.slice A0_4 l0_4.length c0_4) ∧ w'.cell? ⟨gb184, 5, none⟩ = some (.int .i64 a0_5) ∧ w'.cell? ⟨gb184, 6, none⟩ = some (.int .i64 a0_6) ∧ w'.cell? ⟨gb184, 7, none⟩ = some (.int .i64 a0_7)) ∧ (Kd.R (Kd.int .u8) 5 w' w.heap.size (fun k_ => some k_ ≠ (s_.2.2 : Value).ownBlock) s_.2.1 y189) ∧ (Kd.R (Kd.int .u8) 5 w' w.heap.size (fun k_ => some k_ ≠ (s_.2.1 : Value).ownBlock) s_.2.2 y192) ∧ (w'.heap[gb184]? = some ((oh70_))) ∧ (w'.heap[gb185]? = some ((oh71_))) ∧ (Below w.heap.size w w')) ?_ ?_
       rotate_left
       ·intro hJ4_7_8
        refine join_ (σ := Value × Value × Value) 5 #[true, true, true, true, true, true, true, true, false, true, true, false, true, true, true, false, true, true, true, true, true, true, false, false] (fun s_ => [(7, s_.1), (10, s_.2.1), (15, s_.2.2)]) (fun s_ w' => (w'.cell? ⟨gb184, 0, none⟩ = some (.int .i64 a0_0) ∧ w'.cell? ⟨gb184, 1, none⟩ = some (.int .i64 a0_1) ∧ w'.cell? ⟨gb184, 2, none⟩ = some (.slice A0_2 l0_2.length c0_2) ∧ w'.cell? ⟨gb184, 3, none⟩ = some (.slice A0_3 l0_3.length c0_3) ∧ w'.cell? ⟨gb184, 4, none⟩ = some (.slice A0_4 l0_4.length c0_4) ∧ w'.cell? ⟨gb184, 5, none⟩ = some (.int .i64 a0_5) ∧ w'.cell? ⟨gb184, 6, none⟩ = some (.int .i64 a0_6) ∧ w'.cell? ⟨gb184, 7, none⟩ = some (.int .i64 a0_7)) ∧ (Kd.R (Kd.int .u8) 5 w' w.heap.size (fun k_ => some k_ ≠ (s_.2.2 : Value).ownBlock) s_.2.1 y189) ∧ (Kd.R (Kd.int .u8) 5 w' w.heap.size (fun k_ => some k_ ≠ (s_.2.1 : Value).ownBlock) s_.2.2 y198) ∧ (w'.heap[gb184]? = some ((oh70_))) ∧ (w'.heap[gb185]? = some ((oh71_))) ∧ (Below w.heap.size w w')) ?_ ?_
        rotate_left
        ·intro hJ4_7_12
         refine join_ (σ := Value × Value × Value) 5 #[true, true, true, true, true, true, true, false, true, true, true, false, true, true, true, false, true, true, true, true, true, true, false, false] (fun s_ => [(7, s_.1), (11, s_.2.1), (15, s_.2.2)]) (fun s_ w' => (w'.cell? ⟨gb184, 0, none⟩ = some (.int .i64 a0_0) ∧ w'.cell? ⟨gb184, 1, none⟩ = some (.int .i64 a0_1) ∧ w'.cell? ⟨gb184, 2, none⟩ = some (.slice A0_2 l0_2.length c0_2) ∧ w'.cell? ⟨gb184, 3, none⟩ = some (.slice A0_3 l0_3.length c0_3) ∧ w'.cell? ⟨gb184, 4, none⟩ = some (.slice A0_4 l0_4.length c0_4) ∧ w'.cell? ⟨gb184, 5, none⟩ = some (.int .i64 a0_5) ∧ w'.cell? ⟨gb184, 6, none⟩ = some (.int .i64 a0_6) ∧ w'.cell? ⟨gb184, 7, none⟩ = some (.int .i64 a0_7)) ∧ (Kd.R (Kd.int .u8) 5 w' w.heap.size (fun k_ => some k_ ≠ (s_.2.1 : Value).ownBlock ∧ some k_ ≠ (s_.2.2 : Value).ownBlock) s_.1 y186) ∧ (Kd.R (Kd.int .u8) 5 w' w.heap.size (fun k_ => some k_ ≠ (s_.1 : Value).ownBlock ∧ some k_ ≠ (s_.2.2 : Value).ownBlock) s_.2.1 y192) ∧ (Kd.R (Kd.int .u8) 5 w' w.heap.size (fun k_ => some k_ ≠ (s_.1 : Value).ownBlock ∧ some k_ ≠ (s_.2.1 : Value).ownBlock) s_.2.2 y198) ∧ (w'.heap[gb184]? = some ((oh70_))) ∧ (w'.heap[gb185]? = some ((oh71_))) ∧ (Below w.heap.size w w')) ?_ ?_
         rotate_left
         ·intro hJ4_8_12
          refine join_ (σ := Value × Value) 6 #[true, true, true, true, true, true, true, true, false, true, true, false, false, true, true, false, true, true, true, true, true, true, false, false] (fun s_ => [(7, s_.1), (10, s_.2)]) (fun s_ w' => (w'.cell? ⟨gb184, 0, none⟩ = some (.int .i64 a0_0) ∧ w'.cell? ⟨gb184, 1, none⟩ = some (.int .i64 a0_1) ∧ w'.cell? ⟨gb184, 2, none⟩ = some (.slice A0_2 l0_2.length c0_2) ∧ w'.cell? ⟨gb184, 3, none⟩ = some (.slice A0_3 l0_3.length c0_3) ∧ w'.cell? ⟨gb184, 4, none⟩ = some (.slice A0_4 l0_4.length c0_4) ∧ w'.cell? ⟨gb184, 5, none⟩ = some (.int .i64 a0_5) ∧ w'.cell? ⟨gb184, 6, none⟩ = some (.int .i64 a0_6) ∧ w'.cell? ⟨gb184, 7, none⟩ = some (.int .i64 a0_7)) ∧ (Kd.R (Kd.int .u8) 5 w' w.heap.size (fun _ => True) s_.2 y189) ∧ (w'.heap[gb184]? = some ((oh70_))) ∧ (w'.heap[gb185]? = some ((oh71_))) ∧ (Below w.heap.size w w')) ?_ ?_
          rotate_left
          ·intro hJ4_7
           refine join_ (σ := Value × Value) 6 #[true, true, true, true, true, true, true, false, true, true, true, false, false, true, true, false, true, true, true, true, true, true, false, false] (fun s_ => [(7, s_.1), (11, s_.2)]) (fun s_ w' => (w'.cell? ⟨gb184, 0, none⟩ = some (.int .i64 a0_0) ∧ w'.cell? ⟨gb184, 1, none⟩ = some (.int .i64 a0_1) ∧ w'.cell? ⟨gb184, 2, none⟩ = some (.slice A0_2 l0_2.length c0_2) ∧ w'.cell? ⟨gb184, 3, none⟩ = some (.slice A0_3 l0_3.length c0_3) ∧ w'.cell? ⟨gb184, 4, none⟩ = some (.slice A0_4 l0_4.length c0_4) ∧ w'.cell? ⟨gb184, 5, none⟩ = some (.int .i64 a0_5) ∧ w'.cell? ⟨gb184, 6, none⟩ = some (.int .i64 a0_6) ∧ w'.cell? ⟨gb184, 7, none⟩ = some (.int .i64 a0_7)) ∧ (Kd.R (Kd.int .u8) 5 w' w.heap.size (fun k_ => some k_ ≠ (s_.2 : Value).ownBlock) s_.1 y186) ∧ (Kd.R (Kd.int .u8) 5 w' w.heap.size (fun k_ => some k_ ≠ (s_.1 : Value).ownBlock) s_.2 y192) ∧ (w'.heap[gb184]? = some ((oh70_))) ∧ (w'.heap[gb185]? = some ((oh71_))) ∧ (Below w.heap.size w w')) ?_ ?_
           rotate_left
           ·intro hJ4_8
            refine join_ (σ := Value × Value) 6 #[true, true, true, true, true, true, true, false, false, true, true, false, true, true, true, false, true, true, true, true, true, true, false, false] (fun s_ => [(7, s_.1), (15, s_.2)]) (fun s_ w' => (w'.cell? ⟨gb184, 0, none⟩ = some (.int .i64 a0_0) ∧ w'.cell? ⟨gb184, 1, none⟩ = some (.int .i64 a0_1) ∧ w'.cell? ⟨gb184, 2, none⟩ = some (.slice A0_2 l0_2.length c0_2) ∧ w'.cell? ⟨gb184, 3, none⟩ = some (.slice A0_3 l0_3.length c0_3) ∧ w'.cell? ⟨gb184, 4, none⟩ = some (.slice A0_4 l0_4.length c0_4) ∧ w'.cell? ⟨gb184, 5, none⟩ = some (.int .i64 a0_5) ∧ w'.cell? ⟨gb184, 6, none⟩ = some (.int .i64 a0_6) ∧ w'.cell? ⟨gb184, 7, none⟩ = some (.int .i64 a0_7)) ∧ (Kd.R (Kd.int .u8) 5 w' w.heap.size (fun k_ => some k_ ≠ (s_.2 : Value).ownBlock) s_.1 y186) ∧ (Kd.R (Kd.int .u8) 5 w' w.heap.size (fun k_ => some k_ ≠ (s_.1 : Value).ownBlock) s_.2 y198) ∧ (w'.heap[gb184]? = some ((oh70_))) ∧ (w'.heap[gb185]? = some ((oh71_))) ∧ (Below w.heap.size w w')) ?_ ?_
            rotate_left
            ·intro hJ4_12
             refine join_ (σ := Value × Value) 6 #[true, true, true, true, false, true, true, false, true, true, true, false, true, true, true, false, true, true, true, true, true, true, false, false] (fun s_ => [(11, s_.1), (15, s_.2)]) (fun s_ w' => (w'.cell? ⟨gb184, 0, none⟩ = some (.int .i64 a0_0) ∧ w'.cell? ⟨gb184, 1, none⟩ = some (.int .i64 a0_1) ∧ w'.cell? ⟨gb184, 2, none⟩ = some (.slice A0_2 l0_2.length c0_2) ∧ w'.cell? ⟨gb184, 3, none⟩ = some (.slice A0_3 l0_3.length c0_3) ∧ w'.cell? ⟨gb184, 4, none⟩ = some (.slice A0_4 l0_4.length c0_4) ∧ w'.cell? ⟨gb184, 5, none⟩ = some (.int .i64 a0_5) ∧ w'.cell? ⟨gb184, 6, none⟩ = some (.int .i64 a0_6) ∧ w'.cell? ⟨gb184, 7, none⟩ = some (.int .i64 a0_7)) ∧ (Kd.R (Kd.int .u8) 5 w' w.heap.size (fun k_ => some k_ ≠ (s_.2 : Value).ownBlock) s_.1 y192) ∧ (Kd.R (Kd.int .u8) 5 w' w.heap.size (fun k_ => some k_ ≠ (s_.1 : Value).ownBlock) s_.2 y198) ∧ (w'.heap[gb184]? = some ((oh70_))) ∧ (w'.heap[gb185]? = some ((oh71_))) ∧ (Below w.heap.size w w')) ?_ ?_
             rotate_left
             ·intro hJ8_12
              refine join_ (σ := Value) 7 #[true, true, true, true, true, true, true, false, false, true, true, false, false, true, true, false, true, true, true, true, true, true, false, false] (fun s_ => [(7, s_)]) (fun s_ w' => (w'.cell? ⟨gb184, 0, none⟩ = some (.int .i64 a0_0) ∧ w'.cell? ⟨gb184, 1, none⟩ = some (.int .i64 a0_1) ∧ w'.cell? ⟨gb184, 2, none⟩ = some (.slice A0_2 l0_2.length c0_2) ∧ w'.cell? ⟨gb184, 3, none⟩ = some (.slice A0_3 l0_3.length c0_3) ∧ w'.cell? ⟨gb184, 4, none⟩ = some (.slice A0_4 l0_4.length c0_4) ∧ w'.cell? ⟨gb184, 5, none⟩ = some (.int .i64 a0_5) ∧ w'.cell? ⟨gb184, 6, none⟩ = some (.int .i64 a0_6) ∧ w'.cell? ⟨gb184, 7, none⟩ = some (.int .i64 a0_7)) ∧ (Kd.R (Kd.int .u8) 5 w' w.heap.size (fun _ => True) s_ y186) ∧ (w'.heap[gb184]? = some ((oh70_))) ∧ (w'.heap[gb185]? = some ((oh71_))) ∧ (Below w.heap.size w w')) ?_ ?_
              rotate_left
              ·intro hJ4
               refine join_ (σ := Value) 7 #[true, true, true, true, false, true, true, false, true, true, true, false, false, true, true, false, true, true, true, true, true, true, false, false] (fun s_ => [(11, s_)]) (fun s_ w' => (w'.cell? ⟨gb184, 0, none⟩ = some (.int .i64 a0_0) ∧ w'.cell? ⟨gb184, 1, none⟩ = some (.int .i64 a0_1) ∧ w'.cell? ⟨gb184, 2, none⟩ = some (.slice A0_2 l0_2.length c0_2) ∧ w'.cell? ⟨gb184, 3, none⟩ = some (.slice A0_3 l0_3.length c0_3) ∧ w'.cell? ⟨gb184, 4, none⟩ = some (.slice A0_4 l0_4.length c0_4) ∧ w'.cell? ⟨gb184, 5, none⟩ = some (.int .i64 a0_5) ∧ w'.cell? ⟨gb184, 6, none⟩ = some (.int .i64 a0_6) ∧ w'.cell? ⟨gb184, 7, none⟩ = some (.int .i64 a0_7)) ∧ (Kd.R (Kd.int .u8) 5 w' w.heap.size (fun _ => True) s_ y192) ∧ (w'.heap[gb184]? = some ((oh70_))) ∧ (w'.heap[gb185]? = some ((oh71_))) ∧ (Below w.heap.size w w')) ?_ ?_
               rotate_left
               ·intro hJ8
                refine join_ (σ := Value) 7 #[true, true, true, true, false, true, true, false, false, true, true, false, true, true, true, false, true, true, true, true, true, true, false, false] (fun s_ => [(15, s_)]) (fun s_ w' => (w'.cell? ⟨gb184, 0, none⟩ = some (.int .i64 a0_0) ∧ w'.cell? ⟨gb184, 1, none⟩ = some (.int .i64 a0_1) ∧ w'.cell? ⟨gb184, 2, none⟩ = some (.slice A0_2 l0_2.length c0_2) ∧ w'.cell? ⟨gb184, 3, none⟩ = some (.slice A0_3 l0_3.length c0_3) ∧ w'.cell? ⟨gb184, 4, none⟩ = some (.slice A0_4 l0_4.length c0_4) ∧ w'.cell? ⟨gb184, 5, none⟩ = some (.int .i64 a0_5) ∧ w'.cell? ⟨gb184, 6, none⟩ = some (.int .i64 a0_6) ∧ w'.cell? ⟨gb184, 7, none⟩ = some (.int .i64 a0_7)) ∧ (Kd.R (Kd.int .u8) 5 w' w.heap.size (fun _ => True) s_ y198) ∧ (w'.heap[gb184]? = some ((oh70_))) ∧ (w'.heap[gb185]? = some ((oh71_))) ∧ (Below w.heap.size w w')) ?_ ?_
                rotate_left
                ·intro hJ12
                 refine three_ (i := 4) (j := 8) (k := 12) (Ni := some 7) (Nj := some 11) (Nk := some 15) #[true, true, true, true, true, true, true, false, false, true, true, false, false, true, true, false, true, true, true, true, true, true, false, false] #[true, true, true, true, false, true, true, false, true, true, true, false, false, true, true, false, true, true, true, true, true, true, false, false] #[true, true, true, true, false, true, true, false, false, true, true, false, true, true, true, false, true, true, true, true, true, true, false, false] rfl rfl rfl rfl rfl rfl (three_of HT_.out (by kernel_rfl)) (by decide) (by decide) (by decide) (fun K hK => ?_) (fun K hK => ?_) (fun K hK => ?_)
                 ·skip
                  lh71_
                  intro v187 w8 ho9 hb hg_ hnew_
                  clear hg_ hnew_
                  (first | rw [← Ny186.out] at ho9 | (simp only [Int.reduceToNat] at ho9; rw [← Ny186.out] at ho9))
                  have n0_ := Aside0.mk (Kd.R_lower ho9 (below_size (by qb2_ GE184 GE185)))
                  lh72_
                  lh73_
                  have n3_ := Aside0.mk (below_step (by qb2_ GE184 GE185) hb)
                  clear BK184
                  clear BK185
                  clear HB
                  have HO188 := n0_
                  have BK184 := n1_
                  have BK185 := n2_
                  have HB := n3_
                  clear n0_ n1_ n2_ n3_
                  clear hb ho9
                  lh74_
                  clear hK K
                  refine norm_ (a' := ?_) ?_ ?_
                  rotate_left
                  ·show Act.put _ (some 7) _ = _
                   qp_
                   rfl
                  exact norm_ (ph70_) (hJ4 (v187) _ ⟨hHeld, (by qR_; exact HO188.out), (by qk_; exact BK184.out), (by qk_; exact BK185.out), (by qb2_ GE184 GE185)⟩)
                 ·skip
                  lh75_
                  intro v193 w8 ho9 hb hg_ hnew_
                  clear hg_ hnew_
                  (first | rw [← Ny192.out] at ho9 | (simp only [Int.reduceToNat] at ho9; rw [← Ny192.out] at ho9))
                  have n0_ := Aside0.mk (Kd.R_lower ho9 (below_size (by qb2_ GE184 GE185)))
                  lh72_
                  lh73_
                  have n3_ := Aside0.mk (below_step (by qb2_ GE184 GE185) hb)
                  clear BK184
                  clear BK185
                  clear HB
                  have HO194 := n0_
                  have BK184 := n1_
                  have BK185 := n2_
                  have HB := n3_
                  clear n0_ n1_ n2_ n3_
                  clear hb ho9
                  lh74_
                  clear hK K
                  refine norm_ (a' := ?_) ?_ ?_
                  rotate_left
                  ·show Act.put _ (some 11) _ = _
                   qp_
                   rfl
                  exact norm_ (ph70_) (hJ8 (v193) _ ⟨hHeld, (by qR_; exact HO194.out), (by qk_; exact BK184.out), (by qk_; exact BK185.out), (by qb2_ GE184 GE185)⟩)
                 ·skip
                  lh76_
                  intro v199 w8 ho9 hb hg_ hnew_
                  clear hg_ hnew_
                  (first | rw [← Ny198.out] at ho9 | (simp only [Int.reduceToNat] at ho9; rw [← Ny198.out] at ho9))
                  have n0_ := Aside0.mk (Kd.R_lower ho9 (below_size (by qb2_ GE184 GE185)))
                  lh72_
                  lh73_
                  have n3_ := Aside0.mk (below_step (by qb2_ GE184 GE185) hb)
                  clear BK184
                  clear BK185
                  clear HB
                  have HO200 := n0_
                  have BK184 := n1_
                  have BK185 := n2_
                  have HB := n3_
                  clear n0_ n1_ n2_ n3_
                  clear hb ho9
                  lh74_
                  clear hK K
                  refine norm_ (a' := ?_) ?_ ?_
                  rotate_left
                  ·show Act.put _ (some 15) _ = _
                   qp_
                   rfl
                  exact norm_ (ph70_) (hJ12 (v199) _ ⟨hHeld, (by qR_; exact HO200.out), (by qk_; exact BK184.out), (by qk_; exact BK185.out), (by qb2_ GE184 GE185)⟩)
                ·skip
                 rintro v199 w10 ⟨hS_, h0_, h1_, h2_, h3_⟩
                 have n0_ : Aside0 (Kd.R (Kd.int .u8) 5 w10 w.heap.size (fun _ => True) v199 y198) := ⟨h0_⟩
                 have n1_ : Aside0 (w10.heap[gb184]? = some ((oh70_))) := ⟨h1_⟩
                 have n2_ : Aside0 (w10.heap[gb185]? = some ((oh71_))) := ⟨h2_⟩
                 have n3_ : Aside0 (Below w.heap.size w w10) := ⟨h3_⟩
                 clear BK184
                 clear BK185
                 clear HB
                 clear h0_ h1_ h2_ h3_
                 have HO200 := n0_
                 have BK184 := n1_
                 have BK185 := n2_
                 have HB := n3_
                 clear n0_ n1_ n2_ n3_
                 lh77_
                 refine norm_ (a' := ?_) ?_ ?_
                 rotate_left
                 ·lh78_
                  rfl
                 refine two_ (i := 4) (j := 8) (Ni := some 7) (Nj := some 11) #[true, true, true, true, true, true, true, false, false, true, true, false, true, true, true, false, true, true, true, true, true, true, false, false] #[true, true, true, true, false, true, true, false, true, true, true, false, true, true, true, false, true, true, true, true, true, true, false, false] rfl rfl rfl rfl (two_of HT_.out (by kernel_rfl)) (by decide) (by decide) (fun K hK => ?_) (fun K hK => ?_)
                 ·skip
                  lh71_
                  intro v187 w11 ho12 hb hg_ hnew_
                  clear hg_ hnew_
                  (first | rw [← Ny186.out] at ho12 | (simp only [Int.reduceToNat] at ho12; rw [← Ny186.out] at ho12))
                  have n0_ := Aside0.mk (Kd.R_elder' (by qR_; exact HO200.out) (Kd.R_base ho12) hb)
                  have n1_ := Aside0.mk (Kd.R_lower (Kd.R_new' ho12 (Kd.R_lt (by qR_; exact HO200.out))) (below_size (by qb2_ GE184 GE185)))
                  lh79_
                  lh710_
                  lh711_
                  clear HO200
                  clear BK184
                  clear BK185
                  clear HB
                  have HO200 := n0_
                  have HO188 := n1_
                  have BK184 := n2_
                  have BK185 := n3_
                  have HB := n4_
                  clear n0_ n1_ n2_ n3_ n4_
                  clear hb ho12
                  lh74_
                  clear hK K
                  refine norm_ (a' := ?_) ?_ ?_
                  rotate_left
                  ·show Act.put _ (some 7) _ = _
                   qp_
                   rfl
                  lh712_
                 ·skip
                  lh75_
                  intro v193 w11 ho12 hb hg_ hnew_
                  clear hg_ hnew_
                  (first | rw [← Ny192.out] at ho12 | (simp only [Int.reduceToNat] at ho12; rw [← Ny192.out] at ho12))
                  have n0_ := Aside0.mk (Kd.R_elder' (by qR_; exact HO200.out) (Kd.R_base ho12) hb)
                  have n1_ := Aside0.mk (Kd.R_lower (Kd.R_new' ho12 (Kd.R_lt (by qR_; exact HO200.out))) (below_size (by qb2_ GE184 GE185)))
                  lh79_
                  lh710_
                  lh711_
                  clear HO200
                  clear BK184
                  clear BK185
                  clear HB
                  have HO200 := n0_
                  have HO194 := n1_
                  have BK184 := n2_
                  have BK185 := n3_
                  have HB := n4_
                  clear n0_ n1_ n2_ n3_ n4_
                  clear hb ho12
                  lh74_
                  clear hK K
                  refine norm_ (a' := ?_) ?_ ?_
                  rotate_left
                  ·show Act.put _ (some 11) _ = _
                   qp_
                   rfl
                  lh713_
               ·skip
                rintro v193 w10 ⟨hS_, h0_, h1_, h2_, h3_⟩
                have n0_ : Aside0 (Kd.R (Kd.int .u8) 5 w10 w.heap.size (fun _ => True) v193 y192) := ⟨h0_⟩
                have n1_ : Aside0 (w10.heap[gb184]? = some ((oh70_))) := ⟨h1_⟩
                have n2_ : Aside0 (w10.heap[gb185]? = some ((oh71_))) := ⟨h2_⟩
                have n3_ : Aside0 (Below w.heap.size w w10) := ⟨h3_⟩
                clear BK184
                clear BK185
                clear HB
                clear h0_ h1_ h2_ h3_
                have HO194 := n0_
                have BK184 := n1_
                have BK185 := n2_
                have HB := n3_
                clear n0_ n1_ n2_ n3_
                lh77_
                refine norm_ (a' := ?_) ?_ ?_
                rotate_left
                ·lh78_
                 rfl
                refine two_ (i := 4) (j := 12) (Ni := some 7) (Nj := some 15) #[true, true, true, true, true, true, true, false, true, true, true, false, false, true, true, false, true, true, true, true, true, true, false, false] #[true, true, true, true, false, true, true, false, true, true, true, false, true, true, true, false, true, true, true, true, true, true, false, false] rfl rfl rfl rfl (two_of HT_.out (by kernel_rfl)) (by decide) (by decide) (fun K hK => ?_) (fun K hK => ?_)
                ·skip
                 lh71_
                 intro v187 w11 ho12 hb hg_ hnew_
                 clear hg_ hnew_
                 (first | rw [← Ny186.out] at ho12 | (simp only [Int.reduceToNat] at ho12; rw [← Ny186.out] at ho12))
                 have n0_ := Aside0.mk (Kd.R_elder' (by qR_; exact HO194.out) (Kd.R_base ho12) hb)
                 have n1_ := Aside0.mk (Kd.R_lower (Kd.R_new' ho12 (Kd.R_lt (by qR_; exact HO194.out))) (below_size (by qb2_ GE184 GE185)))
                 lh79_
                 lh710_
                 lh711_
                 clear HO194
                 clear BK184
                 clear BK185
                 clear HB
                 have HO194 := n0_
                 have HO188 := n1_
                 have BK184 := n2_
                 have BK185 := n3_
                 have HB := n4_
                 clear n0_ n1_ n2_ n3_ n4_
                 clear hb ho12
                 lh74_
                 clear hK K
                 refine norm_ (a' := ?_) ?_ ?_
                 rotate_left
                 ·show Act.put _ (some 7) _ = _
                  qp_
                  rfl
                 lh714_
                ·skip
                 lh76_
                 intro v199 w11 ho12 hb hg_ hnew_
                 clear hg_ hnew_
                 (first | rw [← Ny198.out] at ho12 | (simp only [Int.reduceToNat] at ho12; rw [← Ny198.out] at ho12))
                 have n0_ := Aside0.mk (Kd.R_elder' (by qR_; exact HO194.out) (Kd.R_base ho12) hb)
                 have n1_ := Aside0.mk (Kd.R_lower (Kd.R_new' ho12 (Kd.R_lt (by qR_; exact HO194.out))) (below_size (by qb2_ GE184 GE185)))
                 lh79_
                 lh710_
                 lh711_
                 clear HO194
                 clear BK184
                 clear BK185
                 clear HB
                 have HO194 := n0_
                 have HO200 := n1_
                 have BK184 := n2_
                 have BK185 := n3_
                 have HB := n4_
                 clear n0_ n1_ n2_ n3_ n4_
                 clear hb ho12
                 lh74_
                 clear hK K
                 refine norm_ (a' := ?_) ?_ ?_
                 rotate_left
                 ·show Act.put _ (some 15) _ = _
                  qp_
                  rfl
                 lh713_
              ·skip
               rintro v187 w10 ⟨hS_, h0_, h1_, h2_, h3_⟩
               have n0_ : Aside0 (Kd.R (Kd.int .u8) 5 w10 w.heap.size (fun _ => True) v187 y186) := ⟨h0_⟩
               have n1_ : Aside0 (w10.heap[gb184]? = some ((oh70_))) := ⟨h1_⟩
               have n2_ : Aside0 (w10.heap[gb185]? = some ((oh71_))) := ⟨h2_⟩
               have n3_ : Aside0 (Below w.heap.size w w10) := ⟨h3_⟩
               clear BK184
               clear BK185
               clear HB
               clear h0_ h1_ h2_ h3_
               have HO188 := n0_
               have BK184 := n1_
               have BK185 := n2_
               have HB := n3_
               clear n0_ n1_ n2_ n3_
               lh77_
               refine norm_ (a' := ?_) ?_ ?_
               rotate_left
               ·lh78_
                rfl
               refine three_ (i := 7) (j := 8) (k := 12) (Ni := some 10) (Nj := some 11) (Nk := some 15) #[true, true, true, true, true, true, true, true, false, true, true, false, false, true, true, false, true, true, true, true, true, true, false, false] #[true, true, true, true, true, true, true, false, true, true, true, false, false, true, true, false, true, true, true, true, true, true, false, false] #[true, true, true, true, true, true, true, false, false, true, true, false, true, true, true, false, true, true, true, true, true, true, false, false] rfl rfl rfl rfl rfl rfl (three_of HT_.out (by kernel_rfl)) (by decide) (by decide) (by decide) (fun K hK => ?_) (fun K hK => ?_) (fun K hK => ?_)
               ·skip
                refine Kd.R_append_rows_step (Kd.int .u8) (w0 := w) w.heap.size (by rfl) (.tmp 7) (.tmp 9) 22 5 (.int .u8 0) 1 rfl Tryd.underlying22 info5 rfl (by decide) (by omega) v187 y186 l0_2 _ _ _ (fun _ => True) (fun _ => False) rfl rfl ?aO ?aR (fun _ _ h => h) (fun _ h => h.elim) ?aF ?aB ?aS ?aL ?_
                lh715_
                lh716_
                (case aF => exact (fun _ _ => trivial))
                (case aO => exact (by qR_; exact HO188.out))
                lh717_
                (case aL => have := LMc2.out; omega)
                intro v190 w11 ho hb hg hat
                rw [← Ny189.out] at ho
                lh718_
                lh719_
                have n2_ := Aside0.mk (hb)
                have n3_ := Aside0.mk (ho)
                clear BK184
                clear BK185
                clear HB
                clear HO188
                have BK184 := n0_
                have BK185 := n1_
                have HB := n2_
                have HO191 := n3_
                clear n0_ n1_ n2_ n3_
                clear ho hb hg hat
                lh74_
                clear hK K
                refine norm_ (a' := ?_) ?_ ?_
                rotate_left
                ·show Act.put _ (some 10) _ = _
                 qp_
                 rfl
                exact norm_ (ph70_) (hJ4_7 (v187, v190) _ ⟨hHeld, (by qR_; exact HO191.out), (by qk_; exact BK184.out), (by qk_; exact BK185.out), (by qb2_ GE184 GE185)⟩)
               ·skip
                lh75_
                intro v193 w11 ho12 hb hg_ hnew_
                clear hg_ hnew_
                (first | rw [← Ny192.out] at ho12 | (simp only [Int.reduceToNat] at ho12; rw [← Ny192.out] at ho12))
                have n0_ := Aside0.mk (Kd.R_elder' (by qR_; exact HO188.out) (Kd.R_base ho12) hb)
                have n1_ := Aside0.mk (Kd.R_lower (Kd.R_new' ho12 (Kd.R_lt (by qR_; exact HO188.out))) (below_size (by qb2_ GE184 GE185)))
                lh79_
                lh710_
                lh711_
                clear HO188
                clear BK184
                clear BK185
                clear HB
                have HO188 := n0_
                have HO194 := n1_
                have BK184 := n2_
                have BK185 := n3_
                have HB := n4_
                clear n0_ n1_ n2_ n3_ n4_
                clear hb ho12
                lh74_
                clear hK K
                refine norm_ (a' := ?_) ?_ ?_
                rotate_left
                ·show Act.put _ (some 11) _ = _
                 qp_
                 rfl
                lh714_
               ·skip
                lh76_
                intro v199 w11 ho12 hb hg_ hnew_
                clear hg_ hnew_
                (first | rw [← Ny198.out] at ho12 | (simp only [Int.reduceToNat] at ho12; rw [← Ny198.out] at ho12))
                have n0_ := Aside0.mk (Kd.R_elder' (by qR_; exact HO188.out) (Kd.R_base ho12) hb)
                have n1_ := Aside0.mk (Kd.R_lower (Kd.R_new' ho12 (Kd.R_lt (by qR_; exact HO188.out))) (below_size (by qb2_ GE184 GE185)))
                lh79_
                lh710_
                lh711_
                clear HO188
                clear BK184
                clear BK185
                clear HB
                have HO188 := n0_
                have HO200 := n1_
                have BK184 := n2_
                have BK185 := n3_
                have HB := n4_
                clear n0_ n1_ n2_ n3_ n4_
                clear hb ho12
                lh74_
                clear hK K
                refine norm_ (a' := ?_) ?_ ?_
                rotate_left
                ·show Act.put _ (some 15) _ = _
                 qp_
                 rfl
                lh712_
             ·skip
              rintro ⟨v193, v199⟩ w12 ⟨hS_, h0_, h1_, h2_, h3_, h4_⟩
              have n0_ : Aside0 (Kd.R (Kd.int .u8) 5 w12 w.heap.size (fun k_ => some k_ ≠ (v199 : Value).ownBlock) v193 y192) := ⟨h0_⟩
              have n1_ : Aside0 (Kd.R (Kd.int .u8) 5 w12 w.heap.size (fun k_ => some k_ ≠ (v193 : Value).ownBlock) v199 y198) := ⟨h1_⟩
              have n2_ : Aside0 (w12.heap[gb184]? = some ((oh70_))) := ⟨h2_⟩
              have n3_ : Aside0 (w12.heap[gb185]? = some ((oh71_))) := ⟨h3_⟩
              have n4_ : Aside0 (Below w.heap.size w w12) := ⟨h4_⟩
              clear BK184
              clear BK185
              clear HB
              clear h0_ h1_ h2_ h3_ h4_
              have HO194 := n0_
              have HO200 := n1_
              have BK184 := n2_
              have BK185 := n3_
              have HB := n4_
              clear n0_ n1_ n2_ n3_ n4_
              lh720_
              refine norm_ (a' := ?_) ?_ ?_
              rotate_left
              ·lh78_
               rfl
              refine one_ (i := 4) (N := some 7) #[true, true, true, true, true, true, true, false, true, true, true, false, true, true, true, false, true, true, true, true, true, true, false, false] rfl rfl (one_of HT_.out (by kernel_rfl)) (by decide) (fun K hK => ?_)
              lh71_
              intro v187 w13 ho14 hb hg_ hnew_
              clear hg_ hnew_
              (first | rw [← Ny186.out] at ho14 | (simp only [Int.reduceToNat] at ho14; rw [← Ny186.out] at ho14))
              have n0_ := Aside0.mk (Kd.R_elder' (by qR_; exact HO194.out) (Kd.R_base ho14) hb)
              have n1_ := Aside0.mk (Kd.R_elder' (by qR_; exact HO200.out) (Kd.R_base ho14) hb)
              have n2_ := Aside0.mk (Kd.R_lower (Kd.R_new' (Kd.R_new' ho14 (Kd.R_lt (by qR_; exact HO194.out))) (Kd.R_lt (by qR_; exact HO200.out))) (below_size (by qb2_ GE184 GE185)))
              lh721_
              lh722_
              lh723_
              clear HO194
              clear HO200
              clear BK184
              clear BK185
              clear HB
              have HO194 := n0_
              have HO200 := n1_
              have HO188 := n2_
              have BK184 := n3_
              have BK185 := n4_
              have HB := n5_
              clear n0_ n1_ n2_ n3_ n4_ n5_
              clear hb ho14
              lh74_
              clear hK K
              refine norm_ (a' := ?_) ?_ ?_
              rotate_left
              ·show Act.put _ (some 7) _ = _
               qp_
               rfl
              exact norm_ (ph70_) (hJ4_8_12 (v187, v193, v199) _ ⟨hHeld, (by qR_; exact Kd.R_mono HO188.out (fun _ hk => ⟨hk.1.2, hk.2⟩)), (by qR_; exact Kd.R_mono HO194.out (fun _ hk => ⟨hk.2, hk.1⟩)), (by qR_; exact Kd.R_mono HO200.out (fun _ hk => ⟨hk.2, hk.1⟩)), (by qk_; exact BK184.out), (by qk_; exact BK185.out), (by qb2_ GE184 GE185)⟩)
            ·skip
             rintro ⟨v187, v199⟩ w12 ⟨hS_, h0_, h1_, h2_, h3_, h4_⟩
             have n0_ : Aside0 (Kd.R (Kd.int .u8) 5 w12 w.heap.size (fun k_ => some k_ ≠ (v199 : Value).ownBlock) v187 y186) := ⟨h0_⟩
             have n1_ : Aside0 (Kd.R (Kd.int .u8) 5 w12 w.heap.size (fun k_ => some k_ ≠ (v187 : Value).ownBlock) v199 y198) := ⟨h1_⟩
             have n2_ : Aside0 (w12.heap[gb184]? = some ((oh70_))) := ⟨h2_⟩
             have n3_ : Aside0 (w12.heap[gb185]? = some ((oh71_))) := ⟨h3_⟩
             have n4_ : Aside0 (Below w.heap.size w w12) := ⟨h4_⟩
             clear BK184
             clear BK185
             clear HB
             clear h0_ h1_ h2_ h3_ h4_
             have HO188 := n0_
             have HO200 := n1_
             have BK184 := n2_
             have BK185 := n3_
             have HB := n4_
             clear n0_ n1_ n2_ n3_ n4_
             lh720_
             refine norm_ (a' := ?_) ?_ ?_
             rotate_left
             ·lh78_
              rfl
             refine two_ (i := 7) (j := 8) (Ni := some 10) (Nj := some 11) #[true, true, true, true, true, true, true, true, false, true, true, false, true, true, true, false, true, true, true, true, true, true, false, false] #[true, true, true, true, true, true, true, false, true, true, true, false, true, true, true, false, true, true, true, true, true, true, false, false] rfl rfl rfl rfl (two_of HT_.out (by kernel_rfl)) (by decide) (by decide) (fun K hK => ?_) (fun K hK => ?_)
             ·skip
              refine Kd.R_append_rows_step (Kd.int .u8) (w0 := w) w.heap.size (by rfl) (.tmp 7) (.tmp 9) 22 5 (.int .u8 0) 1 rfl Tryd.underlying22 info5 rfl (by decide) (by omega) v187 y186 l0_2 _ _ _ (fun k_ => some k_ ≠ (v199 : Value).ownBlock) (fun _ => False) rfl rfl ?aO ?aR (fun _ _ h => h) (fun _ h => h.elim) ?aF ?aB ?aS ?aL ?_
              lh715_
              lh716_
              (case aF => exact (fun k_ hk => Kd.fresh' (Kd.R_lt (by qR_; exact HO200.out)) k_ hk))
              (case aO => exact (by qR_; exact HO188.out))
              lh717_
              (case aL => have := LMc2.out; omega)
              intro v190 w13 ho hb hg hat
              rw [← Ny189.out] at ho
              lh718_
              lh719_
              have n2_ := Aside0.mk (Kd.R_after (ok := (fun _ => True)) (by qR_; exact Kd.R_mono HO200.out (fun _ hk => ⟨trivial, hk⟩)) hg hat)
              have n3_ := Aside0.mk (hb)
              have n4_ := Aside0.mk (ho)
              clear BK184
              clear BK185
              clear HO200
              clear HB
              clear HO188
              have BK184 := n0_
              have BK185 := n1_
              have HO200 := n2_
              have HB := n3_
              have HO191 := n4_
              clear n0_ n1_ n2_ n3_ n4_
              clear ho hb hg hat
              lh74_
              clear hK K
              refine norm_ (a' := ?_) ?_ ?_
              rotate_left
              ·show Act.put _ (some 10) _ = _
               qp_
               rfl
              exact norm_ (ph70_) (hJ4_7_12 (v187, v190, v199) _ ⟨hHeld, (by qR_; exact HO191.out), (ph72_), (by qk_; exact BK184.out), (by qk_; exact BK185.out), (by qb2_ GE184 GE185)⟩)
             ·skip
              lh75_
              intro v193 w13 ho14 hb hg_ hnew_
              clear hg_ hnew_
              (first | rw [← Ny192.out] at ho14 | (simp only [Int.reduceToNat] at ho14; rw [← Ny192.out] at ho14))
              have n0_ := Aside0.mk (Kd.R_elder' (by qR_; exact HO188.out) (Kd.R_base ho14) hb)
              have n1_ := Aside0.mk (Kd.R_elder' (by qR_; exact HO200.out) (Kd.R_base ho14) hb)
              have n2_ := Aside0.mk (Kd.R_lower (Kd.R_new' (Kd.R_new' ho14 (Kd.R_lt (by qR_; exact HO188.out))) (Kd.R_lt (by qR_; exact HO200.out))) (below_size (by qb2_ GE184 GE185)))
              lh721_
              lh722_
              lh723_
              clear HO188
              clear HO200
              clear BK184
              clear BK185
              clear HB
              have HO188 := n0_
              have HO200 := n1_
              have HO194 := n2_
              have BK184 := n3_
              have BK185 := n4_
              have HB := n5_
              clear n0_ n1_ n2_ n3_ n4_ n5_
              clear hb ho14
              lh74_
              clear hK K
              refine norm_ (a' := ?_) ?_ ?_
              rotate_left
              ·show Act.put _ (some 11) _ = _
               qp_
               rfl
              exact norm_ (ph70_) (hJ4_8_12 (v187, v193, v199) _ ⟨hHeld, (by qR_; exact Kd.R_mono HO188.out (fun _ hk => ⟨hk.2, hk.1⟩)), (by qR_; exact Kd.R_mono HO194.out (fun _ hk => ⟨hk.1.2, hk.2⟩)), (by qR_; exact HO200.out), (by qk_; exact BK184.out), (by qk_; exact BK185.out), (by qb2_ GE184 GE185)⟩)
           ·skip
            rintro ⟨v187, v193⟩ w12 ⟨hS_, h0_, h1_, h2_, h3_, h4_⟩
            have n0_ : Aside0 (Kd.R (Kd.int .u8) 5 w12 w.heap.size (fun k_ => some k_ ≠ (v193 : Value).ownBlock) v187 y186) := ⟨h0_⟩
            have n1_ : Aside0 (Kd.R (Kd.int .u8) 5 w12 w.heap.size (fun k_ => some k_ ≠ (v187 : Value).ownBlock) v193 y192) := ⟨h1_⟩
            have n2_ : Aside0 (w12.heap[gb184]? = some ((oh70_))) := ⟨h2_⟩
            have n3_ : Aside0 (w12.heap[gb185]? = some ((oh71_))) := ⟨h3_⟩
            have n4_ : Aside0 (Below w.heap.size w w12) := ⟨h4_⟩
            clear BK184
            clear BK185
            clear HB
            clear h0_ h1_ h2_ h3_ h4_
            have HO188 := n0_
            have HO194 := n1_
            have BK184 := n2_
            have BK185 := n3_
            have HB := n4_
            clear n0_ n1_ n2_ n3_ n4_
            lh720_
            refine norm_ (a' := ?_) ?_ ?_
            rotate_left
            ·lh78_
             rfl
            refine two_ (i := 7) (j := 12) (Ni := some 10) (Nj := some 15) #[true, true, true, true, true, true, true, true, true, true, true, false, false, true, true, false, true, true, true, true, true, true, false, false] #[true, true, true, true, true, true, true, false, true, true, true, false, true, true, true, false, true, true, true, true, true, true, false, false] rfl rfl rfl rfl (two_of HT_.out (by kernel_rfl)) (by decide) (by decide) (fun K hK => ?_) (fun K hK => ?_)
            ·skip
             refine Kd.R_append_rows_step (Kd.int .u8) (w0 := w) w.heap.size (by rfl) (.tmp 7) (.tmp 9) 22 5 (.int .u8 0) 1 rfl Tryd.underlying22 info5 rfl (by decide) (by omega) v187 y186 l0_2 _ _ _ (fun k_ => some k_ ≠ (v193 : Value).ownBlock) (fun _ => False) rfl rfl ?aO ?aR (fun _ _ h => h) (fun _ h => h.elim) ?aF ?aB ?aS ?aL ?_
             lh715_
             lh716_
             (case aF => exact (fun k_ hk => Kd.fresh' (Kd.R_lt (by qR_; exact HO194.out)) k_ hk))
             (case aO => exact (by qR_; exact HO188.out))
             lh717_
             (case aL => have := LMc2.out; omega)
             intro v190 w13 ho hb hg hat
             rw [← Ny189.out] at ho
             lh718_
             lh719_
             have n2_ := Aside0.mk (Kd.R_after (ok := (fun _ => True)) (by qR_; exact Kd.R_mono HO194.out (fun _ hk => ⟨trivial, hk⟩)) hg hat)
             have n3_ := Aside0.mk (hb)
             have n4_ := Aside0.mk (ho)
             clear BK184
             clear BK185
             clear HO194
             clear HB
             clear HO188
             have BK184 := n0_
             have BK185 := n1_
             have HO194 := n2_
             have HB := n3_
             have HO191 := n4_
             clear n0_ n1_ n2_ n3_ n4_
             clear ho hb hg hat
             lh74_
             clear hK K
             refine norm_ (a' := ?_) ?_ ?_
             rotate_left
             ·show Act.put _ (some 10) _ = _
              qp_
              rfl
             exact norm_ (ph70_) (hJ4_7_8 (v187, v190, v193) _ ⟨hHeld, (by qR_; exact HO191.out), (ph73_), (by qk_; exact BK184.out), (by qk_; exact BK185.out), (by qb2_ GE184 GE185)⟩)
            ·skip
             lh76_
             intro v199 w13 ho14 hb hg_ hnew_
             clear hg_ hnew_
             (first | rw [← Ny198.out] at ho14 | (simp only [Int.reduceToNat] at ho14; rw [← Ny198.out] at ho14))
             have n0_ := Aside0.mk (Kd.R_elder' (by qR_; exact HO188.out) (Kd.R_base ho14) hb)
             have n1_ := Aside0.mk (Kd.R_elder' (by qR_; exact HO194.out) (Kd.R_base ho14) hb)
             have n2_ := Aside0.mk (Kd.R_lower (Kd.R_new' (Kd.R_new' ho14 (Kd.R_lt (by qR_; exact HO188.out))) (Kd.R_lt (by qR_; exact HO194.out))) (below_size (by qb2_ GE184 GE185)))
             lh721_
             lh722_
             lh723_
             clear HO188
             clear HO194
             clear BK184
             clear BK185
             clear HB
             have HO188 := n0_
             have HO194 := n1_
             have HO200 := n2_
             have BK184 := n3_
             have BK185 := n4_
             have HB := n5_
             clear n0_ n1_ n2_ n3_ n4_ n5_
             clear hb ho14
             lh74_
             clear hK K
             refine norm_ (a' := ?_) ?_ ?_
             rotate_left
             ·show Act.put _ (some 15) _ = _
              qp_
              rfl
             exact norm_ (ph70_) (hJ4_8_12 (v187, v193, v199) _ ⟨hHeld, (by qR_; exact HO188.out), (by qR_; exact HO194.out), (by qR_; exact Kd.R_mono HO200.out (fun _ hk => ⟨hk.1.2, hk.2⟩)), (by qk_; exact BK184.out), (by qk_; exact BK185.out), (by qb2_ GE184 GE185)⟩)
          ·skip
           rintro ⟨v187, v190⟩ w11 ⟨hS_, h0_, h1_, h2_, h3_⟩
           have n0_ : Aside0 (Kd.R (Kd.int .u8) 5 w11 w.heap.size (fun _ => True) v190 y189) := ⟨h0_⟩
           have n1_ : Aside0 (w11.heap[gb184]? = some ((oh70_))) := ⟨h1_⟩
           have n2_ : Aside0 (w11.heap[gb185]? = some ((oh71_))) := ⟨h2_⟩
           have n3_ : Aside0 (Below w.heap.size w w11) := ⟨h3_⟩
           clear BK184
           clear BK185
           clear HB
           clear h0_ h1_ h2_ h3_
           have HO191 := n0_
           have BK184 := n1_
           have BK185 := n2_
           have HB := n3_
           clear n0_ n1_ n2_ n3_
           have hHeld : w11.cell? ⟨gb184, 0, none⟩ = some (.int .i64 a0_0) ∧ w11.cell? ⟨gb184, 1, none⟩ = some (.int .i64 a0_1) ∧ w11.cell? ⟨gb184, 2, none⟩ = some (.slice A0_2 l0_2.length c0_2) ∧ w11.cell? ⟨gb184, 3, none⟩ = some (.slice A0_3 l0_3.length c0_3) ∧ w11.cell? ⟨gb184, 4, none⟩ = some (.slice A0_4 l0_4.length c0_4) ∧ w11.cell? ⟨gb184, 5, none⟩ = some (.int .i64 a0_5) ∧ w11.cell? ⟨gb184, 6, none⟩ = some (.int .i64 a0_6) ∧ w11.cell? ⟨gb184, 7, none⟩ = some (.int .i64 a0_7) := hS_
           refine norm_ (a' := ?_) ?_ ?_
           rotate_left
           ·lh78_
            rfl
           refine two_ (i := 8) (j := 12) (Ni := some 11) (Nj := some 15) #[true, true, true, true, true, true, true, true, true, true, true, false, false, true, true, false, true, true, true, true, true, true, false, false] #[true, true, true, true, true, true, true, true, false, true, true, false, true, true, true, false, true, true, true, true, true, true, false, false] rfl rfl rfl rfl (two_of HT_.out (by kernel_rfl)) (by decide) (by decide) (fun K hK => ?_) (fun K hK => ?_)
           ·skip
            lh75_
            intro v193 w12 ho13 hb hg_ hnew_
            clear hg_ hnew_
            (first | rw [← Ny192.out] at ho13 | (simp only [Int.reduceToNat] at ho13; rw [← Ny192.out] at ho13))
            have n0_ := Aside0.mk (Kd.R_elder' (by qR_; exact HO191.out) (Kd.R_base ho13) hb)
            have n1_ := Aside0.mk (Kd.R_lower (Kd.R_new' ho13 (Kd.R_lt (by qR_; exact HO191.out))) (below_size (by qb2_ GE184 GE185)))
            lh79_
            lh710_
            lh711_
            clear HO191
            clear BK184
            clear BK185
            clear HB
            have HO191 := n0_
            have HO194 := n1_
            have BK184 := n2_
            have BK185 := n3_
            have HB := n4_
            clear n0_ n1_ n2_ n3_ n4_
            clear hb ho13
            lh74_
            clear hK K
            refine norm_ (a' := ?_) ?_ ?_
            rotate_left
            ·show Act.put _ (some 11) _ = _
             qp_
             rfl
            exact norm_ (ph70_) (hJ4_7_8 (v187, v190, v193) _ ⟨hHeld, (by qR_; exact Kd.R_mono HO191.out (fun _ hk => hk.2)), (ph73_), (by qk_; exact BK184.out), (by qk_; exact BK185.out), (by qb2_ GE184 GE185)⟩)
           ·skip
            lh76_
            intro v199 w12 ho13 hb hg_ hnew_
            clear hg_ hnew_
            (first | rw [← Ny198.out] at ho13 | (simp only [Int.reduceToNat] at ho13; rw [← Ny198.out] at ho13))
            have n0_ := Aside0.mk (Kd.R_elder' (by qR_; exact HO191.out) (Kd.R_base ho13) hb)
            have n1_ := Aside0.mk (Kd.R_lower (Kd.R_new' ho13 (Kd.R_lt (by qR_; exact HO191.out))) (below_size (by qb2_ GE184 GE185)))
            lh79_
            lh710_
            lh711_
            clear HO191
            clear BK184
            clear BK185
            clear HB
            have HO191 := n0_
            have HO200 := n1_
            have BK184 := n2_
            have BK185 := n3_
            have HB := n4_
            clear n0_ n1_ n2_ n3_ n4_
            clear hb ho13
            lh74_
            clear hK K
            refine norm_ (a' := ?_) ?_ ?_
            rotate_left
            ·show Act.put _ (some 15) _ = _
             qp_
             rfl
            exact norm_ (ph70_) (hJ4_7_12 (v187, v190, v199) _ ⟨hHeld, (by qR_; exact Kd.R_mono HO191.out (fun _ hk => hk.2)), (ph72_), (by qk_; exact BK184.out), (by qk_; exact BK185.out), (by qb2_ GE184 GE185)⟩)
         ·skip
          rintro ⟨v187, v193, v199⟩ w14 ⟨hS_, h0_, h1_, h2_, h3_, h4_, h5_⟩
          have n0_ : Aside0 (Kd.R (Kd.int .u8) 5 w14 w.heap.size (fun k_ => some k_ ≠ (v193 : Value).ownBlock ∧ some k_ ≠ (v199 : Value).ownBlock) v187 y186) := ⟨h0_⟩
          have n1_ : Aside0 (Kd.R (Kd.int .u8) 5 w14 w.heap.size (fun k_ => some k_ ≠ (v187 : Value).ownBlock ∧ some k_ ≠ (v199 : Value).ownBlock) v193 y192) := ⟨h1_⟩
          have n2_ : Aside0 (Kd.R (Kd.int .u8) 5 w14 w.heap.size (fun k_ => some k_ ≠ (v187 : Value).ownBlock ∧ some k_ ≠ (v193 : Value).ownBlock) v199 y198) := ⟨h2_⟩
          have n3_ : Aside0 (w14.heap[gb184]? = some ((oh70_))) := ⟨h3_⟩
          have n4_ : Aside0 (w14.heap[gb185]? = some ((oh71_))) := ⟨h4_⟩
          have n5_ : Aside0 (Below w.heap.size w w14) := ⟨h5_⟩
          clear BK184
          clear BK185
          clear HB
          clear h0_ h1_ h2_ h3_ h4_ h5_
          have HO188 := n0_
          have HO194 := n1_
          have HO200 := n2_
          have BK184 := n3_
          have BK185 := n4_
          have HB := n5_
          clear n0_ n1_ n2_ n3_ n4_ n5_
          lh724_
          refine norm_ (a' := ?_) ?_ ?_
          rotate_left
          ·lh78_
           rfl
          refine one_ (i := 7) (N := some 10) #[true, true, true, true, true, true, true, true, true, true, true, false, true, true, true, false, true, true, true, true, true, true, false, false] rfl rfl (one_of HT_.out (by kernel_rfl)) (by decide) (fun K hK => ?_)
          refine Kd.R_append_rows_step (Kd.int .u8) (w0 := w) w.heap.size (by rfl) (.tmp 7) (.tmp 9) 22 5 (.int .u8 0) 1 rfl Tryd.underlying22 info5 rfl (by decide) (by omega) v187 y186 l0_2 _ _ _ (fun k_ => some k_ ≠ (v193 : Value).ownBlock ∧ some k_ ≠ (v199 : Value).ownBlock) (fun _ => False) rfl rfl ?aO ?aR (fun _ _ h => h) (fun _ h => h.elim) ?aF ?aB ?aS ?aL ?_
          lh715_
          lh716_
          (case aF => exact (fun k_ hk => ⟨Kd.fresh' (Kd.R_lt (by qR_; exact HO194.out)) k_ hk, Kd.fresh' (Kd.R_lt (by qR_; exact HO200.out)) k_ hk⟩))
          (case aO => exact (by qR_; exact HO188.out))
          lh717_
          (case aL => have := LMc2.out; omega)
          intro v190 w15 ho hb hg hat
          rw [← Ny189.out] at ho
          lh718_
          lh719_
          have n2_ := Aside0.mk (Kd.R_after (ok := (fun k_ => some k_ ≠ (v199 : Value).ownBlock)) (by qR_; exact Kd.R_mono HO194.out (fun _ hk => ⟨hk.2, hk.1⟩)) hg hat)
          have n3_ := Aside0.mk (Kd.R_after (ok := (fun k_ => some k_ ≠ (v193 : Value).ownBlock)) (by qR_; exact Kd.R_mono HO200.out (fun _ hk => ⟨hk.2, hk.1⟩)) hg hat)
          have n4_ := Aside0.mk (hb)
          have n5_ := Aside0.mk (ho)
          clear BK184
          clear BK185
          clear HO194
          clear HO200
          clear HB
          clear HO188
          have BK184 := n0_
          have BK185 := n1_
          have HO194 := n2_
          have HO200 := n3_
          have HB := n4_
          have HO191 := n5_
          clear n0_ n1_ n2_ n3_ n4_ n5_
          clear ho hb hg hat
          lh74_
          clear hK K
          refine norm_ (a' := ?_) ?_ ?_
          rotate_left
          ·show Act.put _ (some 10) _ = _
           qp_
           rfl
          exact norm_ (ph70_) (hJ4_7_8_12 (v187, v190, v193, v199) _ ⟨hHeld, (by qR_; exact HO191.out), (by qR_; exact Kd.R_mono HO194.out (fun _ hk => ⟨hk.2, hk.1⟩)), (by qR_; exact Kd.R_mono HO200.out (fun _ hk => ⟨hk.2, hk.1⟩)), (by qk_; exact BK184.out), (by qk_; exact BK185.out), (by qb2_ GE184 GE185)⟩)
        ·skip
         rintro ⟨v187, v190, v199⟩ w13 ⟨hS_, h0_, h1_, h2_, h3_, h4_⟩
         have n0_ : Aside0 (Kd.R (Kd.int .u8) 5 w13 w.heap.size (fun k_ => some k_ ≠ (v199 : Value).ownBlock) v190 y189) := ⟨h0_⟩
         have n1_ : Aside0 (Kd.R (Kd.int .u8) 5 w13 w.heap.size (fun k_ => some k_ ≠ (v190 : Value).ownBlock) v199 y198) := ⟨h1_⟩
         have n2_ : Aside0 (w13.heap[gb184]? = some ((oh70_))) := ⟨h2_⟩
         have n3_ : Aside0 (w13.heap[gb185]? = some ((oh71_))) := ⟨h3_⟩
         have n4_ : Aside0 (Below w.heap.size w w13) := ⟨h4_⟩
         clear BK184
         clear BK185
         clear HB
         clear h0_ h1_ h2_ h3_ h4_
         have HO191 := n0_
         have HO200 := n1_
         have BK184 := n2_
         have BK185 := n3_
         have HB := n4_
         clear n0_ n1_ n2_ n3_ n4_
         lh725_
         refine norm_ (a' := ?_) ?_ ?_
         rotate_left
         ·lh78_
          rfl
         refine one_ (i := 8) (N := some 11) #[true, true, true, true, true, true, true, true, true, true, true, false, true, true, true, false, true, true, true, true, true, true, false, false] rfl rfl (one_of HT_.out (by kernel_rfl)) (by decide) (fun K hK => ?_)
         lh75_
         intro v193 w14 ho15 hb hg_ hnew_
         clear hg_ hnew_
         (first | rw [← Ny192.out] at ho15 | (simp only [Int.reduceToNat] at ho15; rw [← Ny192.out] at ho15))
         have n0_ := Aside0.mk (Kd.R_elder' (by qR_; exact HO191.out) (Kd.R_base ho15) hb)
         have n1_ := Aside0.mk (Kd.R_elder' (by qR_; exact HO200.out) (Kd.R_base ho15) hb)
         have n2_ := Aside0.mk (Kd.R_lower (Kd.R_new' (Kd.R_new' ho15 (Kd.R_lt (by qR_; exact HO191.out))) (Kd.R_lt (by qR_; exact HO200.out))) (below_size (by qb2_ GE184 GE185)))
         lh721_
         lh722_
         lh723_
         clear HO191
         clear HO200
         clear BK184
         clear BK185
         clear HB
         have HO191 := n0_
         have HO200 := n1_
         have HO194 := n2_
         have BK184 := n3_
         have BK185 := n4_
         have HB := n5_
         clear n0_ n1_ n2_ n3_ n4_ n5_
         clear hb ho15
         lh74_
         clear hK K
         refine norm_ (a' := ?_) ?_ ?_
         rotate_left
         ·show Act.put _ (some 11) _ = _
          qp_
          rfl
         exact norm_ (ph70_) (hJ4_7_8_12 (v187, v190, v193, v199) _ ⟨hHeld, (by qR_; exact Kd.R_mono HO191.out (fun _ hk => ⟨hk.2, hk.1⟩)), (by qR_; exact Kd.R_mono HO194.out (fun _ hk => ⟨hk.1.2, hk.2⟩)), (by qR_; exact HO200.out), (by qk_; exact BK184.out), (by qk_; exact BK185.out), (by qb2_ GE184 GE185)⟩)
       ·skip
        rintro ⟨v187, v190, v193⟩ w13 ⟨hS_, h0_, h1_, h2_, h3_, h4_⟩
        have n0_ : Aside0 (Kd.R (Kd.int .u8) 5 w13 w.heap.size (fun k_ => some k_ ≠ (v193 : Value).ownBlock) v190 y189) := ⟨h0_⟩
        have n1_ : Aside0 (Kd.R (Kd.int .u8) 5 w13 w.heap.size (fun k_ => some k_ ≠ (v190 : Value).ownBlock) v193 y192) := ⟨h1_⟩
        have n2_ : Aside0 (w13.heap[gb184]? = some ((oh70_))) := ⟨h2_⟩
        have n3_ : Aside0 (w13.heap[gb185]? = some ((oh71_))) := ⟨h3_⟩
        have n4_ : Aside0 (Below w.heap.size w w13) := ⟨h4_⟩
        clear BK184
        clear BK185
        clear HB
        clear h0_ h1_ h2_ h3_ h4_
        have HO191 := n0_
        have HO194 := n1_
        have BK184 := n2_
        have BK185 := n3_
        have HB := n4_
        clear n0_ n1_ n2_ n3_ n4_
        lh725_
        refine norm_ (a' := ?_) ?_ ?_
        rotate_left
        ·lh78_
         rfl
        refine two_ (i := 11) (j := 12) (Ni := some 14) (Nj := some 15) #[true, true, true, true, true, true, true, true, true, true, true, true, false, true, true, false, true, true, true, true, true, true, false, false] #[true, true, true, true, true, true, true, true, true, true, true, false, true, true, true, false, true, true, true, true, true, true, false, false] rfl rfl rfl rfl (two_of HT_.out (by kernel_rfl)) (by decide) (by decide) (fun K hK => ?_) (fun K hK => ?_)
        ·skip
         refine Kd.R_append_rows_step (Kd.int .u8) (w0 := w) w.heap.size (by rfl) (.tmp 11) (.tmp 13) 22 5 (.int .u8 0) 1 rfl Tryd.underlying22 info5 rfl (by decide) (by omega) v193 y192 l0_3 _ _ _ (fun k_ => some k_ ≠ (v190 : Value).ownBlock) (fun _ => False) rfl rfl ?aO ?aR (fun _ _ h => h) (fun _ h => h.elim) ?aF ?aB ?aS ?aL ?_
         lh726_
         lh716_
         (case aF => exact (fun k_ hk => Kd.fresh' (Kd.R_lt (by qR_; exact HO191.out)) k_ hk))
         (case aO => exact (by qR_; exact HO194.out))
         lh717_
         (case aL => have := LMc3.out; omega)
         intro v196 w14 ho hb hg hat
         rw [← Ny195.out] at ho
         have n0_ := Aside0.mk (blk_grown (g := gb184) (o := (oh70_)) (by qk_; exact BK184.out) hg (Kd.R_ne HO194.out BK184.out (by decide)))
         have n1_ := Aside0.mk (blk_grown (g := gb185) (o := (oh71_)) (by qk_; exact BK185.out) hg (Kd.R_ne HO194.out BK185.out (by decide)))
         have n2_ := Aside0.mk (Kd.R_after (ok := (fun _ => True)) (by qR_; exact Kd.R_mono HO191.out (fun _ hk => ⟨trivial, hk⟩)) hg hat)
         have n3_ := Aside0.mk (hb)
         have n4_ := Aside0.mk (ho)
         clear BK184
         clear BK185
         clear HO191
         clear HB
         clear HO194
         have BK184 := n0_
         have BK185 := n1_
         have HO191 := n2_
         have HB := n3_
         have HO197 := n4_
         clear n0_ n1_ n2_ n3_ n4_
         clear ho hb hg hat
         lh74_
         clear hK K
         refine norm_ (a' := ?_) ?_ ?_
         rotate_left
         ·show Act.put _ (some 14) _ = _
          qp_
          rfl
         exact norm_ (ph70_) (hJ4_7_8_11 (v187, v190, v193, v196) _ ⟨hHeld, (by qR_; exact Kd.R_mono HO191.out (fun _ hk => hk.2)), (by qR_; exact HO197.out), (by qk_; exact BK184.out), (by qk_; exact BK185.out), (by qb2_ GE184 GE185)⟩)
        ·skip
         lh76_
         intro v199 w14 ho15 hb hg_ hnew_
         clear hg_ hnew_
         (first | rw [← Ny198.out] at ho15 | (simp only [Int.reduceToNat] at ho15; rw [← Ny198.out] at ho15))
         have n0_ := Aside0.mk (Kd.R_elder' (by qR_; exact HO191.out) (Kd.R_base ho15) hb)
         have n1_ := Aside0.mk (Kd.R_elder' (by qR_; exact HO194.out) (Kd.R_base ho15) hb)
         have n2_ := Aside0.mk (Kd.R_lower (Kd.R_new' (Kd.R_new' ho15 (Kd.R_lt (by qR_; exact HO191.out))) (Kd.R_lt (by qR_; exact HO194.out))) (below_size (by qb2_ GE184 GE185)))
         lh721_
         lh722_
         lh723_
         clear HO191
         clear HO194
         clear BK184
         clear BK185
         clear HB
         have HO191 := n0_
         have HO194 := n1_
         have HO200 := n2_
         have BK184 := n3_
         have BK185 := n4_
         have HB := n5_
         clear n0_ n1_ n2_ n3_ n4_ n5_
         clear hb ho15
         lh74_
         clear hK K
         refine norm_ (a' := ?_) ?_ ?_
         rotate_left
         ·show Act.put _ (some 15) _ = _
          qp_
          rfl
         exact norm_ (ph70_) (hJ4_7_8_12 (v187, v190, v193, v199) _ ⟨hHeld, (by qR_; exact HO191.out), (by qR_; exact HO194.out), (by qR_; exact Kd.R_mono HO200.out (fun _ hk => ⟨hk.1.2, hk.2⟩)), (by qk_; exact BK184.out), (by qk_; exact BK185.out), (by qb2_ GE184 GE185)⟩)
      ·skip
       rintro ⟨v187, v190, v193, v199⟩ w15 ⟨hS_, h0_, h1_, h2_, h3_, h4_, h5_⟩
       have n0_ : Aside0 (Kd.R (Kd.int .u8) 5 w15 w.heap.size (fun k_ => some k_ ≠ (v193 : Value).ownBlock ∧ some k_ ≠ (v199 : Value).ownBlock) v190 y189) := ⟨h0_⟩
       have n1_ : Aside0 (Kd.R (Kd.int .u8) 5 w15 w.heap.size (fun k_ => some k_ ≠ (v190 : Value).ownBlock ∧ some k_ ≠ (v199 : Value).ownBlock) v193 y192) := ⟨h1_⟩
       have n2_ : Aside0 (Kd.R (Kd.int .u8) 5 w15 w.heap.size (fun k_ => some k_ ≠ (v190 : Value).ownBlock ∧ some k_ ≠ (v193 : Value).ownBlock) v199 y198) := ⟨h2_⟩
       have n3_ : Aside0 (w15.heap[gb184]? = some ((oh70_))) := ⟨h3_⟩
       have n4_ : Aside0 (w15.heap[gb185]? = some ((oh71_))) := ⟨h4_⟩
       have n5_ : Aside0 (Below w.heap.size w w15) := ⟨h5_⟩
       clear BK184
       clear BK185
       clear HB
       clear h0_ h1_ h2_ h3_ h4_ h5_
       have HO191 := n0_
       have HO194 := n1_
       have HO200 := n2_
       have BK184 := n3_
       have BK185 := n4_
       have HB := n5_
       clear n0_ n1_ n2_ n3_ n4_ n5_
       have hHeld : w15.cell? ⟨gb184, 0, none⟩ = some (.int .i64 a0_0) ∧ w15.cell? ⟨gb184, 1, none⟩ = some (.int .i64 a0_1) ∧ w15.cell? ⟨gb184, 2, none⟩ = some (.slice A0_2 l0_2.length c0_2) ∧ w15.cell? ⟨gb184, 3, none⟩ = some (.slice A0_3 l0_3.length c0_3) ∧ w15.cell? ⟨gb184, 4, none⟩ = some (.slice A0_4 l0_4.length c0_4) ∧ w15.cell? ⟨gb184, 5, none⟩ = some (.int .i64 a0_5) ∧ w15.cell? ⟨gb184, 6, none⟩ = some (.int .i64 a0_6) ∧ w15.cell? ⟨gb184, 7, none⟩ = some (.int .i64 a0_7) := hS_
       refine norm_ (a' := ?_) ?_ ?_
       rotate_left
       ·lh78_
        rfl
       refine one_ (i := 11) (N := some 14) #[true, true, true, true, true, true, true, true, true, true, true, true, true, true, true, false, true, true, true, true, true, true, false, false] rfl rfl (one_of HT_.out (by kernel_rfl)) (by decide) (fun K hK => ?_)
       refine Kd.R_append_rows_step (Kd.int .u8) (w0 := w) w.heap.size (by rfl) (.tmp 11) (.tmp 13) 22 5 (.int .u8 0) 1 rfl Tryd.underlying22 info5 rfl (by decide) (by omega) v193 y192 l0_3 _ _ _ (fun k_ => some k_ ≠ (v190 : Value).ownBlock ∧ some k_ ≠ (v199 : Value).ownBlock) (fun _ => False) rfl rfl ?aO ?aR (fun _ _ h => h) (fun _ h => h.elim) ?aF ?aB ?aS ?aL ?_
       lh726_
       lh716_
       (case aF => exact (fun k_ hk => ⟨Kd.fresh' (Kd.R_lt (by qR_; exact HO191.out)) k_ hk, Kd.fresh' (Kd.R_lt (by qR_; exact HO200.out)) k_ hk⟩))
       (case aO => exact (by qR_; exact HO194.out))
       lh717_
       (case aL => have := LMc3.out; omega)
       intro v196 w16 ho hb hg hat
       rw [← Ny195.out] at ho
       have n0_ := Aside0.mk (blk_grown (g := gb184) (o := (oh70_)) (by qk_; exact BK184.out) hg (Kd.R_ne HO194.out BK184.out (by decide)))
       have n1_ := Aside0.mk (blk_grown (g := gb185) (o := (oh71_)) (by qk_; exact BK185.out) hg (Kd.R_ne HO194.out BK185.out (by decide)))
       have n2_ := Aside0.mk (Kd.R_after (ok := (fun k_ => some k_ ≠ (v199 : Value).ownBlock)) (by qR_; exact Kd.R_mono HO191.out (fun _ hk => ⟨hk.2, hk.1⟩)) hg hat)
       have n3_ := Aside0.mk (Kd.R_after (ok := (fun k_ => some k_ ≠ (v190 : Value).ownBlock)) (by qR_; exact HO200.out) hg hat)
       have n4_ := Aside0.mk (hb)
       have n5_ := Aside0.mk (ho)
       clear BK184
       clear BK185
       clear HO191
       clear HO200
       clear HB
       clear HO194
       have BK184 := n0_
       have BK185 := n1_
       have HO191 := n2_
       have HO200 := n3_
       have HB := n4_
       have HO197 := n5_
       clear n0_ n1_ n2_ n3_ n4_ n5_
       clear ho hb hg hat
       lh74_
       clear hK K
       refine norm_ (a' := ?_) ?_ ?_
       rotate_left
       ·show Act.put _ (some 14) _ = _
        qp_
        rfl
       exact norm_ (ph70_) (hJ4_7_8_11_12 (v187, v190, v193, v196, v199) _ ⟨hHeld, (by qR_; exact Kd.R_mono HO191.out (fun _ hk => ⟨hk.2, hk.1⟩)), (by qR_; exact HO197.out), (by qR_; exact HO200.out), (by qk_; exact BK184.out), (by qk_; exact BK185.out), (by qb2_ GE184 GE185)⟩)
     ·skip
      rintro ⟨v187, v190, v193, v196⟩ w14 ⟨hS_, h0_, h1_, h2_, h3_, h4_⟩
      have n0_ : Aside0 (Kd.R (Kd.int .u8) 5 w14 w.heap.size (fun k_ => some k_ ≠ (v196 : Value).ownBlock) v190 y189) := ⟨h0_⟩
      have n1_ : Aside0 (Kd.R (Kd.int .u8) 5 w14 w.heap.size (fun k_ => some k_ ≠ (v190 : Value).ownBlock) v196 y195) := ⟨h1_⟩
      have n2_ : Aside0 (w14.heap[gb184]? = some ((oh70_))) := ⟨h2_⟩
      have n3_ : Aside0 (w14.heap[gb185]? = some ((oh71_))) := ⟨h3_⟩
      have n4_ : Aside0 (Below w.heap.size w w14) := ⟨h4_⟩
      clear BK184
      clear BK185
      clear HB
      clear h0_ h1_ h2_ h3_ h4_
      have HO191 := n0_
      have HO197 := n1_
      have BK184 := n2_
      have BK185 := n3_
      have HB := n4_
      clear n0_ n1_ n2_ n3_ n4_
      lh724_
      refine norm_ (a' := ?_) ?_ ?_
      rotate_left
      ·lh78_
       rfl
      refine one_ (i := 12) (N := some 15) #[true, true, true, true, true, true, true, true, true, true, true, true, true, true, true, false, true, true, true, true, true, true, false, false] rfl rfl (one_of HT_.out (by kernel_rfl)) (by decide) (fun K hK => ?_)
      lh76_
      intro v199 w15 ho16 hb hg_ hnew_
      clear hg_ hnew_
      (first | rw [← Ny198.out] at ho16 | (simp only [Int.reduceToNat] at ho16; rw [← Ny198.out] at ho16))
      have n0_ := Aside0.mk (Kd.R_elder' (by qR_; exact HO191.out) (Kd.R_base ho16) hb)
      have n1_ := Aside0.mk (Kd.R_elder' (by qR_; exact HO197.out) (Kd.R_base ho16) hb)
      have n2_ := Aside0.mk (Kd.R_lower (Kd.R_new' (Kd.R_new' ho16 (Kd.R_lt (by qR_; exact HO191.out))) (Kd.R_lt (by qR_; exact HO197.out))) (below_size (by qb2_ GE184 GE185)))
      lh721_
      lh722_
      lh723_
      clear HO191
      clear HO197
      clear BK184
      clear BK185
      clear HB
      have HO191 := n0_
      have HO197 := n1_
      have HO200 := n2_
      have BK184 := n3_
      have BK185 := n4_
      have HB := n5_
      clear n0_ n1_ n2_ n3_ n4_ n5_
      clear hb ho16
      lh74_
      clear hK K
      refine norm_ (a' := ?_) ?_ ?_
      rotate_left
      ·show Act.put _ (some 15) _ = _
       qp_
       rfl
      exact norm_ (ph70_) (hJ4_7_8_11_12 (v187, v190, v193, v196, v199) _ ⟨hHeld, (by qR_; exact HO191.out), (by qR_; exact HO197.out), (by qR_; exact Kd.R_mono HO200.out (fun _ hk => ⟨hk.1.2, hk.2⟩)), (by qk_; exact BK184.out), (by qk_; exact BK185.out), (by qb2_ GE184 GE185)⟩)
    rintro ⟨v187, v190, v193, v196, v199⟩ w16 ⟨hS_, h0_, h1_, h2_, h3_, h4_, h5_⟩
    have n0_ : Aside0 (Kd.R (Kd.int .u8) 5 w16 w.heap.size (fun k_ => some k_ ≠ (v196 : Value).ownBlock ∧ some k_ ≠ (v199 : Value).ownBlock) v190 y189) := ⟨h0_⟩
    have n1_ : Aside0 (Kd.R (Kd.int .u8) 5 w16 w.heap.size (fun k_ => some k_ ≠ (v190 : Value).ownBlock ∧ some k_ ≠ (v199 : Value).ownBlock) v196 y195) := ⟨h1_⟩
    have n2_ : Aside0 (Kd.R (Kd.int .u8) 5 w16 w.heap.size (fun k_ => some k_ ≠ (v190 : Value).ownBlock ∧ some k_ ≠ (v196 : Value).ownBlock) v199 y198) := ⟨h2_⟩
    have n3_ : Aside0 (w16.heap[gb184]? = some ((oh70_))) := ⟨h3_⟩
    have n4_ : Aside0 (w16.heap[gb185]? = some ((oh71_))) := ⟨h4_⟩
    have n5_ : Aside0 (Below w.heap.size w w16) := ⟨h5_⟩
    clear BK184
    clear BK185
    clear HB
    clear h0_ h1_ h2_ h3_ h4_ h5_
    have HO191 := n0_
    have HO197 := n1_
    have HO200 := n2_
    have BK184 := n3_
    have BK185 := n4_
    have HB := n5_
    clear n0_ n1_ n2_ n3_ n4_ n5_
    have hHeld : w16.cell? ⟨gb184, 0, none⟩ = some (.int .i64 a0_0) ∧ w16.cell? ⟨gb184, 1, none⟩ = some (.int .i64 a0_1) ∧ w16.cell? ⟨gb184, 2, none⟩ = some (.slice A0_2 l0_2.length c0_2) ∧ w16.cell? ⟨gb184, 3, none⟩ = some (.slice A0_3 l0_3.length c0_3) ∧ w16.cell? ⟨gb184, 4, none⟩ = some (.slice A0_4 l0_4.length c0_4) ∧ w16.cell? ⟨gb184, 5, none⟩ = some (.int .i64 a0_5) ∧ w16.cell? ⟨gb184, 6, none⟩ = some (.int .i64 a0_6) ∧ w16.cell? ⟨gb184, 7, none⟩ = some (.int .i64 a0_7) := hS_
    refine norm_ (a' := ?_) ?_ ?_
    rotate_left
    ·lh78_
     rfl
    refine one_ (i := 15) (N := some 18) #[true, true, true, true, true, true, true, true, true, true, true, true, true, true, true, true, true, true, true, true, true, true, false, false] rfl rfl (one_of HT_.out (by kernel_rfl)) (by decide) (fun K hK => ?_)
    refine Kd.R_append_rows_step (Kd.int .u8) (w0 := w) w.heap.size (by rfl) (.tmp 15) (.tmp 17) 22 5 (.int .u8 0) 1 rfl Tryd.underlying22 info5 rfl (by decide) (by omega) v199 y198 l0_4 _ _ _ (fun k_ => some k_ ≠ (v190 : Value).ownBlock ∧ some k_ ≠ (v196 : Value).ownBlock) (fun _ => False) rfl rfl ?aO ?aR (fun _ _ h => h) (fun _ h => h.elim) ?aF ?aB ?aS ?aL ?_
    (case aR => repeat (first | exact (Kd.C_below HR0_4.out HB.out) | exact HR0_4.out | (with_reducible refine Kd.C_alloc ?_ _) | (with_reducible refine Kd.C_drewN ?_ _) | (with_reducible refine Kd.C_drew ?_)))
    lh716_
    (case aF => exact (fun k_ hk => ⟨Kd.fresh' (Kd.R_lt (by qR_; exact HO191.out)) k_ hk, Kd.fresh' (Kd.R_lt (by qR_; exact HO197.out)) k_ hk⟩))
    (case aO => exact (by qR_; exact HO200.out))
    lh717_
    (case aL => have := LMc4.out; omega)
    intro v202 w17 ho hb hg hat
    rw [← Ny201.out] at ho
    have n0_ := Aside0.mk (blk_grown (g := gb184) (o := (oh70_)) (by qk_; exact BK184.out) hg (Kd.R_ne HO200.out BK184.out (by decide)))
    have n1_ := Aside0.mk (blk_grown (g := gb185) (o := (oh71_)) (by qk_; exact BK185.out) hg (Kd.R_ne HO200.out BK185.out (by decide)))
    have n2_ := Aside0.mk (Kd.R_after (ok := (fun k_ => some k_ ≠ (v196 : Value).ownBlock)) (by qR_; exact HO191.out) hg hat)
    have n3_ := Aside0.mk (Kd.R_after (ok := (fun k_ => some k_ ≠ (v190 : Value).ownBlock)) (by qR_; exact HO197.out) hg hat)
    have n4_ := Aside0.mk (hb)
    have n5_ := Aside0.mk (ho)
    clear BK184
    clear BK185
    clear HO191
    clear HO197
    clear HB
    clear HO200
    have BK184 := n0_
    have BK185 := n1_
    have HO191 := n2_
    have HO197 := n3_
    have HB := n4_
    have HO203 := n5_
    clear n0_ n1_ n2_ n3_ n4_ n5_
    clear ho hb hg hat
    obtain ⟨Ao18, co18, eo18⟩ := Kd.R_slice HO203.out
    (first | subst eo18 | (injection eo18 with f1_ f2_ f3_; have f4_ := f1_.symm; have f5_ := f3_.symm; clear f1_ f2_ f3_; subst f4_; subst f5_))
    obtain ⟨Ao19, co19, eo19⟩ := Kd.R_slice HO197.out
    (first | subst eo19 | (injection eo19 with f1_ f2_ f3_; have f4_ := f1_.symm; have f5_ := f3_.symm; clear f1_ f2_ f3_; subst f4_; subst f5_))
    obtain ⟨Ao20, co20, eo20⟩ := Kd.R_slice HO191.out
    (first | subst eo20 | (injection eo20 with f1_ f2_ f3_; have f4_ := f1_.symm; have f5_ := f3_.symm; clear f1_ f2_ f3_; subst f4_; subst f5_))
    lh74_
    clear hK K
    refine norm_ (a' := ?_) ?_ ?_
    rotate_left
    ·show Act.put _ (some 18) _ = _
     qp_
     rfl
    refine pure_ (i := 22) (N := some 25) (v := ?_) (a' := ?_) #[true, true, true, true, true, true, true, true, true, true, true, true, true, true, true, true, true, true, true, true, true, true, true, false] rfl rfl (any_of HT_.out (by kernel_rfl)) (fun _ _ _ h => h) (Or.inl ⟨by rfl, ?_⟩) ?_ ?_
    rotate_left
    ·intro w'
     go_simp
     with_reducible rfl
    rotate_left
    ·qp_
     rfl
    refine one_ (i := 23) (N := none) #[true, true, true, true, true, true, true, true, true, true, true, true, true, true, true, true, true, true, true, true, true, true, true, true] rfl rfl (one_of HT_.out (by kernel_rfl)) (by decide) (fun K hK => ?_)
    have hs21 : w17.cell? ⟨gb185, 0, none⟩ = some (.int .i64 0) := (blk_cell BK185.out 0).trans rfl
    have hfs21 := blk_frozen BK185.out 0
    have hns21_0 := NB184_185.out
    have hms21_0 := NB185_184.out
    have hs22 : w17.cell? ⟨gb185, 1, none⟩ = some (.int .i64 0) := (blk_cell BK185.out 1).trans rfl
    have hfs22 := blk_frozen BK185.out 1
    have hns22_0 := NB184_185.out
    have hms22_0 := NB185_184.out
    have hs23 : w17.cell? ⟨gb185, 2, none⟩ = some (.slice none 0 0) := (blk_cell BK185.out 2).trans rfl
    have hfs23 := blk_frozen BK185.out 2
    have hns23_0 := NB184_185.out
    have hms23_0 := NB185_184.out
    have hs24 : w17.cell? ⟨gb185, 3, none⟩ = some (.slice none 0 0) := (blk_cell BK185.out 3).trans rfl
    have hfs24 := blk_frozen BK185.out 3
    have hns24_0 := NB184_185.out
    have hms24_0 := NB185_184.out
    have hs25 : w17.cell? ⟨gb185, 4, none⟩ = some (.slice none 0 0) := (blk_cell BK185.out 4).trans rfl
    have hfs25 := blk_frozen BK185.out 4
    have hns25_0 := NB184_185.out
    have hms25_0 := NB185_184.out
    have hs26 : w17.cell? ⟨gb185, 5, none⟩ = some (.int .i64 0) := (blk_cell BK185.out 5).trans rfl
    have hfs26 := blk_frozen BK185.out 5
    have hns26_0 := NB184_185.out
    have hms26_0 := NB185_184.out
    have hs27 : w17.cell? ⟨gb185, 6, none⟩ = some (.int .i64 0) := (blk_cell BK185.out 6).trans rfl
    have hfs27 := blk_frozen BK185.out 6
    have hns27_0 := NB184_185.out
    have hms27_0 := NB185_184.out
    have hs28 : w17.cell? ⟨gb185, 7, none⟩ = some (.int .i64 0) := (blk_cell BK185.out 7).trans rfl
    have hfs28 := blk_frozen BK185.out 7
    have hns28_0 := NB184_185.out
    have hms28_0 := NB185_184.out
    refine skip_ (w1 := ?_) (by rfl) rfl ?_ ?_
    rotate_left
    ·go_simp
     rfl
    refine hK.out _ _ ⟨((cell_far (p := ⟨gb185, _, none⟩) NB184_185.out _).trans (((cell_far (p := ⟨gb185, _, none⟩) NB184_185.out _).trans (((cell_far (p := ⟨gb185, _, none⟩) NB184_185.out _).trans (((cell_far (p := ⟨gb185, _, none⟩) NB184_185.out _).trans (((cell_far (p := ⟨gb185, _, none⟩) NB184_185.out _).trans (((cell_far (p := ⟨gb185, _, none⟩) NB184_185.out _).trans (((cell_far (p := ⟨gb185, _, none⟩) NB184_185.out _).trans (((cell_far (p := ⟨gb185, _, none⟩) NB184_185.out _).trans (hHeld.1)))))))))))))))), ((cell_far (p := ⟨gb185, _, none⟩) NB184_185.out _).trans (((cell_far (p := ⟨gb185, _, none⟩) NB184_185.out _).trans (((cell_far (p := ⟨gb185, _, none⟩) NB184_185.out _).trans (((cell_far (p := ⟨gb185, _, none⟩) NB184_185.out _).trans (((cell_far (p := ⟨gb185, _, none⟩) NB184_185.out _).trans (((cell_far (p := ⟨gb185, _, none⟩) NB184_185.out _).trans (((cell_far (p := ⟨gb185, _, none⟩) NB184_185.out _).trans (((cell_far (p := ⟨gb185, _, none⟩) NB184_185.out _).trans (hHeld.2.1)))))))))))))))), ((cell_far (p := ⟨gb185, _, none⟩) NB184_185.out _).trans (((cell_far (p := ⟨gb185, _, none⟩) NB184_185.out _).trans (((cell_far (p := ⟨gb185, _, none⟩) NB184_185.out _).trans (((cell_far (p := ⟨gb185, _, none⟩) NB184_185.out _).trans (((cell_far (p := ⟨gb185, _, none⟩) NB184_185.out _).trans (((cell_far (p := ⟨gb185, _, none⟩) NB184_185.out _).trans (((cell_far (p := ⟨gb185, _, none⟩) NB184_185.out _).trans (((cell_far (p := ⟨gb185, _, none⟩) NB184_185.out _).trans (hHeld.2.2.1)))))))))))))))), ((cell_far (p := ⟨gb185, _, none⟩) NB184_185.out _).trans (((cell_far (p := ⟨gb185, _, none⟩) NB184_185.out _).trans (((cell_far (p := ⟨gb185, _, none⟩) NB184_185.out _).trans (((cell_far (p := ⟨gb185, _, none⟩) NB184_185.out _).trans (((cell_far (p := ⟨gb185, _, none⟩) NB184_185.out _).trans (((cell_far (p := ⟨gb185, _, none⟩) NB184_185.out _).trans (((cell_far (p := ⟨gb185, _, none⟩) NB184_185.out _).trans (((cell_far (p := ⟨gb185, _, none⟩) NB184_185.out _).trans (hHeld.2.2.2.1)))))))))))))))), ((cell_far (p := ⟨gb185, _, none⟩) NB184_185.out _).trans (((cell_far (p := ⟨gb185, _, none⟩) NB184_185.out _).trans (((cell_far (p := ⟨gb185, _, none⟩) NB184_185.out _).trans (((cell_far (p := ⟨gb185, _, none⟩) NB184_185.out _).trans (((cell_far (p := ⟨gb185, _, none⟩) NB184_185.out _).trans (((cell_far (p := ⟨gb185, _, none⟩) NB184_185.out _).trans (((cell_far (p := ⟨gb185, _, none⟩) NB184_185.out _).trans (((cell_far (p := ⟨gb185, _, none⟩) NB184_185.out _).trans (hHeld.2.2.2.2.1)))))))))))))))), ((cell_far (p := ⟨gb185, _, none⟩) NB184_185.out _).trans (((cell_far (p := ⟨gb185, _, none⟩) NB184_185.out _).trans (((cell_far (p := ⟨gb185, _, none⟩) NB184_185.out _).trans (((cell_far (p := ⟨gb185, _, none⟩) NB184_185.out _).trans (((cell_far (p := ⟨gb185, _, none⟩) NB184_185.out _).trans (((cell_far (p := ⟨gb185, _, none⟩) NB184_185.out _).trans (((cell_far (p := ⟨gb185, _, none⟩) NB184_185.out _).trans (((cell_far (p := ⟨gb185, _, none⟩) NB184_185.out _).trans (hHeld.2.2.2.2.2.1)))))))))))))))), ((cell_far (p := ⟨gb185, _, none⟩) NB184_185.out _).trans (((cell_far (p := ⟨gb185, _, none⟩) NB184_185.out _).trans (((cell_far (p := ⟨gb185, _, none⟩) NB184_185.out _).trans (((cell_far (p := ⟨gb185, _, none⟩) NB184_185.out _).trans (((cell_far (p := ⟨gb185, _, none⟩) NB184_185.out _).trans (((cell_far (p := ⟨gb185, _, none⟩) NB184_185.out _).trans (((cell_far (p := ⟨gb185, _, none⟩) NB184_185.out _).trans (((cell_far (p := ⟨gb185, _, none⟩) NB184_185.out _).trans (hHeld.2.2.2.2.2.2.1)))))))))))))))), ((cell_far (p := ⟨gb185, _, none⟩) NB184_185.out _).trans (((cell_far (p := ⟨gb185, _, none⟩) NB184_185.out _).trans (((cell_far (p := ⟨gb185, _, none⟩) NB184_185.out _).trans (((cell_far (p := ⟨gb185, _, none⟩) NB184_185.out _).trans (((cell_far (p := ⟨gb185, _, none⟩) NB184_185.out _).trans (((cell_far (p := ⟨gb185, _, none⟩) NB184_185.out _).trans (((cell_far (p := ⟨gb185, _, none⟩) NB184_185.out _).trans (((cell_far (p := ⟨gb185, _, none⟩) NB184_185.out _).trans (hHeld.2.2.2.2.2.2.2))))))))))))))))⟩ (fun hHeld => ?_)
    clear hK K
    refine done_ (done_of HT_.out (by kernel_rfl)) ?_
    try go_wp2
    refine bodyPost_ret (results_cell_row rfl _ _ gb185 33 #[.int .i64 a0_0, .int .i64 a0_1, .slice Ao20 y189.length co20, .slice Ao19 y195.length co19, .slice Ao18 y201.length co18, .int .i64 a0_5, .int .i64 a0_6, .int .i64 a0_7] (0, 0) _ rfl (by qk_; refine blk_put (cs := #[.int .i64 a0_0, .int .i64 a0_1, .slice Ao20 y189.length co20, .slice Ao19 y195.length co19, .slice Ao18 y201.length co18, .int .i64 a0_5, .int .i64 a0_6, .int .i64 0]) ?_ 7 _ rfl; qk_; refine blk_put (cs := #[.int .i64 a0_0, .int .i64 a0_1, .slice Ao20 y189.length co20, .slice Ao19 y195.length co19, .slice Ao18 y201.length co18, .int .i64 a0_5, .int .i64 0, .int .i64 0]) ?_ 6 _ rfl; qk_; refine blk_put (cs := #[.int .i64 a0_0, .int .i64 a0_1, .slice Ao20 y189.length co20, .slice Ao19 y195.length co19, .slice Ao18 y201.length co18, .int .i64 0, .int .i64 0, .int .i64 0]) ?_ 5 _ rfl; qk_; refine blk_put (cs := #[.int .i64 a0_0, .int .i64 a0_1, .slice Ao20 y189.length co20, .slice Ao19 y195.length co19, .slice none 0 0, .int .i64 0, .int .i64 0, .int .i64 0]) ?_ 4 _ rfl; qk_; refine blk_put (cs := #[.int .i64 a0_0, .int .i64 a0_1, .slice Ao20 y189.length co20, .slice none 0 0, .slice none 0 0, .int .i64 0, .int .i64 0, .int .i64 0]) ?_ 3 _ rfl; qk_; refine blk_put (cs := #[.int .i64 a0_0, .int .i64 a0_1, .slice none 0 0, .slice none 0 0, .slice none 0 0, .int .i64 0, .int .i64 0, .int .i64 0]) ?_ 2 _ rfl; qk_; refine blk_put (cs := #[.int .i64 a0_0, .int .i64 0, .slice none 0 0, .slice none 0 0, .slice none 0 0, .int .i64 0, .int .i64 0, .int .i64 0]) ?_ 1 _ rfl; qk_; refine blk_put (cs := #[.int .i64 0, .int .i64 0, .slice none 0 0, .slice none 0 0, .slice none 0 0, .int .i64 0, .int .i64 0, .int .i64 0]) ?_ 0 _ rfl; qk_; exact BK185.out) Tryd.underlying33 rfl (by kernel_rfl)) rfl ?_
    exact ⟨_, _, _, by first | rfl | (simp [errW_none, errW_some] <;> rfl) | (simp [*, errW_none, errW_some] <;> rfl), by qR_; exact Kd.R_mono (Kd.R_far (p := ⟨gb185, 7, none⟩) (Kd.R_far (p := ⟨gb185, 6, none⟩) (Kd.R_far (p := ⟨gb185, 5, none⟩) (Kd.R_far (p := ⟨gb185, 4, none⟩) (Kd.R_far (p := ⟨gb185, 3, none⟩) (Kd.R_far (p := ⟨gb185, 2, none⟩) (Kd.R_far (p := ⟨gb185, 1, none⟩) (Kd.R_far (p := ⟨gb185, 0, none⟩) (Kd.R_types HO191.out BK185.out (by decide)) (fun _ hk => hk.2) (.int .i64 a0_0)) (fun _ hk => hk.2) (.int .i64 a0_1)) (fun _ hk => hk.2) (.slice Ao20 y189.length co20)) (fun _ hk => hk.2) (.slice Ao19 y195.length co19)) (fun _ hk => hk.2) (.slice Ao18 y201.length co18)) (fun _ hk => hk.2) (.int .i64 a0_5)) (fun _ hk => hk.2) (.int .i64 a0_6)) (fun _ hk => hk.2) (.int .i64 a0_7)) (fun _ hk => ⟨hk.1.1, hk.1.2⟩), by qR_; exact Kd.R_mono (Kd.R_far (p := ⟨gb185, 7, none⟩) (Kd.R_far (p := ⟨gb185, 6, none⟩) (Kd.R_far (p := ⟨gb185, 5, none⟩) (Kd.R_far (p := ⟨gb185, 4, none⟩) (Kd.R_far (p := ⟨gb185, 3, none⟩) (Kd.R_far (p := ⟨gb185, 2, none⟩) (Kd.R_far (p := ⟨gb185, 1, none⟩) (Kd.R_far (p := ⟨gb185, 0, none⟩) (Kd.R_types HO197.out BK185.out (by decide)) (fun _ hk => hk.2) (.int .i64 a0_0)) (fun _ hk => hk.2) (.int .i64 a0_1)) (fun _ hk => hk.2) (.slice Ao20 y189.length co20)) (fun _ hk => hk.2) (.slice Ao19 y195.length co19)) (fun _ hk => hk.2) (.slice Ao18 y201.length co18)) (fun _ hk => hk.2) (.int .i64 a0_5)) (fun _ hk => hk.2) (.int .i64 a0_6)) (fun _ hk => hk.2) (.int .i64 a0_7)) (fun _ hk => ⟨hk.1.1, hk.1.2⟩), by qR_; exact Kd.R_mono (Kd.R_far (p := ⟨gb185, 7, none⟩) (Kd.R_far (p := ⟨gb185, 6, none⟩) (Kd.R_far (p := ⟨gb185, 5, none⟩) (Kd.R_far (p := ⟨gb185, 4, none⟩) (Kd.R_far (p := ⟨gb185, 3, none⟩) (Kd.R_far (p := ⟨gb185, 2, none⟩) (Kd.R_far (p := ⟨gb185, 1, none⟩) (Kd.R_far (p := ⟨gb185, 0, none⟩) (Kd.R_types HO203.out BK185.out (by decide)) (fun _ hk => hk.2) (.int .i64 a0_0)) (fun _ hk => hk.2) (.int .i64 a0_1)) (fun _ hk => hk.2) (.slice Ao20 y189.length co20)) (fun _ hk => hk.2) (.slice Ao19 y195.length co19)) (fun _ hk => hk.2) (.slice Ao18 y201.length co18)) (fun _ hk => hk.2) (.int .i64 a0_5)) (fun _ hk => hk.2) (.int .i64 a0_6)) (fun _ hk => hk.2) (.int .i64 a0_7)) (fun _ hk => ⟨hk.1.1, hk.1.2⟩), by qb2_ GE184 GE185⟩
   ·rw [if_neg c4] at H
    exact absurd H (by simp)
  ·rw [if_neg c3] at H
   exact absurd H (by simp)
 ·rw [if_neg c2] at H
  exact absurd H (by simp)
end Go.Proofs.YtpihkmpcnkhnfaaDoor.QHe
