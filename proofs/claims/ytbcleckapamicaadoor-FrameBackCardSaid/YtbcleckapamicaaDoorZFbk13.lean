/- A part of the proof of the law FrameBack: QFdx2, QFdx3, Opn. -/
import Derived.Test.YtbcleckapamicaaDoorZFbk02
import Derived.Test.YtbcleckapamicaaDoorZFbk10
import Derived.Test.YtbcleckapamicaaDoorZFbk12
import Derived.Test.YtbcleckapamicaaDoorZFbk00
import Derived.Deep.Slices
import Derived.WideShapes
import Derived.ProofKit
namespace Go.Proofs.YtbcleckapamicaaDoor.QFd
open Go.Proofs.YtbcleckapamicaaDoor.QFr (S102 S103 at_T102 at_T103 k102 k103 rd_T102 rd_T103)
open Go.RowKit Go.Proofs.YtbcleckapamicaaDoorW.PrintWords Go.Proofs.YtbcleckapamicaaDoorW.PrintLast Go.Proofs.YtbcleckapamicaaDoorW.PrintMore
attribute [local go_sem] max2_int min2_int max_two min_two max_three min_three max_four min_four
set_option linter.unusedVariables false
set_option linter.unusedSimpArgs false
open Go.Proofs.YtbcleckapamicaaDoor.QFr (shibbolethlaw06_same.f shibbolethlaw06_same.calls shibbolethlaw06_same.mono)
set_option hygiene false
local macro "oz250_" : term => `(.cells #[.int .i64 a0_0, .int .i64 a0_1, .slice A0_2 l0_2.length c0_2, .int .i64 a0_3, .slice A0_4 l0_4.length c0_4, .int .i64 a0_5] 58 (0, 0))
local macro "pz250_" : term => `((shibbolethlaw06_told.j0 k true a0_0 a0_1 l0_2 a0_3 l0_4 a0_5 a1_0 a1_1 l1_2 a1_3 l1_4 a1_5))
local macro "pz251_" : term => `((by first | (with_reducible assumption) | assumption))
local macro "pz252_" : term => `((shibbolethlaw06_told.j0 k ((l0_2.length : Int) != (l1_2.length : Int)) a0_0 a0_1 l0_2 a0_3 l0_4 a0_5 a1_0 a1_1 l1_2 a1_3 l1_4 a1_5))
local macro "pz253_" : term => `((by rw [hg]; exact (below_size (by qb1_ GE101)) : w.heap.size ≤ gb102))
local macro "pz254_" : term => `((by first | rfl | (simp; done) | (simp [*]; done)))
local macro "pz255_" : term => `((by rw [hg]; exact (below_size (by qc0_)) : w.heap.size ≤ gb101))
local macro "pz256_" : term => `((by rw [hg]; exact Nat.ne_of_lt (blk_lt (g := gb101) (o := (oz250_)) (by qk_; exact BK101.out)) : gb101 ≠ gb102))
local macro "pz257_" : term => `((by rw [hg]; exact Nat.ne_of_gt (blk_lt (g := gb101) (o := (oz250_)) (by qk_; exact BK101.out)) : gb102 ≠ gb101))
local macro "pz258_" : term => `((shibbolethlaw06_same.calls k _ _ l0_4 _ _ l1_4 false _ ?side1 ?side2 ?side3 ?side4 A10.out))
local macro "pz259_" : term => `((shibbolethlaw06_same.calls k _ _ l0_4 _ _ l1_4 true _ ?side1 ?side2 ?side3 ?side4 A10.out))
local macro "lz250_" : tactic => `(tactic| (exact ⟨by first | rfl | (simp [errW_none, errW_some] <;> rfl) | (simp [*, errW_none, errW_some] <;> rfl), by qb2_ GE101 GE102⟩))
local macro "lz251_" : tactic => `(tactic| (obtain ⟨ad104, e104, hx104_0, hx104_1⟩ := at_T103 HR0_2.out x5_2 p104 q104))
local macro "lz252_" : tactic => `(tactic| (replace hx104_0 := (HB.out.cell (World.block_lt_of_cell? w _ hx104_0)).trans hx104_0))
local macro "lz253_" : tactic => `(tactic| (replace hx104_1 := (HB.out.cell (World.block_lt_of_cell? w _ hx104_1)).trans hx104_1))
local macro "lz254_" : tactic => `(tactic| (obtain ⟨ad105, e105, hx105_0, hx105_1⟩ := at_T102 HR1_2.out x5_2 p105 q105))
local macro "lz255_" : tactic => `(tactic| (replace hx105_0 := (HB.out.cell (World.block_lt_of_cell? w _ hx105_0)).trans hx105_0))
local macro "lz256_" : tactic => `(tactic| (replace hx105_1 := (HB.out.cell (World.block_lt_of_cell? w _ hx105_1)).trans hx105_1))
set_option hygiene true
mutual
def shibbolethlaw06_told.j0 : Nat → Bool → Int → Int → List (S103) → Int → List Int → Int → Int → Int → List (S102) → Int → List Int → Int → Option (Bool)
 | 0, _, _, _, _, _, _, _, _, _, _, _, _, _ => none
 | k + 1, x48, x102000, x102001, x102002, x102003, x102004, x102005, x103000, x103001, x103002, x103003, x103004, x103005 => if x48 = true then (some false) else (shibbolethlaw06_told.l0 k 0 x102000 x102001 x102002 x102003 x102004 x102005 x103000 x103001 x103002 x103003 x103004 x103005)
def shibbolethlaw06_told.l0 : Nat → Int → Int → Int → List (S103) → Int → List Int → Int → Int → Int → List (S102) → Int → List Int → Int → Option (Bool)
 | 0, _, _, _, _, _, _, _, _, _, _, _, _, _ => none
 | k + 1, x5, x102000, x102001, x102002, x102003, x102004, x102005, x103000, x103001, x103002, x103003, x103004, x103005 => if x5 < (x103002.length : Int) then (if 0 ≤ x5 then (if x5 < (x102002.length : Int) then (if ((rd_T103 x102002 x5).f0) = ((rd_T102 x103002 x5).f0) then (if ((rd_T103 x102002 x5).f1) = ((rd_T102 x103002 x5).f1) then (shibbolethlaw06_told.l0 k (wrap64 (x5 + 1)) x102000 x102001 x102002 x102003 x102004 x102005 x103000 x103001 x103002 x103003 x103004 x103005) else (some false)) else (some false)) else (none)) else (none)) else (some true)
end
def shibbolethlaw06_told.f (k : Nat) (a0_0 : Int) (a0_1 : Int) (l0_2 : List (S103)) (a0_3 : Int) (l0_4 : List Int) (a0_5 : Int) (a1_0 : Int) (a1_1 : Int) (l1_2 : List (S102)) (a1_3 : Int) (l1_4 : List Int) (a1_5 : Int) : Option (Bool) := if a0_0 = a1_0 then (if a0_1 = a1_1 then (if a0_3 = a1_3 then (if a0_5 = a1_5 then ((shibbolethlaw06_same.f k l0_4 l1_4).bind fun t103 => (if t103 = true then (pz252_) else (pz250_))) else (pz250_)) else (pz250_)) else (pz250_)) else (pz250_)
theorem shibbolethlaw06_told.mono_l : ∀ k, (∀ y0 y1 y2 y3 y4 y5 y6 y7 y8 y9 y10 y11 y12, LeO (shibbolethlaw06_told.j0 k y0 y1 y2 y3 y4 y5 y6 y7 y8 y9 y10 y11 y12) (shibbolethlaw06_told.j0 (k + 1) y0 y1 y2 y3 y4 y5 y6 y7 y8 y9 y10 y11 y12)) ∧ (∀ y0 y1 y2 y3 y4 y5 y6 y7 y8 y9 y10 y11 y12, LeO (shibbolethlaw06_told.l0 k y0 y1 y2 y3 y4 y5 y6 y7 y8 y9 y10 y11 y12) (shibbolethlaw06_told.l0 (k + 1) y0 y1 y2 y3 y4 y5 y6 y7 y8 y9 y10 y11 y12))
 | 0 => ⟨fun _ _ _ _ _ _ _ _ _ _ _ _ _ r h => by simp [shibbolethlaw06_told.j0] at h, fun _ _ _ _ _ _ _ _ _ _ _ _ _ r h => by simp [shibbolethlaw06_told.l0] at h⟩
 | k + 1 => by
  obtain ⟨ih0, ih1⟩ := shibbolethlaw06_told.mono_l k
  refine ⟨?_, ?_⟩
  ·intro y0 y1 y2 y3 y4 y5 y6 y7 y8 y9 y10 y11 y12
   unfold shibbolethlaw06_told.j0
   repeat' first
   | (with_reducible exact ih0 _ _ _ _ _ _ _ _ _ _ _ _ _)
   | (with_reducible exact ih1 _ _ _ _ _ _ _ _ _ _ _ _ _)
   | (with_reducible exact shibbolethlaw06_same.mono _ _ _)
   | (with_reducible exact LeO.refl _)
   | (with_reducible exact LeO.none _)
   | (with_reducible refine LeO.ite ?_ ?_)
   | (with_reducible refine LeO.bind ?_ (fun _ => ?_))
   | exact ih0 _ _ _ _ _ _ _ _ _ _ _ _ _
   | exact ih1 _ _ _ _ _ _ _ _ _ _ _ _ _
   | exact shibbolethlaw06_same.mono _ _ _
   | exact LeO.none _
   | refine LeO.ite ?_ ?_
   | refine LeO.bind ?_ (fun _ => ?_)
  ·intro y0 y1 y2 y3 y4 y5 y6 y7 y8 y9 y10 y11 y12
   unfold shibbolethlaw06_told.l0
   repeat' first
   | (with_reducible exact ih0 _ _ _ _ _ _ _ _ _ _ _ _ _)
   | (with_reducible exact ih1 _ _ _ _ _ _ _ _ _ _ _ _ _)
   | (with_reducible exact shibbolethlaw06_same.mono _ _ _)
   | (with_reducible exact LeO.refl _)
   | (with_reducible exact LeO.none _)
   | (with_reducible refine LeO.ite ?_ ?_)
   | (with_reducible refine LeO.bind ?_ (fun _ => ?_))
   | exact ih0 _ _ _ _ _ _ _ _ _ _ _ _ _
   | exact ih1 _ _ _ _ _ _ _ _ _ _ _ _ _
   | exact shibbolethlaw06_same.mono _ _ _
   | exact LeO.none _
   | refine LeO.ite ?_ ?_
   | refine LeO.bind ?_ (fun _ => ?_)
theorem shibbolethlaw06_told.mono : ∀ a0 a1 a2 a3 a4 a5 a6 a7 a8 a9 a10 a11 k, LeO (shibbolethlaw06_told.f k a0 a1 a2 a3 a4 a5 a6 a7 a8 a9 a10 a11) (shibbolethlaw06_told.f (k + 1) a0 a1 a2 a3 a4 a5 a6 a7 a8 a9 a10 a11) := by
 intro a0 a1 a2 a3 a4 a5 a6 a7 a8 a9 a10 a11 k
 obtain ⟨ih0, ih1⟩ := shibbolethlaw06_told.mono_l k
 unfold shibbolethlaw06_told.f
 repeat' first
   | (with_reducible exact ih0 _ _ _ _ _ _ _ _ _ _ _ _ _)
   | (with_reducible exact ih1 _ _ _ _ _ _ _ _ _ _ _ _ _)
   | (with_reducible exact shibbolethlaw06_same.mono _ _ _)
   | (with_reducible exact LeO.refl _)
   | (with_reducible exact LeO.none _)
   | (with_reducible refine LeO.ite ?_ ?_)
   | (with_reducible refine LeO.bind ?_ (fun _ => ?_))
   | exact ih0 _ _ _ _ _ _ _ _ _ _ _ _ _
   | exact ih1 _ _ _ _ _ _ _ _ _ _ _ _ _
   | exact shibbolethlaw06_same.mono _ _ _
   | exact LeO.none _
   | refine LeO.ite ?_ ?_
   | refine LeO.bind ?_ (fun _ => ?_)
set_option maxHeartbeats 8000000 in
set_option maxRecDepth 100000 in
theorem shibbolethlaw06_told.calls (k : Nat) (a0_0 : Int) (a0_1 : Int) (A0_2 : Option Addr) (c0_2 : Nat) (l0_2 : List (S103)) (a0_3 : Int) (A0_4 : Option Addr) (c0_4 : Nat) (l0_4 : List Int) (a0_5 : Int) (a1_0 : Int) (a1_1 : Int) (A1_2 : Option Addr) (c1_2 : Nat) (l1_2 : List (S102)) (a1_3 : Int) (A1_4 : Option Addr) (c1_4 : Nat) (l1_4 : List Int) (a1_5 : Int) (r : Bool) (w : World) (hr0_2 : Kd.C k103 w A0_2 l0_2.length l0_2) (hc0_2 : l0_2.length ≤ c0_2) (hr0_4 : Kd.C (Kd.int .u8) w A0_4 l0_4.length l0_4) (hc0_4 : l0_4.length ≤ c0_4) (hr1_2 : Kd.C k102 w A1_2 l1_2.length l1_2) (hc1_2 : l1_2.length ≤ c1_2) (hr1_4 : Kd.C (Kd.int .u8) w A1_4 l1_4.length l1_4) (hc1_4 : l1_4.length ≤ c1_4) (h : shibbolethlaw06_told.f k a0_0 a0_1 l0_2 a0_3 l0_4 a0_5 a1_0 a1_1 l1_2 a1_3 l1_4 a1_5 = some r) :
  Calls Tryd.prog 56 #[.agg #[.int .i64 a0_0, .int .i64 a0_1, .slice A0_2 l0_2.length c0_2, .int .i64 a0_3, .slice A0_4 l0_4.length c0_4, .int .i64 a0_5], .agg #[.int .i64 a1_0, .int .i64 a1_1, .slice A1_2 l1_2.length c1_2, .int .i64 a1_3, .slice A1_4 l1_4.length c1_4, .int .i64 a1_5]] w fun e w' => e = .returned (.bool r) ∧ Below w.heap.size w w' := by
 have hu58 := Tryd.underlying58
 have hu62 := Tryd.underlying62
 have HR0_2 := Aside0.mk hr0_2
 have HC0_2 := Aside0.mk hc0_2
 clear hr0_2 hc0_2
 have HR0_4 := Aside0.mk hr0_4
 have HC0_4 := Aside0.mk hc0_4
 clear hr0_4 hc0_4
 have HR1_2 := Aside0.mk hr1_2
 have HC1_2 := Aside0.mk hc1_2
 clear hr1_2 hc1_2
 have HR1_4 := Aside0.mk hr1_4
 have HC1_4 := Aside0.mk hc1_4
 clear hr1_4 hc1_4
 have HB := Aside0.mk (Below.refl w.heap.size w)
 have H : (if a0_0 = a1_0 then (if a0_1 = a1_1 then (if a0_3 = a1_3 then (if a0_5 = a1_5 then ((shibbolethlaw06_same.f k l0_4 l1_4).bind fun t103 => (if t103 = true then (pz252_) else (pz250_))) else (pz250_)) else (pz250_)) else (pz250_)) else (pz250_)) = some r := h
 clear h
 have HC3 := Aside0.mk H
 clear H
 go_enter Tryd.func56, Tryd.ntmps56
 go_upto_region 1 with (first | ((with_reducible refine gate_dst (N := 2) rfl ?_); (try (refine gate_guard (by rfl) ?_; dsimp only)); refine box_event ?hg (N := 2) ?hd (cs := #[.int .i64 a0_0, .int .i64 a0_1, .slice A0_2 l0_2.length c0_2, .int .i64 a0_3, .slice A0_4 l0_4.length c0_4, .int .i64 a0_5]) (t := 58) ?hr ?_; (case hd => rfl); (case hg => rfl); (case hr => first | (go_simp; done) | (go_simp; rfl)); intro gb101 hg w4 hbox hb; have n0_ := Aside0.mk (below_step (by qc0_) hb); have n1_ := Aside0.mk (hbox); have n2_ := Aside0.mk ((pz255_)); have n3_ := Aside0.mk ((pz255_)); clear HB; have HB := n0_; have BK101 := n1_; have GW101 := n2_; have GE101 := n3_; clear n0_ n1_ n2_ n3_; clear hb hbox hg) | ((with_reducible refine gate_dst (N := 3) rfl ?_); (try (refine gate_guard (by rfl) ?_; dsimp only)); refine box_event ?hg (N := 3) ?hd (cs := #[.int .i64 a1_0, .int .i64 a1_1, .slice A1_2 l1_2.length c1_2, .int .i64 a1_3, .slice A1_4 l1_4.length c1_4, .int .i64 a1_5]) (t := 62) ?hr ?_; (case hd => rfl); (case hg => rfl); (case hr => first | (go_simp; done) | (go_simp; rfl)); intro gb102 hg w5 hbox hb; have n0_ := Aside0.mk (blk_below (g := gb101) (o := (oz250_)) (by qk_; exact BK101.out) hb); have n1_ := Aside0.mk (below_step (by qb1_ GE101) hb); have n2_ := Aside0.mk (hbox); have n3_ := Aside0.mk ((pz253_)); have n4_ := Aside0.mk ((pz253_)); have n5_ := Aside0.mk ((pz256_)); have n6_ := Aside0.mk ((pz257_)); clear BK101; clear HB; have BK101 := n0_; have HB := n1_; have BK102 := n2_; have GW102 := n3_; have GE102 := n4_; have NB101_102 := n5_; have NB102_101 := n6_; clear n0_ n1_ n2_ n3_ n4_ n5_ n6_; clear hb hbox hg))
 repeat (go_quiet (first | ((with_reducible refine gate_dst (N := 2) rfl ?_); (try (refine gate_guard (by rfl) ?_; dsimp only)); refine box_event ?hg (N := 2) ?hd (cs := #[.int .i64 a0_0, .int .i64 a0_1, .slice A0_2 l0_2.length c0_2, .int .i64 a0_3, .slice A0_4 l0_4.length c0_4, .int .i64 a0_5]) (t := 58) ?hr ?_; (case hd => rfl); (case hg => rfl); (case hr => first | (go_simp; done) | (go_simp; rfl)); intro gb101 hg w4 hbox hb; have n0_ := Aside0.mk (below_step (by qc0_) hb); have n1_ := Aside0.mk (hbox); have n2_ := Aside0.mk ((pz255_)); have n3_ := Aside0.mk ((pz255_)); clear HB; have HB := n0_; have BK101 := n1_; have GW101 := n2_; have GE101 := n3_; clear n0_ n1_ n2_ n3_; clear hb hbox hg) | ((with_reducible refine gate_dst (N := 3) rfl ?_); (try (refine gate_guard (by rfl) ?_; dsimp only)); refine box_event ?hg (N := 3) ?hd (cs := #[.int .i64 a1_0, .int .i64 a1_1, .slice A1_2 l1_2.length c1_2, .int .i64 a1_3, .slice A1_4 l1_4.length c1_4, .int .i64 a1_5]) (t := 62) ?hr ?_; (case hd => rfl); (case hg => rfl); (case hr => first | (go_simp; done) | (go_simp; rfl)); intro gb102 hg w5 hbox hb; have n0_ := Aside0.mk (blk_below (g := gb101) (o := (oz250_)) (by qk_; exact BK101.out) hb); have n1_ := Aside0.mk (below_step (by qb1_ GE101) hb); have n2_ := Aside0.mk (hbox); have n3_ := Aside0.mk ((pz253_)); have n4_ := Aside0.mk ((pz253_)); have n5_ := Aside0.mk ((pz256_)); have n6_ := Aside0.mk ((pz257_)); clear BK101; clear HB; have BK101 := n0_; have HB := n1_; have BK102 := n2_; have GW102 := n3_; have GE102 := n4_; have NB101_102 := n5_; have NB102_101 := n6_; clear n0_ n1_ n2_ n3_ n4_ n5_ n6_; clear hb hbox hg)); go_upto_region 1 with (first | ((with_reducible refine gate_dst (N := 2) rfl ?_); (try (refine gate_guard (by rfl) ?_; dsimp only)); refine box_event ?hg (N := 2) ?hd (cs := #[.int .i64 a0_0, .int .i64 a0_1, .slice A0_2 l0_2.length c0_2, .int .i64 a0_3, .slice A0_4 l0_4.length c0_4, .int .i64 a0_5]) (t := 58) ?hr ?_; (case hd => rfl); (case hg => rfl); (case hr => first | (go_simp; done) | (go_simp; rfl)); intro gb101 hg w4 hbox hb; have n0_ := Aside0.mk (below_step (by qc0_) hb); have n1_ := Aside0.mk (hbox); have n2_ := Aside0.mk ((pz255_)); have n3_ := Aside0.mk ((pz255_)); clear HB; have HB := n0_; have BK101 := n1_; have GW101 := n2_; have GE101 := n3_; clear n0_ n1_ n2_ n3_; clear hb hbox hg) | ((with_reducible refine gate_dst (N := 3) rfl ?_); (try (refine gate_guard (by rfl) ?_; dsimp only)); refine box_event ?hg (N := 3) ?hd (cs := #[.int .i64 a1_0, .int .i64 a1_1, .slice A1_2 l1_2.length c1_2, .int .i64 a1_3, .slice A1_4 l1_4.length c1_4, .int .i64 a1_5]) (t := 62) ?hr ?_; (case hd => rfl); (case hg => rfl); (case hr => first | (go_simp; done) | (go_simp; rfl)); intro gb102 hg w5 hbox hb; have n0_ := Aside0.mk (blk_below (g := gb101) (o := (oz250_)) (by qk_; exact BK101.out) hb); have n1_ := Aside0.mk (below_step (by qb1_ GE101) hb); have n2_ := Aside0.mk (hbox); have n3_ := Aside0.mk ((pz253_)); have n4_ := Aside0.mk ((pz253_)); have n5_ := Aside0.mk ((pz256_)); have n6_ := Aside0.mk ((pz257_)); clear BK101; clear HB; have BK101 := n0_; have HB := n1_; have BK102 := n2_; have GW102 := n3_; have GE102 := n4_; have NB101_102 := n5_; have NB102_101 := n6_; clear n0_ n1_ n2_ n3_ n4_ n5_ n6_; clear hb hbox hg)))
 (try simp only [Act.put, List.setIfInBounds_toArray, List.set_cons_zero, List.set_cons_succ])
 go_cut [48] (fun v48 wc => ∃ (kq : Nat) (x48_2 : Bool), v48 = .bool x48_2 ∧ Aside0 (shibbolethlaw06_told.j0 kq x48_2 a0_0 a0_1 l0_2 a0_3 l0_4 a0_5 a1_0 a1_1 l1_2 a1_3 l1_4 a1_5 = some r) ∧ Aside0 (kq ≤ k) ∧ Aside0 (wc.heap[gb101]? = some (.cells #[.int .i64 a0_0, .int .i64 a0_1, (.slice A0_2 l0_2.length c0_2), .int .i64 a0_3, (.slice A0_4 l0_4.length c0_4), .int .i64 a0_5] 58 (0, 0))) ∧ Aside0 (wc.heap[gb102]? = some (.cells #[.int .i64 a1_0, .int .i64 a1_1, (.slice A1_2 l1_2.length c1_2), .int .i64 a1_3, (.slice A1_4 l1_4.length c1_4), .int .i64 a1_5] 62 (0, 0))) ∧ Aside0 (Below w.heap.size w wc))
 case first =>
  have H := HC3.out
  clear HC3
  by_cases c6 : a0_0 = a1_0
  ·rw [if_pos c6] at H
   have c6b0 : (a0_0 == a1_0) = true := beq_iff_eq.mpr c6
   have c6b1 : (a0_0 != a1_0) = false := bne_eq_false_iff_eq.mpr c6
   clear c6
   (first | rw [c6b0] | (simp only [i64_w, i32_w]; rw [c6b0]) | skip)
   by_cases c7 : a0_1 = a1_1
   ·rw [if_pos c7] at H
    have c7b0 : (a0_1 == a1_1) = true := beq_iff_eq.mpr c7
    have c7b1 : (a0_1 != a1_1) = false := bne_eq_false_iff_eq.mpr c7
    clear c7
    by_cases c8 : a0_3 = a1_3
    ·rw [if_pos c8] at H
     have c8b0 : (a0_3 == a1_3) = true := beq_iff_eq.mpr c8
     have c8b1 : (a0_3 != a1_3) = false := bne_eq_false_iff_eq.mpr c8
     clear c8
     by_cases c9 : a0_5 = a1_5
     ·rw [if_pos c9] at H
      have c9b0 : (a0_5 == a1_5) = true := beq_iff_eq.mpr c9
      have c9b1 : (a0_5 != a1_5) = false := bne_eq_false_iff_eq.mpr c9
      clear c9
      replace H := Option.bind_eq_some_iff.mp H
      obtain ⟨t103, A100, H⟩ := H
      replace H : (if t103 = true then (pz252_) else (pz250_)) = some r := H
      have A10 := Aside0.mk A100
      clear A100
      by_cases c11 : t103 = true
      ·subst c11
       have H1 : (pz252_) = some r := by rw [if_pos rfl] at H; exact H
       clear H
       have H := H1
       clear H1
       have H' := Aside0.mk H
       clear H
       have hnb12 := NB101_102.out
       have hnc12 := NB102_101.out
       have hcz13_0 : w5.cell? ⟨gb101, 0, none⟩ = some (.int .i64 a0_0) := (blk_cell BK101.out 0).trans rfl
       have hcz13_1 : w5.cell? ⟨gb101, 1, none⟩ = some (.int .i64 a0_1) := (blk_cell BK101.out 1).trans rfl
       have hcz13_2 : w5.cell? ⟨gb101, 2, none⟩ = some (.slice A0_2 l0_2.length c0_2) := (blk_cell BK101.out 2).trans rfl
       have hcz13_3 : w5.cell? ⟨gb101, 3, none⟩ = some (.int .i64 a0_3) := (blk_cell BK101.out 3).trans rfl
       have hcz13_4 : w5.cell? ⟨gb101, 4, none⟩ = some (.slice A0_4 l0_4.length c0_4) := (blk_cell BK101.out 4).trans rfl
       have hcz13_5 : w5.cell? ⟨gb101, 5, none⟩ = some (.int .i64 a0_5) := (blk_cell BK101.out 5).trans rfl
       have hfz13_0 := blk_frozen BK101.out 0
       have hfz13_1 := blk_frozen BK101.out 1
       have hfz13_2 := blk_frozen BK101.out 2
       have hfz13_3 := blk_frozen BK101.out 3
       have hfz13_4 := blk_frozen BK101.out 4
       have hfz13_5 := blk_frozen BK101.out 5
       have hcz14_0 : w5.cell? ⟨gb102, 0, none⟩ = some (.int .i64 a1_0) := (blk_cell BK102.out 0).trans rfl
       have hcz14_1 : w5.cell? ⟨gb102, 1, none⟩ = some (.int .i64 a1_1) := (blk_cell BK102.out 1).trans rfl
       have hcz14_2 : w5.cell? ⟨gb102, 2, none⟩ = some (.slice A1_2 l1_2.length c1_2) := (blk_cell BK102.out 2).trans rfl
       have hcz14_3 : w5.cell? ⟨gb102, 3, none⟩ = some (.int .i64 a1_3) := (blk_cell BK102.out 3).trans rfl
       have hcz14_4 : w5.cell? ⟨gb102, 4, none⟩ = some (.slice A1_4 l1_4.length c1_4) := (blk_cell BK102.out 4).trans rfl
       have hcz14_5 : w5.cell? ⟨gb102, 5, none⟩ = some (.int .i64 a1_5) := (blk_cell BK102.out 5).trans rfl
       have hfz14_0 := blk_frozen BK102.out 0
       have hfz14_1 := blk_frozen BK102.out 1
       have hfz14_2 := blk_frozen BK102.out 2
       have hfz14_3 := blk_frozen BK102.out 3
       have hfz14_4 := blk_frozen BK102.out 4
       have hfz14_5 := blk_frozen BK102.out 5
       go_wp2_with (first | (go_at_call 48; (with_reducible refine (pz259_).mono ?_); (case side1 => repeat (first | exact (Kd.C_below HR0_4.out HB.out) | exact HR0_4.out | (with_reducible refine Kd.C_alloc ?_ _) | (with_reducible refine Kd.C_drewN ?_ _) | (with_reducible refine Kd.C_drew ?_))); (case side2 => exact HC0_4.out); (case side3 => repeat (first | exact (Kd.C_below HR1_4.out HB.out) | exact HR1_4.out | (with_reducible refine Kd.C_alloc ?_ _) | (with_reducible refine Kd.C_drewN ?_ _) | (with_reducible refine Kd.C_drew ?_))); (case side4 => exact HC1_4.out); rintro e w' ⟨rfl, ⟨nd, rfl⟩⟩; (try first | exact ⟨rfl, _, World.drewN_drewN _ _ _⟩ | exact ⟨rfl, _, Eq.trans (World.drewN_drewN _ _ _) (congrArg (World.drewN _) (Nat.add_assoc _ _ _))⟩)))
       repeat (go_quiet (first | (go_at_call 48; (with_reducible refine (pz259_).mono ?_); (case side1 => repeat (first | exact (Kd.C_below HR0_4.out HB.out) | exact HR0_4.out | (with_reducible refine Kd.C_alloc ?_ _) | (with_reducible refine Kd.C_drewN ?_ _) | (with_reducible refine Kd.C_drew ?_))); (case side2 => exact HC0_4.out); (case side3 => repeat (first | exact (Kd.C_below HR1_4.out HB.out) | exact HR1_4.out | (with_reducible refine Kd.C_alloc ?_ _) | (with_reducible refine Kd.C_drewN ?_ _) | (with_reducible refine Kd.C_drew ?_))); (case side4 => exact HC1_4.out); rintro e w' ⟨rfl, ⟨nd, rfl⟩⟩; (try first | exact ⟨rfl, _, World.drewN_drewN _ _ _⟩ | exact ⟨rfl, _, Eq.trans (World.drewN_drewN _ _ _) (congrArg (World.drewN _) (Nat.add_assoc _ _ _))⟩))); try go_wp2_with (first | (go_at_call 48; (with_reducible refine (pz259_).mono ?_); (case side1 => repeat (first | exact (Kd.C_below HR0_4.out HB.out) | exact HR0_4.out | (with_reducible refine Kd.C_alloc ?_ _) | (with_reducible refine Kd.C_drewN ?_ _) | (with_reducible refine Kd.C_drew ?_))); (case side2 => exact HC0_4.out); (case side3 => repeat (first | exact (Kd.C_below HR1_4.out HB.out) | exact HR1_4.out | (with_reducible refine Kd.C_alloc ?_ _) | (with_reducible refine Kd.C_drewN ?_ _) | (with_reducible refine Kd.C_drew ?_))); (case side4 => exact HC1_4.out); rintro e w' ⟨rfl, ⟨nd, rfl⟩⟩; (try first | exact ⟨rfl, _, World.drewN_drewN _ _ _⟩ | exact ⟨rfl, _, Eq.trans (World.drewN_drewN _ _ _) (congrArg (World.drewN _) (Nat.add_assoc _ _ _))⟩))))
       go_meet
       case rel => exact ⟨_, (((l0_2.length : Int) != (l1_2.length : Int))), (pz254_), H', ⟨by first | omega | exact Nat.le_refl _⟩, ⟨by qk_; exact BK101.out⟩, ⟨by qk_; exact BK102.out⟩, ⟨by qb2_ GE101 GE102⟩⟩
      ·replace c11 := Bool.eq_false_iff.mpr c11
       subst c11
       have H1 : (pz250_) = some r := by rw [if_neg (show ¬ (false = true) by decide)] at H; exact H
       clear H
       have H := H1
       clear H1
       have H' := Aside0.mk H
       clear H
       have hnb15 := NB101_102.out
       have hnc15 := NB102_101.out
       have hcz16_0 : w5.cell? ⟨gb101, 0, none⟩ = some (.int .i64 a0_0) := (blk_cell BK101.out 0).trans rfl
       have hcz16_1 : w5.cell? ⟨gb101, 1, none⟩ = some (.int .i64 a0_1) := (blk_cell BK101.out 1).trans rfl
       have hcz16_2 : w5.cell? ⟨gb101, 2, none⟩ = some (.slice A0_2 l0_2.length c0_2) := (blk_cell BK101.out 2).trans rfl
       have hcz16_3 : w5.cell? ⟨gb101, 3, none⟩ = some (.int .i64 a0_3) := (blk_cell BK101.out 3).trans rfl
       have hcz16_4 : w5.cell? ⟨gb101, 4, none⟩ = some (.slice A0_4 l0_4.length c0_4) := (blk_cell BK101.out 4).trans rfl
       have hcz16_5 : w5.cell? ⟨gb101, 5, none⟩ = some (.int .i64 a0_5) := (blk_cell BK101.out 5).trans rfl
       have hfz16_0 := blk_frozen BK101.out 0
       have hfz16_1 := blk_frozen BK101.out 1
       have hfz16_2 := blk_frozen BK101.out 2
       have hfz16_3 := blk_frozen BK101.out 3
       have hfz16_4 := blk_frozen BK101.out 4
       have hfz16_5 := blk_frozen BK101.out 5
       have hcz17_0 : w5.cell? ⟨gb102, 0, none⟩ = some (.int .i64 a1_0) := (blk_cell BK102.out 0).trans rfl
       have hcz17_1 : w5.cell? ⟨gb102, 1, none⟩ = some (.int .i64 a1_1) := (blk_cell BK102.out 1).trans rfl
       have hcz17_2 : w5.cell? ⟨gb102, 2, none⟩ = some (.slice A1_2 l1_2.length c1_2) := (blk_cell BK102.out 2).trans rfl
       have hcz17_3 : w5.cell? ⟨gb102, 3, none⟩ = some (.int .i64 a1_3) := (blk_cell BK102.out 3).trans rfl
       have hcz17_4 : w5.cell? ⟨gb102, 4, none⟩ = some (.slice A1_4 l1_4.length c1_4) := (blk_cell BK102.out 4).trans rfl
       have hcz17_5 : w5.cell? ⟨gb102, 5, none⟩ = some (.int .i64 a1_5) := (blk_cell BK102.out 5).trans rfl
       have hfz17_0 := blk_frozen BK102.out 0
       have hfz17_1 := blk_frozen BK102.out 1
       have hfz17_2 := blk_frozen BK102.out 2
       have hfz17_3 := blk_frozen BK102.out 3
       have hfz17_4 := blk_frozen BK102.out 4
       have hfz17_5 := blk_frozen BK102.out 5
       go_wp2_with (first | (go_at_call 48; (with_reducible refine (pz258_).mono ?_); (case side1 => repeat (first | exact (Kd.C_below HR0_4.out HB.out) | exact HR0_4.out | (with_reducible refine Kd.C_alloc ?_ _) | (with_reducible refine Kd.C_drewN ?_ _) | (with_reducible refine Kd.C_drew ?_))); (case side2 => exact HC0_4.out); (case side3 => repeat (first | exact (Kd.C_below HR1_4.out HB.out) | exact HR1_4.out | (with_reducible refine Kd.C_alloc ?_ _) | (with_reducible refine Kd.C_drewN ?_ _) | (with_reducible refine Kd.C_drew ?_))); (case side4 => exact HC1_4.out); rintro e w' ⟨rfl, ⟨nd, rfl⟩⟩; (try first | exact ⟨rfl, _, World.drewN_drewN _ _ _⟩ | exact ⟨rfl, _, Eq.trans (World.drewN_drewN _ _ _) (congrArg (World.drewN _) (Nat.add_assoc _ _ _))⟩)))
       repeat (go_quiet (first | (go_at_call 48; (with_reducible refine (pz258_).mono ?_); (case side1 => repeat (first | exact (Kd.C_below HR0_4.out HB.out) | exact HR0_4.out | (with_reducible refine Kd.C_alloc ?_ _) | (with_reducible refine Kd.C_drewN ?_ _) | (with_reducible refine Kd.C_drew ?_))); (case side2 => exact HC0_4.out); (case side3 => repeat (first | exact (Kd.C_below HR1_4.out HB.out) | exact HR1_4.out | (with_reducible refine Kd.C_alloc ?_ _) | (with_reducible refine Kd.C_drewN ?_ _) | (with_reducible refine Kd.C_drew ?_))); (case side4 => exact HC1_4.out); rintro e w' ⟨rfl, ⟨nd, rfl⟩⟩; (try first | exact ⟨rfl, _, World.drewN_drewN _ _ _⟩ | exact ⟨rfl, _, Eq.trans (World.drewN_drewN _ _ _) (congrArg (World.drewN _) (Nat.add_assoc _ _ _))⟩))); try go_wp2_with (first | (go_at_call 48; (with_reducible refine (pz258_).mono ?_); (case side1 => repeat (first | exact (Kd.C_below HR0_4.out HB.out) | exact HR0_4.out | (with_reducible refine Kd.C_alloc ?_ _) | (with_reducible refine Kd.C_drewN ?_ _) | (with_reducible refine Kd.C_drew ?_))); (case side2 => exact HC0_4.out); (case side3 => repeat (first | exact (Kd.C_below HR1_4.out HB.out) | exact HR1_4.out | (with_reducible refine Kd.C_alloc ?_ _) | (with_reducible refine Kd.C_drewN ?_ _) | (with_reducible refine Kd.C_drew ?_))); (case side4 => exact HC1_4.out); rintro e w' ⟨rfl, ⟨nd, rfl⟩⟩; (try first | exact ⟨rfl, _, World.drewN_drewN _ _ _⟩ | exact ⟨rfl, _, Eq.trans (World.drewN_drewN _ _ _) (congrArg (World.drewN _) (Nat.add_assoc _ _ _))⟩))))
       go_meet
       case rel => exact ⟨_, (true), (pz254_), H', ⟨by first | omega | exact Nat.le_refl _⟩, ⟨by qk_; exact BK101.out⟩, ⟨by qk_; exact BK102.out⟩, ⟨by qb2_ GE101 GE102⟩⟩
     ·rw [if_neg c9] at H
      have c9b0 : (a0_5 == a1_5) = false := beq_eq_false_iff_ne.mpr c9
      have c9b1 : (a0_5 != a1_5) = true := bne_iff_ne.mpr c9
      have H' := Aside0.mk H
      clear H
      have hnb18 := NB101_102.out
      have hnc18 := NB102_101.out
      have hcz19_0 : w5.cell? ⟨gb101, 0, none⟩ = some (.int .i64 a0_0) := (blk_cell BK101.out 0).trans rfl
      have hcz19_1 : w5.cell? ⟨gb101, 1, none⟩ = some (.int .i64 a0_1) := (blk_cell BK101.out 1).trans rfl
      have hcz19_2 : w5.cell? ⟨gb101, 2, none⟩ = some (.slice A0_2 l0_2.length c0_2) := (blk_cell BK101.out 2).trans rfl
      have hcz19_3 : w5.cell? ⟨gb101, 3, none⟩ = some (.int .i64 a0_3) := (blk_cell BK101.out 3).trans rfl
      have hcz19_4 : w5.cell? ⟨gb101, 4, none⟩ = some (.slice A0_4 l0_4.length c0_4) := (blk_cell BK101.out 4).trans rfl
      have hcz19_5 : w5.cell? ⟨gb101, 5, none⟩ = some (.int .i64 a0_5) := (blk_cell BK101.out 5).trans rfl
      have hfz19_0 := blk_frozen BK101.out 0
      have hfz19_1 := blk_frozen BK101.out 1
      have hfz19_2 := blk_frozen BK101.out 2
      have hfz19_3 := blk_frozen BK101.out 3
      have hfz19_4 := blk_frozen BK101.out 4
      have hfz19_5 := blk_frozen BK101.out 5
      have hcz20_0 : w5.cell? ⟨gb102, 0, none⟩ = some (.int .i64 a1_0) := (blk_cell BK102.out 0).trans rfl
      have hcz20_1 : w5.cell? ⟨gb102, 1, none⟩ = some (.int .i64 a1_1) := (blk_cell BK102.out 1).trans rfl
      have hcz20_2 : w5.cell? ⟨gb102, 2, none⟩ = some (.slice A1_2 l1_2.length c1_2) := (blk_cell BK102.out 2).trans rfl
      have hcz20_3 : w5.cell? ⟨gb102, 3, none⟩ = some (.int .i64 a1_3) := (blk_cell BK102.out 3).trans rfl
      have hcz20_4 : w5.cell? ⟨gb102, 4, none⟩ = some (.slice A1_4 l1_4.length c1_4) := (blk_cell BK102.out 4).trans rfl
      have hcz20_5 : w5.cell? ⟨gb102, 5, none⟩ = some (.int .i64 a1_5) := (blk_cell BK102.out 5).trans rfl
      have hfz20_0 := blk_frozen BK102.out 0
      have hfz20_1 := blk_frozen BK102.out 1
      have hfz20_2 := blk_frozen BK102.out 2
      have hfz20_3 := blk_frozen BK102.out 3
      have hfz20_4 := blk_frozen BK102.out 4
      have hfz20_5 := blk_frozen BK102.out 5
      go_wp2
      repeat (go_quiet (fail); try go_wp2)
      go_meet
      case rel => exact ⟨_, (true), (pz254_), H', ⟨by first | omega | exact Nat.le_refl _⟩, ⟨by qk_; exact BK101.out⟩, ⟨by qk_; exact BK102.out⟩, ⟨by qb2_ GE101 GE102⟩⟩
    ·rw [if_neg c8] at H
     have c8b0 : (a0_3 == a1_3) = false := beq_eq_false_iff_ne.mpr c8
     have c8b1 : (a0_3 != a1_3) = true := bne_iff_ne.mpr c8
     have H' := Aside0.mk H
     clear H
     have hnb21 := NB101_102.out
     have hnc21 := NB102_101.out
     have hcz22_0 : w5.cell? ⟨gb101, 0, none⟩ = some (.int .i64 a0_0) := (blk_cell BK101.out 0).trans rfl
     have hcz22_1 : w5.cell? ⟨gb101, 1, none⟩ = some (.int .i64 a0_1) := (blk_cell BK101.out 1).trans rfl
     have hcz22_2 : w5.cell? ⟨gb101, 2, none⟩ = some (.slice A0_2 l0_2.length c0_2) := (blk_cell BK101.out 2).trans rfl
     have hcz22_3 : w5.cell? ⟨gb101, 3, none⟩ = some (.int .i64 a0_3) := (blk_cell BK101.out 3).trans rfl
     have hcz22_4 : w5.cell? ⟨gb101, 4, none⟩ = some (.slice A0_4 l0_4.length c0_4) := (blk_cell BK101.out 4).trans rfl
     have hcz22_5 : w5.cell? ⟨gb101, 5, none⟩ = some (.int .i64 a0_5) := (blk_cell BK101.out 5).trans rfl
     have hfz22_0 := blk_frozen BK101.out 0
     have hfz22_1 := blk_frozen BK101.out 1
     have hfz22_2 := blk_frozen BK101.out 2
     have hfz22_3 := blk_frozen BK101.out 3
     have hfz22_4 := blk_frozen BK101.out 4
     have hfz22_5 := blk_frozen BK101.out 5
     have hcz23_0 : w5.cell? ⟨gb102, 0, none⟩ = some (.int .i64 a1_0) := (blk_cell BK102.out 0).trans rfl
     have hcz23_1 : w5.cell? ⟨gb102, 1, none⟩ = some (.int .i64 a1_1) := (blk_cell BK102.out 1).trans rfl
     have hcz23_2 : w5.cell? ⟨gb102, 2, none⟩ = some (.slice A1_2 l1_2.length c1_2) := (blk_cell BK102.out 2).trans rfl
     have hcz23_3 : w5.cell? ⟨gb102, 3, none⟩ = some (.int .i64 a1_3) := (blk_cell BK102.out 3).trans rfl
     have hcz23_4 : w5.cell? ⟨gb102, 4, none⟩ = some (.slice A1_4 l1_4.length c1_4) := (blk_cell BK102.out 4).trans rfl
     have hcz23_5 : w5.cell? ⟨gb102, 5, none⟩ = some (.int .i64 a1_5) := (blk_cell BK102.out 5).trans rfl
     have hfz23_0 := blk_frozen BK102.out 0
     have hfz23_1 := blk_frozen BK102.out 1
     have hfz23_2 := blk_frozen BK102.out 2
     have hfz23_3 := blk_frozen BK102.out 3
     have hfz23_4 := blk_frozen BK102.out 4
     have hfz23_5 := blk_frozen BK102.out 5
     go_wp2
     repeat (go_quiet (fail); try go_wp2)
     go_meet
     case rel => exact ⟨_, (true), (pz254_), H', ⟨by first | omega | exact Nat.le_refl _⟩, ⟨by qk_; exact BK101.out⟩, ⟨by qk_; exact BK102.out⟩, ⟨by qb2_ GE101 GE102⟩⟩
   ·rw [if_neg c7] at H
    have c7b0 : (a0_1 == a1_1) = false := beq_eq_false_iff_ne.mpr c7
    have c7b1 : (a0_1 != a1_1) = true := bne_iff_ne.mpr c7
    have H' := Aside0.mk H
    clear H
    have hnb24 := NB101_102.out
    have hnc24 := NB102_101.out
    have hcz25_0 : w5.cell? ⟨gb101, 0, none⟩ = some (.int .i64 a0_0) := (blk_cell BK101.out 0).trans rfl
    have hcz25_1 : w5.cell? ⟨gb101, 1, none⟩ = some (.int .i64 a0_1) := (blk_cell BK101.out 1).trans rfl
    have hcz25_2 : w5.cell? ⟨gb101, 2, none⟩ = some (.slice A0_2 l0_2.length c0_2) := (blk_cell BK101.out 2).trans rfl
    have hcz25_3 : w5.cell? ⟨gb101, 3, none⟩ = some (.int .i64 a0_3) := (blk_cell BK101.out 3).trans rfl
    have hcz25_4 : w5.cell? ⟨gb101, 4, none⟩ = some (.slice A0_4 l0_4.length c0_4) := (blk_cell BK101.out 4).trans rfl
    have hcz25_5 : w5.cell? ⟨gb101, 5, none⟩ = some (.int .i64 a0_5) := (blk_cell BK101.out 5).trans rfl
    have hfz25_0 := blk_frozen BK101.out 0
    have hfz25_1 := blk_frozen BK101.out 1
    have hfz25_2 := blk_frozen BK101.out 2
    have hfz25_3 := blk_frozen BK101.out 3
    have hfz25_4 := blk_frozen BK101.out 4
    have hfz25_5 := blk_frozen BK101.out 5
    have hcz26_0 : w5.cell? ⟨gb102, 0, none⟩ = some (.int .i64 a1_0) := (blk_cell BK102.out 0).trans rfl
    have hcz26_1 : w5.cell? ⟨gb102, 1, none⟩ = some (.int .i64 a1_1) := (blk_cell BK102.out 1).trans rfl
    have hcz26_2 : w5.cell? ⟨gb102, 2, none⟩ = some (.slice A1_2 l1_2.length c1_2) := (blk_cell BK102.out 2).trans rfl
    have hcz26_3 : w5.cell? ⟨gb102, 3, none⟩ = some (.int .i64 a1_3) := (blk_cell BK102.out 3).trans rfl
    have hcz26_4 : w5.cell? ⟨gb102, 4, none⟩ = some (.slice A1_4 l1_4.length c1_4) := (blk_cell BK102.out 4).trans rfl
    have hcz26_5 : w5.cell? ⟨gb102, 5, none⟩ = some (.int .i64 a1_5) := (blk_cell BK102.out 5).trans rfl
    have hfz26_0 := blk_frozen BK102.out 0
    have hfz26_1 := blk_frozen BK102.out 1
    have hfz26_2 := blk_frozen BK102.out 2
    have hfz26_3 := blk_frozen BK102.out 3
    have hfz26_4 := blk_frozen BK102.out 4
    have hfz26_5 := blk_frozen BK102.out 5
    go_wp2
    repeat (go_quiet (fail); try go_wp2)
    go_meet
    case rel => exact ⟨_, (true), (pz254_), H', ⟨by first | omega | exact Nat.le_refl _⟩, ⟨by qk_; exact BK101.out⟩, ⟨by qk_; exact BK102.out⟩, ⟨by qb2_ GE101 GE102⟩⟩
  ·rw [if_neg c6] at H
   have c6b0 : (a0_0 == a1_0) = false := beq_eq_false_iff_ne.mpr c6
   have c6b1 : (a0_0 != a1_0) = true := bne_iff_ne.mpr c6
   (first | rw [c6b0] | (simp only [i64_w, i32_w]; rw [c6b0]) | skip)
   have H' := Aside0.mk H
   clear H
   have hnb27 := NB101_102.out
   have hnc27 := NB102_101.out
   have hcz28_0 : w5.cell? ⟨gb101, 0, none⟩ = some (.int .i64 a0_0) := (blk_cell BK101.out 0).trans rfl
   have hcz28_1 : w5.cell? ⟨gb101, 1, none⟩ = some (.int .i64 a0_1) := (blk_cell BK101.out 1).trans rfl
   have hcz28_2 : w5.cell? ⟨gb101, 2, none⟩ = some (.slice A0_2 l0_2.length c0_2) := (blk_cell BK101.out 2).trans rfl
   have hcz28_3 : w5.cell? ⟨gb101, 3, none⟩ = some (.int .i64 a0_3) := (blk_cell BK101.out 3).trans rfl
   have hcz28_4 : w5.cell? ⟨gb101, 4, none⟩ = some (.slice A0_4 l0_4.length c0_4) := (blk_cell BK101.out 4).trans rfl
   have hcz28_5 : w5.cell? ⟨gb101, 5, none⟩ = some (.int .i64 a0_5) := (blk_cell BK101.out 5).trans rfl
   have hfz28_0 := blk_frozen BK101.out 0
   have hfz28_1 := blk_frozen BK101.out 1
   have hfz28_2 := blk_frozen BK101.out 2
   have hfz28_3 := blk_frozen BK101.out 3
   have hfz28_4 := blk_frozen BK101.out 4
   have hfz28_5 := blk_frozen BK101.out 5
   have hcz29_0 : w5.cell? ⟨gb102, 0, none⟩ = some (.int .i64 a1_0) := (blk_cell BK102.out 0).trans rfl
   have hcz29_1 : w5.cell? ⟨gb102, 1, none⟩ = some (.int .i64 a1_1) := (blk_cell BK102.out 1).trans rfl
   have hcz29_2 : w5.cell? ⟨gb102, 2, none⟩ = some (.slice A1_2 l1_2.length c1_2) := (blk_cell BK102.out 2).trans rfl
   have hcz29_3 : w5.cell? ⟨gb102, 3, none⟩ = some (.int .i64 a1_3) := (blk_cell BK102.out 3).trans rfl
   have hcz29_4 : w5.cell? ⟨gb102, 4, none⟩ = some (.slice A1_4 l1_4.length c1_4) := (blk_cell BK102.out 4).trans rfl
   have hcz29_5 : w5.cell? ⟨gb102, 5, none⟩ = some (.int .i64 a1_5) := (blk_cell BK102.out 5).trans rfl
   have hfz29_0 := blk_frozen BK102.out 0
   have hfz29_1 := blk_frozen BK102.out 1
   have hfz29_2 := blk_frozen BK102.out 2
   have hfz29_3 := blk_frozen BK102.out 3
   have hfz29_4 := blk_frozen BK102.out 4
   have hfz29_5 := blk_frozen BK102.out 5
   go_wp2
   repeat (go_quiet (fail); try go_wp2)
   go_meet
   case rel => exact ⟨_, (true), (pz254_), H', ⟨by first | omega | exact Nat.le_refl _⟩, ⟨by qk_; exact BK101.out⟩, ⟨by qk_; exact BK102.out⟩, ⟨by qb2_ GE101 GE102⟩⟩
 case rest =>
  clear HC3
  try clear c1
  try clear c2
  try clear p2
  try clear c5
  try clear c6
  try clear c6b0
  try clear c6b1
  try clear c7
  try clear c7b0
  try clear c7b1
  try clear c8
  try clear c8b0
  try clear c8b1
  try clear c9
  try clear c9b0
  try clear c9b1
  try clear c11
  try clear c12
  try clear c15
  try clear c18
  try clear c21
  try clear c24
  try clear c27
  try clear hcz13_0
  try clear hcz13_1
  try clear hcz13_2
  try clear hcz13_3
  try clear hcz13_4
  try clear hcz13_5
  try clear hcz14_0
  try clear hcz14_1
  try clear hcz14_2
  try clear hcz14_3
  try clear hcz14_4
  try clear hcz14_5
  try clear hcz16_0
  try clear hcz16_1
  try clear hcz16_2
  try clear hcz16_3
  try clear hcz16_4
  try clear hcz16_5
  try clear hcz17_0
  try clear hcz17_1
  try clear hcz17_2
  try clear hcz17_3
  try clear hcz17_4
  try clear hcz17_5
  try clear hcz19_0
  try clear hcz19_1
  try clear hcz19_2
  try clear hcz19_3
  try clear hcz19_4
  try clear hcz19_5
  try clear hcz20_0
  try clear hcz20_1
  try clear hcz20_2
  try clear hcz20_3
  try clear hcz20_4
  try clear hcz20_5
  try clear hcz22_0
  try clear hcz22_1
  try clear hcz22_2
  try clear hcz22_3
  try clear hcz22_4
  try clear hcz22_5
  try clear hcz23_0
  try clear hcz23_1
  try clear hcz23_2
  try clear hcz23_3
  try clear hcz23_4
  try clear hcz23_5
  try clear hcz25_0
  try clear hcz25_1
  try clear hcz25_2
  try clear hcz25_3
  try clear hcz25_4
  try clear hcz25_5
  try clear hcz26_0
  try clear hcz26_1
  try clear hcz26_2
  try clear hcz26_3
  try clear hcz26_4
  try clear hcz26_5
  try clear hcz28_0
  try clear hcz28_1
  try clear hcz28_2
  try clear hcz28_3
  try clear hcz28_4
  try clear hcz28_5
  try clear hcz29_0
  try clear hcz29_1
  try clear hcz29_2
  try clear hcz29_3
  try clear hcz29_4
  try clear hcz29_5
  try clear hfz13_0
  try clear hfz13_1
  try clear hfz13_2
  try clear hfz13_3
  try clear hfz13_4
  try clear hfz13_5
  try clear hfz14_0
  try clear hfz14_1
  try clear hfz14_2
  try clear hfz14_3
  try clear hfz14_4
  try clear hfz14_5
  try clear hfz16_0
  try clear hfz16_1
  try clear hfz16_2
  try clear hfz16_3
  try clear hfz16_4
  try clear hfz16_5
  try clear hfz17_0
  try clear hfz17_1
  try clear hfz17_2
  try clear hfz17_3
  try clear hfz17_4
  try clear hfz17_5
  try clear hfz19_0
  try clear hfz19_1
  try clear hfz19_2
  try clear hfz19_3
  try clear hfz19_4
  try clear hfz19_5
  try clear hfz20_0
  try clear hfz20_1
  try clear hfz20_2
  try clear hfz20_3
  try clear hfz20_4
  try clear hfz20_5
  try clear hfz22_0
  try clear hfz22_1
  try clear hfz22_2
  try clear hfz22_3
  try clear hfz22_4
  try clear hfz22_5
  try clear hfz23_0
  try clear hfz23_1
  try clear hfz23_2
  try clear hfz23_3
  try clear hfz23_4
  try clear hfz23_5
  try clear hfz25_0
  try clear hfz25_1
  try clear hfz25_2
  try clear hfz25_3
  try clear hfz25_4
  try clear hfz25_5
  try clear hfz26_0
  try clear hfz26_1
  try clear hfz26_2
  try clear hfz26_3
  try clear hfz26_4
  try clear hfz26_5
  try clear hfz28_0
  try clear hfz28_1
  try clear hfz28_2
  try clear hfz28_3
  try clear hfz28_4
  try clear hfz28_5
  try clear hfz29_0
  try clear hfz29_1
  try clear hfz29_2
  try clear hfz29_3
  try clear hfz29_4
  try clear hfz29_5
  obtain ⟨kq, x48_2, rfl, HA, HJ2, BK101, BK102, HB⟩ := hcut
  cases kq with
  | zero => exact absurd HA.out (by simp [shibbolethlaw06_told.j0])
  | succ kj2 =>
   have H := HA.out
   clear HA
   simp only [shibbolethlaw06_told.j0] at H
   by_cases c30 : x48_2 = true
   ·subst c30
    have H1 : (some false) = some r := by rw [if_pos rfl] at H; exact H
    clear H
    have H := H1
    clear H1
    obtain rfl := Option.some.inj H
    go_wp2
    repeat (go_quiet (fail); try go_wp2)
    go_ret
    lz250_
   ·replace c30 := Bool.eq_false_iff.mpr c30
    subst c30
    have H1 : (shibbolethlaw06_told.l0 kj2 0 a0_0 a0_1 l0_2 a0_3 l0_4 a0_5 a1_0 a1_1 l1_2 a1_3 l1_4 a1_5) = some r := by rw [if_neg (show ¬ (false = true) by decide)] at H; exact H
    clear H
    have H := H1
    clear H1
    have H' := Aside0.mk H
    clear H
    go_wp2
    repeat (go_quiet (fail); try go_wp2)
    go_loopg [5] kj2 (fun kq v5 w' => ∃ (x5_2 : Int), v5 = .int .i64 x5_2 ∧ Aside0 (shibbolethlaw06_told.l0 kq x5_2 a0_0 a0_1 l0_2 a0_3 l0_4 a0_5 a1_0 a1_1 l1_2 a1_3 l1_4 a1_5 = some r) ∧ Aside0 (kq ≤ kj2) ∧ Aside0 (w'.heap[gb101]? = some (.cells #[.int .i64 a0_0, .int .i64 a0_1, (.slice A0_2 l0_2.length c0_2), .int .i64 a0_3, (.slice A0_4 l0_4.length c0_4), .int .i64 a0_5] 58 (0, 0))) ∧ Aside0 (w'.heap[gb102]? = some (.cells #[.int .i64 a1_0, .int .i64 a1_1, (.slice A1_2 l1_2.length c1_2), .int .i64 a1_3, (.slice A1_4 l1_4.length c1_4), .int .i64 a1_5] 62 (0, 0))) ∧ Aside0 (Below w.heap.size w w'))
    case atStart => exact ⟨(0), (pz254_), H', ⟨Nat.le_refl _⟩, ⟨by qk_; exact BK101.out⟩, ⟨by qk_; exact BK102.out⟩, ⟨by qb2_ GE101 GE102⟩⟩
    case round =>
     clear H'
     try clear c1
     try clear c2
     try clear p2
     try clear c3
     try clear c5
     try clear c6
     try clear c6b0
     try clear c6b1
     try clear c7
     try clear c7b0
     try clear c7b1
     try clear c8
     try clear c8b0
     try clear c8b1
     try clear c9
     try clear c9b0
     try clear c9b1
     try clear c11
     try clear c12
     try clear c15
     try clear c18
     try clear c21
     try clear c24
     try clear c27
     try clear c30
     try clear hcz13_0
     try clear hcz13_1
     try clear hcz13_2
     try clear hcz13_3
     try clear hcz13_4
     try clear hcz13_5
     try clear hcz14_0
     try clear hcz14_1
     try clear hcz14_2
     try clear hcz14_3
     try clear hcz14_4
     try clear hcz14_5
     try clear hcz16_0
     try clear hcz16_1
     try clear hcz16_2
     try clear hcz16_3
     try clear hcz16_4
     try clear hcz16_5
     try clear hcz17_0
     try clear hcz17_1
     try clear hcz17_2
     try clear hcz17_3
     try clear hcz17_4
     try clear hcz17_5
     try clear hcz19_0
     try clear hcz19_1
     try clear hcz19_2
     try clear hcz19_3
     try clear hcz19_4
     try clear hcz19_5
     try clear hcz20_0
     try clear hcz20_1
     try clear hcz20_2
     try clear hcz20_3
     try clear hcz20_4
     try clear hcz20_5
     try clear hcz22_0
     try clear hcz22_1
     try clear hcz22_2
     try clear hcz22_3
     try clear hcz22_4
     try clear hcz22_5
     try clear hcz23_0
     try clear hcz23_1
     try clear hcz23_2
     try clear hcz23_3
     try clear hcz23_4
     try clear hcz23_5
     try clear hcz25_0
     try clear hcz25_1
     try clear hcz25_2
     try clear hcz25_3
     try clear hcz25_4
     try clear hcz25_5
     try clear hcz26_0
     try clear hcz26_1
     try clear hcz26_2
     try clear hcz26_3
     try clear hcz26_4
     try clear hcz26_5
     try clear hcz28_0
     try clear hcz28_1
     try clear hcz28_2
     try clear hcz28_3
     try clear hcz28_4
     try clear hcz28_5
     try clear hcz29_0
     try clear hcz29_1
     try clear hcz29_2
     try clear hcz29_3
     try clear hcz29_4
     try clear hcz29_5
     try clear hfz13_0
     try clear hfz13_1
     try clear hfz13_2
     try clear hfz13_3
     try clear hfz13_4
     try clear hfz13_5
     try clear hfz14_0
     try clear hfz14_1
     try clear hfz14_2
     try clear hfz14_3
     try clear hfz14_4
     try clear hfz14_5
     try clear hfz16_0
     try clear hfz16_1
     try clear hfz16_2
     try clear hfz16_3
     try clear hfz16_4
     try clear hfz16_5
     try clear hfz17_0
     try clear hfz17_1
     try clear hfz17_2
     try clear hfz17_3
     try clear hfz17_4
     try clear hfz17_5
     try clear hfz19_0
     try clear hfz19_1
     try clear hfz19_2
     try clear hfz19_3
     try clear hfz19_4
     try clear hfz19_5
     try clear hfz20_0
     try clear hfz20_1
     try clear hfz20_2
     try clear hfz20_3
     try clear hfz20_4
     try clear hfz20_5
     try clear hfz22_0
     try clear hfz22_1
     try clear hfz22_2
     try clear hfz22_3
     try clear hfz22_4
     try clear hfz22_5
     try clear hfz23_0
     try clear hfz23_1
     try clear hfz23_2
     try clear hfz23_3
     try clear hfz23_4
     try clear hfz23_5
     try clear hfz25_0
     try clear hfz25_1
     try clear hfz25_2
     try clear hfz25_3
     try clear hfz25_4
     try clear hfz25_5
     try clear hfz26_0
     try clear hfz26_1
     try clear hfz26_2
     try clear hfz26_3
     try clear hfz26_4
     try clear hfz26_5
     try clear hfz28_0
     try clear hfz28_1
     try clear hfz28_2
     try clear hfz28_3
     try clear hfz28_4
     try clear hfz28_5
     try clear hfz29_0
     try clear hfz29_1
     try clear hfz29_2
     try clear hfz29_3
     try clear hfz29_4
     try clear hfz29_5
     try clear p2
     obtain ⟨x5_2, rfl, HA, HK2, BK101, BK102, HB⟩ := hrel
     cases gk with
     | zero => exact absurd HA.out (by simp [shibbolethlaw06_told.l0])
     | succ k2 =>
      have H := HA.out
      clear HA
      simp only [shibbolethlaw06_told.l0] at H
      by_cases c31 : x5_2 < (l1_2.length : Int)
      ·rw [if_pos c31] at H
       have c31b0 : decide (x5_2 < (l1_2.length : Int)) = true := decide_eq_true c31
       clear c31
       by_cases c32 : 0 ≤ x5_2
       ·rw [if_pos c32] at H
        have c32b0 : decide (0 ≤ x5_2) = true := decide_eq_true c32
        clear c32
        by_cases c33 : x5_2 < (l0_2.length : Int)
        ·rw [if_pos c33] at H
         have c33b0 : decide (x5_2 < (l0_2.length : Int)) = true := decide_eq_true c33
         clear c33
         by_cases c34 : ((rd_T103 l0_2 x5_2).f0) = ((rd_T102 l1_2 x5_2).f0)
         ·rw [if_pos c34] at H
          have c34b0 : (((rd_T103 l0_2 x5_2).f0) == ((rd_T102 l1_2 x5_2).f0)) = true := beq_iff_eq.mpr c34
          have c34b1 : (((rd_T103 l0_2 x5_2).f0) != ((rd_T102 l1_2 x5_2).f0)) = false := bne_eq_false_iff_eq.mpr c34
          clear c34
          by_cases c35 : ((rd_T103 l0_2 x5_2).f1) = ((rd_T102 l1_2 x5_2).f1)
          ·rw [if_pos c35] at H
           have c35b0 : (((rd_T103 l0_2 x5_2).f1) == ((rd_T102 l1_2 x5_2).f1)) = true := beq_iff_eq.mpr c35
           have c35b1 : (((rd_T103 l0_2 x5_2).f1) != ((rd_T102 l1_2 x5_2).f1)) = false := bne_eq_false_iff_eq.mpr c35
           clear c35
           have H' := Aside0.mk H
           clear H
           have hnb36 := NB102_101.out
           have hnc36 := NB101_102.out
           have hcz37_0 : wr.cell? ⟨gb102, 0, none⟩ = some (.int .i64 a1_0) := (blk_cell BK102.out 0).trans rfl
           have hcz37_1 : wr.cell? ⟨gb102, 1, none⟩ = some (.int .i64 a1_1) := (blk_cell BK102.out 1).trans rfl
           have hcz37_2 : wr.cell? ⟨gb102, 2, none⟩ = some (.slice A1_2 l1_2.length c1_2) := (blk_cell BK102.out 2).trans rfl
           have hcz37_3 : wr.cell? ⟨gb102, 3, none⟩ = some (.int .i64 a1_3) := (blk_cell BK102.out 3).trans rfl
           have hcz37_4 : wr.cell? ⟨gb102, 4, none⟩ = some (.slice A1_4 l1_4.length c1_4) := (blk_cell BK102.out 4).trans rfl
           have hcz37_5 : wr.cell? ⟨gb102, 5, none⟩ = some (.int .i64 a1_5) := (blk_cell BK102.out 5).trans rfl
           have hfz37_0 := blk_frozen BK102.out 0
           have hfz37_1 := blk_frozen BK102.out 1
           have hfz37_2 := blk_frozen BK102.out 2
           have hfz37_3 := blk_frozen BK102.out 3
           have hfz37_4 := blk_frozen BK102.out 4
           have hfz37_5 := blk_frozen BK102.out 5
           have hcz38_0 : wr.cell? ⟨gb101, 0, none⟩ = some (.int .i64 a0_0) := (blk_cell BK101.out 0).trans rfl
           have hcz38_1 : wr.cell? ⟨gb101, 1, none⟩ = some (.int .i64 a0_1) := (blk_cell BK101.out 1).trans rfl
           have hcz38_2 : wr.cell? ⟨gb101, 2, none⟩ = some (.slice A0_2 l0_2.length c0_2) := (blk_cell BK101.out 2).trans rfl
           have hcz38_3 : wr.cell? ⟨gb101, 3, none⟩ = some (.int .i64 a0_3) := (blk_cell BK101.out 3).trans rfl
           have hcz38_4 : wr.cell? ⟨gb101, 4, none⟩ = some (.slice A0_4 l0_4.length c0_4) := (blk_cell BK101.out 4).trans rfl
           have hcz38_5 : wr.cell? ⟨gb101, 5, none⟩ = some (.int .i64 a0_5) := (blk_cell BK101.out 5).trans rfl
           have hfz38_0 := blk_frozen BK101.out 0
           have hfz38_1 := blk_frozen BK101.out 1
           have hfz38_2 := blk_frozen BK101.out 2
           have hfz38_3 := blk_frozen BK101.out 3
           have hfz38_4 := blk_frozen BK101.out 4
           have hfz38_5 := blk_frozen BK101.out 5
           have p104 : 0 ≤ (x5_2 : Int) := of_decide_eq_true (pz251_)
           have q104 : x5_2 < (l0_2.length : Int) := of_decide_eq_true (pz251_)
           lz251_
           cases e104
           lz252_
           lz253_
           replace p104 := eq_true p104
           replace q104 := eq_true q104
           have p105 : 0 ≤ (x5_2 : Int) := of_decide_eq_true (pz251_)
           have q105 : x5_2 < (l1_2.length : Int) := of_decide_eq_true (pz251_)
           lz254_
           cases e105
           lz255_
           lz256_
           replace p105 := eq_true p105
           replace q105 := eq_true q105
           have p106 : 0 ≤ (x5_2 : Int) := of_decide_eq_true (pz251_)
           have q106 : x5_2 < (l0_2.length : Int) := of_decide_eq_true (pz251_)
           obtain ⟨ad106, e106, hx106_0, hx106_1⟩ := at_T103 HR0_2.out x5_2 p106 q106
           obtain rfl : ad104 = ad106 := (by injection e106)
           replace hx106_0 := (HB.out.cell (World.block_lt_of_cell? w _ hx106_0)).trans hx106_0
           replace hx106_1 := (HB.out.cell (World.block_lt_of_cell? w _ hx106_1)).trans hx106_1
           replace p106 := eq_true p106
           replace q106 := eq_true q106
           have p107 : 0 ≤ (x5_2 : Int) := of_decide_eq_true (pz251_)
           have q107 : x5_2 < (l1_2.length : Int) := of_decide_eq_true (pz251_)
           obtain ⟨ad107, e107, hx107_0, hx107_1⟩ := at_T102 HR1_2.out x5_2 p107 q107
           obtain rfl : ad105 = ad107 := (by injection e107)
           replace hx107_0 := (HB.out.cell (World.block_lt_of_cell? w _ hx107_0)).trans hx107_0
           replace hx107_1 := (HB.out.cell (World.block_lt_of_cell? w _ hx107_1)).trans hx107_1
           replace p107 := eq_true p107
           replace q107 := eq_true q107
           go_wp2
           repeat (go_quiet (fail); try go_wp2)
           go_roundg k2
           case measure => have := HJ2.out; have := HK2.out; omega
           case rel => exact ⟨(wrap64 (x5_2 + 1)), (pz254_), H', ⟨by have := HJ2.out; have := HK2.out; omega⟩, ⟨by qk_; exact BK101.out⟩, ⟨by qk_; exact BK102.out⟩, ⟨by qb2_ GE101 GE102⟩⟩
          ·rw [if_neg c35] at H
           have c35b0 : (((rd_T103 l0_2 x5_2).f1) == ((rd_T102 l1_2 x5_2).f1)) = false := beq_eq_false_iff_ne.mpr c35
           have c35b1 : (((rd_T103 l0_2 x5_2).f1) != ((rd_T102 l1_2 x5_2).f1)) = true := bne_iff_ne.mpr c35
           obtain rfl := Option.some.inj H
           have hnb39 := NB102_101.out
           have hnc39 := NB101_102.out
           have hcz40_0 : wr.cell? ⟨gb102, 0, none⟩ = some (.int .i64 a1_0) := (blk_cell BK102.out 0).trans rfl
           have hcz40_1 : wr.cell? ⟨gb102, 1, none⟩ = some (.int .i64 a1_1) := (blk_cell BK102.out 1).trans rfl
           have hcz40_2 : wr.cell? ⟨gb102, 2, none⟩ = some (.slice A1_2 l1_2.length c1_2) := (blk_cell BK102.out 2).trans rfl
           have hcz40_3 : wr.cell? ⟨gb102, 3, none⟩ = some (.int .i64 a1_3) := (blk_cell BK102.out 3).trans rfl
           have hcz40_4 : wr.cell? ⟨gb102, 4, none⟩ = some (.slice A1_4 l1_4.length c1_4) := (blk_cell BK102.out 4).trans rfl
           have hcz40_5 : wr.cell? ⟨gb102, 5, none⟩ = some (.int .i64 a1_5) := (blk_cell BK102.out 5).trans rfl
           have hfz40_0 := blk_frozen BK102.out 0
           have hfz40_1 := blk_frozen BK102.out 1
           have hfz40_2 := blk_frozen BK102.out 2
           have hfz40_3 := blk_frozen BK102.out 3
           have hfz40_4 := blk_frozen BK102.out 4
           have hfz40_5 := blk_frozen BK102.out 5
           have hcz41_0 : wr.cell? ⟨gb101, 0, none⟩ = some (.int .i64 a0_0) := (blk_cell BK101.out 0).trans rfl
           have hcz41_1 : wr.cell? ⟨gb101, 1, none⟩ = some (.int .i64 a0_1) := (blk_cell BK101.out 1).trans rfl
           have hcz41_2 : wr.cell? ⟨gb101, 2, none⟩ = some (.slice A0_2 l0_2.length c0_2) := (blk_cell BK101.out 2).trans rfl
           have hcz41_3 : wr.cell? ⟨gb101, 3, none⟩ = some (.int .i64 a0_3) := (blk_cell BK101.out 3).trans rfl
           have hcz41_4 : wr.cell? ⟨gb101, 4, none⟩ = some (.slice A0_4 l0_4.length c0_4) := (blk_cell BK101.out 4).trans rfl
           have hcz41_5 : wr.cell? ⟨gb101, 5, none⟩ = some (.int .i64 a0_5) := (blk_cell BK101.out 5).trans rfl
           have hfz41_0 := blk_frozen BK101.out 0
           have hfz41_1 := blk_frozen BK101.out 1
           have hfz41_2 := blk_frozen BK101.out 2
           have hfz41_3 := blk_frozen BK101.out 3
           have hfz41_4 := blk_frozen BK101.out 4
           have hfz41_5 := blk_frozen BK101.out 5
           have p104 : 0 ≤ (x5_2 : Int) := of_decide_eq_true (pz251_)
           have q104 : x5_2 < (l0_2.length : Int) := of_decide_eq_true (pz251_)
           lz251_
           cases e104
           lz252_
           lz253_
           replace p104 := eq_true p104
           replace q104 := eq_true q104
           have p105 : 0 ≤ (x5_2 : Int) := of_decide_eq_true (pz251_)
           have q105 : x5_2 < (l1_2.length : Int) := of_decide_eq_true (pz251_)
           lz254_
           cases e105
           lz255_
           lz256_
           replace p105 := eq_true p105
           replace q105 := eq_true q105
           have p106 : 0 ≤ (x5_2 : Int) := of_decide_eq_true (pz251_)
           have q106 : x5_2 < (l0_2.length : Int) := of_decide_eq_true (pz251_)
           obtain ⟨ad106, e106, hx106_0, hx106_1⟩ := at_T103 HR0_2.out x5_2 p106 q106
           obtain rfl : ad104 = ad106 := (by injection e106)
           replace hx106_0 := (HB.out.cell (World.block_lt_of_cell? w _ hx106_0)).trans hx106_0
           replace hx106_1 := (HB.out.cell (World.block_lt_of_cell? w _ hx106_1)).trans hx106_1
           replace p106 := eq_true p106
           replace q106 := eq_true q106
           have p107 : 0 ≤ (x5_2 : Int) := of_decide_eq_true (pz251_)
           have q107 : x5_2 < (l1_2.length : Int) := of_decide_eq_true (pz251_)
           obtain ⟨ad107, e107, hx107_0, hx107_1⟩ := at_T102 HR1_2.out x5_2 p107 q107
           obtain rfl : ad105 = ad107 := (by injection e107)
           replace hx107_0 := (HB.out.cell (World.block_lt_of_cell? w _ hx107_0)).trans hx107_0
           replace hx107_1 := (HB.out.cell (World.block_lt_of_cell? w _ hx107_1)).trans hx107_1
           replace p107 := eq_true p107
           replace q107 := eq_true q107
           go_wp2
           repeat (go_quiet (fail); try go_wp2)
           go_ret
           lz250_
         ·rw [if_neg c34] at H
          have c34b0 : (((rd_T103 l0_2 x5_2).f0) == ((rd_T102 l1_2 x5_2).f0)) = false := beq_eq_false_iff_ne.mpr c34
          have c34b1 : (((rd_T103 l0_2 x5_2).f0) != ((rd_T102 l1_2 x5_2).f0)) = true := bne_iff_ne.mpr c34
          obtain rfl := Option.some.inj H
          have hnb42 := NB102_101.out
          have hnc42 := NB101_102.out
          have hcz43_0 : wr.cell? ⟨gb102, 0, none⟩ = some (.int .i64 a1_0) := (blk_cell BK102.out 0).trans rfl
          have hcz43_1 : wr.cell? ⟨gb102, 1, none⟩ = some (.int .i64 a1_1) := (blk_cell BK102.out 1).trans rfl
          have hcz43_2 : wr.cell? ⟨gb102, 2, none⟩ = some (.slice A1_2 l1_2.length c1_2) := (blk_cell BK102.out 2).trans rfl
          have hcz43_3 : wr.cell? ⟨gb102, 3, none⟩ = some (.int .i64 a1_3) := (blk_cell BK102.out 3).trans rfl
          have hcz43_4 : wr.cell? ⟨gb102, 4, none⟩ = some (.slice A1_4 l1_4.length c1_4) := (blk_cell BK102.out 4).trans rfl
          have hcz43_5 : wr.cell? ⟨gb102, 5, none⟩ = some (.int .i64 a1_5) := (blk_cell BK102.out 5).trans rfl
          have hfz43_0 := blk_frozen BK102.out 0
          have hfz43_1 := blk_frozen BK102.out 1
          have hfz43_2 := blk_frozen BK102.out 2
          have hfz43_3 := blk_frozen BK102.out 3
          have hfz43_4 := blk_frozen BK102.out 4
          have hfz43_5 := blk_frozen BK102.out 5
          have hcz44_0 : wr.cell? ⟨gb101, 0, none⟩ = some (.int .i64 a0_0) := (blk_cell BK101.out 0).trans rfl
          have hcz44_1 : wr.cell? ⟨gb101, 1, none⟩ = some (.int .i64 a0_1) := (blk_cell BK101.out 1).trans rfl
          have hcz44_2 : wr.cell? ⟨gb101, 2, none⟩ = some (.slice A0_2 l0_2.length c0_2) := (blk_cell BK101.out 2).trans rfl
          have hcz44_3 : wr.cell? ⟨gb101, 3, none⟩ = some (.int .i64 a0_3) := (blk_cell BK101.out 3).trans rfl
          have hcz44_4 : wr.cell? ⟨gb101, 4, none⟩ = some (.slice A0_4 l0_4.length c0_4) := (blk_cell BK101.out 4).trans rfl
          have hcz44_5 : wr.cell? ⟨gb101, 5, none⟩ = some (.int .i64 a0_5) := (blk_cell BK101.out 5).trans rfl
          have hfz44_0 := blk_frozen BK101.out 0
          have hfz44_1 := blk_frozen BK101.out 1
          have hfz44_2 := blk_frozen BK101.out 2
          have hfz44_3 := blk_frozen BK101.out 3
          have hfz44_4 := blk_frozen BK101.out 4
          have hfz44_5 := blk_frozen BK101.out 5
          have p104 : 0 ≤ (x5_2 : Int) := of_decide_eq_true (pz251_)
          have q104 : x5_2 < (l0_2.length : Int) := of_decide_eq_true (pz251_)
          lz251_
          cases e104
          lz252_
          lz253_
          replace p104 := eq_true p104
          replace q104 := eq_true q104
          have p105 : 0 ≤ (x5_2 : Int) := of_decide_eq_true (pz251_)
          have q105 : x5_2 < (l1_2.length : Int) := of_decide_eq_true (pz251_)
          lz254_
          cases e105
          lz255_
          lz256_
          replace p105 := eq_true p105
          replace q105 := eq_true q105
          go_wp2
          repeat (go_quiet (fail); try go_wp2)
          go_ret
          lz250_
        ·rw [if_neg c33] at H
         exact absurd H (by simp)
       ·rw [if_neg c32] at H
        exact absurd H (by simp)
      ·rw [if_neg c31] at H
       have c31b0 : decide (x5_2 < (l1_2.length : Int)) = false := decide_eq_false c31
       clear c31
       obtain rfl := Option.some.inj H
       have hnb45 := NB102_101.out
       have hnc45 := NB101_102.out
       have hcz46_0 : wr.cell? ⟨gb102, 0, none⟩ = some (.int .i64 a1_0) := (blk_cell BK102.out 0).trans rfl
       have hcz46_1 : wr.cell? ⟨gb102, 1, none⟩ = some (.int .i64 a1_1) := (blk_cell BK102.out 1).trans rfl
       have hcz46_2 : wr.cell? ⟨gb102, 2, none⟩ = some (.slice A1_2 l1_2.length c1_2) := (blk_cell BK102.out 2).trans rfl
       have hcz46_3 : wr.cell? ⟨gb102, 3, none⟩ = some (.int .i64 a1_3) := (blk_cell BK102.out 3).trans rfl
       have hcz46_4 : wr.cell? ⟨gb102, 4, none⟩ = some (.slice A1_4 l1_4.length c1_4) := (blk_cell BK102.out 4).trans rfl
       have hcz46_5 : wr.cell? ⟨gb102, 5, none⟩ = some (.int .i64 a1_5) := (blk_cell BK102.out 5).trans rfl
       have hfz46_0 := blk_frozen BK102.out 0
       have hfz46_1 := blk_frozen BK102.out 1
       have hfz46_2 := blk_frozen BK102.out 2
       have hfz46_3 := blk_frozen BK102.out 3
       have hfz46_4 := blk_frozen BK102.out 4
       have hfz46_5 := blk_frozen BK102.out 5
       go_wp2
       repeat (go_quiet (fail); try go_wp2)
       go_ret
       lz250_
end Go.Proofs.YtbcleckapamicaaDoor.QFd
namespace Go.Proofs.YtbcleckapamicaaDoor.QFd
open Go.Proofs.YtbcleckapamicaaDoor.QFr (S58 S62 at_T58 at_T62 k103 k58 k58_openM k62 rd_T58 rd_T62 z58)
open Go.RowKit Go.Proofs.YtbcleckapamicaaDoorW.PrintWords Go.Proofs.YtbcleckapamicaaDoorW.PrintLast Go.Proofs.YtbcleckapamicaaDoorW.PrintMore
attribute [local go_sem] max2_int min2_int max_two min_two max_three min_three max_four min_four
set_option linter.unusedVariables false
set_option linter.unusedSimpArgs false
open Go.Proofs.YtbcleckapamicaaDoor.Gv (TB TB.below TB.alloc TB.drew TB.drewN)
open Go.Proofs.YtbcleckapamicaaDoor.QFr (frame_Write.f frame_Write.calls frame_Write.mono shibbolethlaw06_light.f shibbolethlaw06_light.calls shibbolethlaw06_light.mono shibbolethlaw06_all.f shibbolethlaw06_all.calls shibbolethlaw06_all.mono shibbolethlaw06_awake.f shibbolethlaw06_awake.calls shibbolethlaw06_awake.mono)
open Go.Proofs.YtbcleckapamicaaDoor.Fd (frame_Read.f frame_Read.calls)
set_option hygiene false
local macro "pa260_" : term => `((by (try simp only [List.map_toArray, List.map_cons, List.map_nil]); first | done | rfl | (simp only [List.length_drop, List.length_take]; rfl)))
local macro "pa261_" : term => `((if bt112.2 = 0 then ((frame_Read.f bt112.1).bind fun bt117 => (if bt117.2 = 0 then (shibbolethlaw06_FrameBack.j0 k l0 bt117.1 ((bt117.1.length : Int) != (l0.length : Int))) else (shibbolethlaw06_FrameBack.j0 k l0 bt117.1 true))) else (if (bt112.1.length : Int) = 0 then ((shibbolethlaw06_awake.f k).bind fun t116 => (some t116)) else (some false))))
local macro "pa262_" : term => `((by repeat (first | (with_reducible exact HR121_4.out) | (with_reducible refine Kd.C_alloc ?_ _) | (with_reducible refine Kd.C_drewN ?_ _) | (with_reducible refine Kd.C_drew ?_) | exact HR121_4.out)))
local macro "pa263_" : term => `((by repeat (first | (with_reducible exact HR121_2.out) | (with_reducible refine Kd.C_alloc ?_ _) | (with_reducible refine Kd.C_drewN ?_ _) | (with_reducible refine Kd.C_drew ?_) | exact HR121_2.out)))
local macro "pa264_" : term => `((by (with_reducible repeat (first | apply Kd.S_alloc | apply Kd.S_drewN | apply Kd.S_drew)); exact HO111.out))
local macro "pa265_" : term => `((by first | (with_reducible assumption) | assumption))
local macro "pa266_" : term => `((if t108 = true then ((shibbolethlaw06_all.f k l0).bind fun t109 => ((frame_Write.f k t109).bind fun bt112 => (pa261_))) else (some true)))
local macro "pa267_" : term => `((by (with_reducible repeat (first | apply Kd.S_alloc | apply Kd.S_drewN | apply Kd.S_drew)); exact HO_5.out))
local macro "la260_" : tactic => `(tactic| (replace H := Option.bind_eq_some_iff.mp H))
local macro "la261_" : tactic => `(tactic| (exact ⟨by first | rfl | (simp [errW_none, errW_some] <;> rfl) | (simp [*, errW_none, errW_some] <;> rfl), by qc0_⟩))
local macro "la262_" : tactic => `(tactic| (obtain ⟨ad121, A121_2, c121_2, A121_4, c121_4, e121, hx121_0, hx121_1, hx121_2, hx121_3, hx121_4, hx121_5, hl121_2, hi121_2, hl121_4, hi121_4⟩ := at_T58 (Kd.S_reads' HO_5.out).2.2 x7_2 p121 q121))
local macro "la263_" : tactic => `(tactic| (obtain ⟨ce121, hce121, hMe121, hcc121⟩ := Kd.S_get HO_5.out z58 x7_2 p121 (by first | exact q121 | exact of_decide_eq_true (pa265_) | (have e_ := (Kd.S_reads' HO_5.out).1; omega))))
local macro "la264_" : tactic => `(tactic| (obtain ⟨ad122, A122_2, c122_2, A122_4, c122_4, e122, hx122_0, hx122_1, hx122_2, hx122_3, hx122_4, hx122_5, hl122_2, hi122_2, hl122_4, hi122_4⟩ := at_T62 HR0.out x7_2 p122 q122))
local macro "la265_" : tactic => `(tactic| (refine start_ (n := 10) (S := fun w' => w'.cell? (ad121.add ((x7_2).toNat * 6)) = some (.int .i64 ((rd_T58 t117 x7_2).f0)) ∧ w'.cell? ⟨(ad121.add ((x7_2).toNat * 6)).block, (ad121.add ((x7_2).toNat * 6)).off + 1, none⟩ = some (.int .i64 ((rd_T58 t117 x7_2).f1)) ∧ w'.cell? ⟨(ad121.add ((x7_2).toNat * 6)).block, (ad121.add ((x7_2).toNat * 6)).off + 2, none⟩ = some (.slice A121_2 ((rd_T58 t117 x7_2).f2).length c121_2) ∧ w'.cell? ⟨(ad121.add ((x7_2).toNat * 6)).block, (ad121.add ((x7_2).toNat * 6)).off + 3, none⟩ = some (.int .i64 ((rd_T58 t117 x7_2).f3)) ∧ w'.cell? ⟨(ad121.add ((x7_2).toNat * 6)).block, (ad121.add ((x7_2).toNat * 6)).off + 4, none⟩ = some (.slice A121_4 ((rd_T58 t117 x7_2).f4).length c121_4) ∧ w'.cell? ⟨(ad121.add ((x7_2).toNat * 6)).block, (ad121.add ((x7_2).toNat * 6)).off + 5, none⟩ = some (.int .i64 ((rd_T58 t117 x7_2).f5)) ∧ w'.cell? (ad122.add ((x7_2).toNat * 6)) = some (.int .i64 ((rd_T62 l0 x7_2).f0)) ∧ w'.cell? ⟨(ad122.add ((x7_2).toNat * 6)).block, (ad122.add ((x7_2).toNat * 6)).off + 1, none⟩ = some (.int .i64 ((rd_T62 l0 x7_2).f1)) ∧ w'.cell? ⟨(ad122.add ((x7_2).toNat * 6)).block, (ad122.add ((x7_2).toNat * 6)).off + 2, none⟩ = some (.slice A122_2 ((rd_T62 l0 x7_2).f2).length c122_2) ∧ w'.cell? ⟨(ad122.add ((x7_2).toNat * 6)).block, (ad122.add ((x7_2).toNat * 6)).off + 3, none⟩ = some (.int .i64 ((rd_T62 l0 x7_2).f3)) ∧ w'.cell? ⟨(ad122.add ((x7_2).toNat * 6)).block, (ad122.add ((x7_2).toNat * 6)).off + 4, none⟩ = some (.slice A122_4 ((rd_T62 l0 x7_2).f4).length c122_4) ∧ w'.cell? ⟨(ad122.add ((x7_2).toNat * 6)).block, (ad122.add ((x7_2).toNat * 6)).off + 5, none⟩ = some (.int .i64 ((rd_T62 l0 x7_2).f5))) (ds := []) #[false, false, false, false, false, false, false, false, false, false] (by kernel_rfl) rfl rfl ⟨hx121_0, hx121_1, hx121_2, hx121_3, hx121_4, hx121_5, ((HB.out.cell (World.block_lt_of_cell? w _ hw122_0)).trans hw122_0), ((HB.out.cell (World.block_lt_of_cell? w _ hw122_1)).trans hw122_1), ((HB.out.cell (World.block_lt_of_cell? w _ hw122_2)).trans hw122_2), ((HB.out.cell (World.block_lt_of_cell? w _ hw122_3)).trans hw122_3), ((HB.out.cell (World.block_lt_of_cell? w _ hw122_4)).trans hw122_4), ((HB.out.cell (World.block_lt_of_cell? w _ hw122_5)).trans hw122_5)⟩ (fun hHeld => ?_); refine with_tabW shibbolethlaw06_FrameBack.tab12 shibbolethlaw06_FrameBack.bits12 (fun HT_ HW_ => ?_)))
local macro "la266_" : tactic => `(tactic| (refine pure_ (i := 0) (N := some 45) (v := ?_) (a' := ?_) #[true, false, false, false, false, false, false, false, false, false] rfl rfl (any_of HT_.out (by kernel_rfl)) (fun _ _ _ h => h) (Or.inl ⟨by rfl, ?_⟩) ?_ ?_))
local macro "la267_" : tactic => `(tactic| (refine pure_ (i := 1) (N := some 46) (v := ?_) (a' := ?_) #[true, true, false, false, false, false, false, false, false, false] rfl rfl (any_of HT_.out (by kernel_rfl)) (fun _ _ _ h => h) (Or.inl ⟨by rfl, ?_⟩) ?_ ?_))
local macro "la268_" : tactic => `(tactic| (refine pure_ (i := 2) (N := some 47) (v := ?_) (a' := ?_) #[true, true, true, false, false, false, false, false, false, false] rfl rfl (any_of HT_.out (by kernel_rfl)) (fun _ _ _ h => h) (Or.inl ⟨by rfl, ?_⟩) ?_ ?_))
local macro "la269_" : tactic => `(tactic| (refine pure_ (i := 4) (N := some 49) (v := ?_) (a' := ?_) #[true, true, true, false, true, false, false, false, false, false] rfl rfl (any_of HT_.out (by kernel_rfl)) (fun _ _ _ h => h) (Or.inl ⟨by rfl, ?_⟩) ?_ ?_))
local macro "la2610_" : tactic => `(tactic| (refine pure_ (i := 5) (N := some 50) (v := ?_) (a' := ?_) #[true, true, true, false, true, true, false, false, false, false] rfl rfl (any_of HT_.out (by kernel_rfl)) (fun _ _ _ h => h) (Or.inl ⟨by rfl, ?_⟩) ?_ ?_))
local macro "la2611_" : tactic => `(tactic| (refine pure_ (i := 6) (N := some 51) (v := ?_) (a' := ?_) #[true, true, true, false, true, true, true, false, false, false] rfl rfl (any_of HT_.out (by kernel_rfl)) (fun _ _ _ h => h) (Or.inl ⟨by rfl, ?_⟩) ?_ ?_))
local macro "la2612_" : tactic => `(tactic| (refine take_ (i := 3) (N := some 48) (v := ?_) (a' := ?_) #[true, true, true, true, true, true, true, false, false, false] rfl rfl (take_ofW HT_.out HW_.out (by kernel_rfl)) (fun _ _ _ h => h) (Or.inl ⟨by rfl, ?_⟩) hHeld ?_ ?_))
local macro "la2613_" : tactic => `(tactic| (rintro w' ⟨s0, s1, s2, s3, s4, s5, s6, s7, s8, s9, s10, s11⟩))
local macro "la2614_" : tactic => `(tactic| (refine take_ (i := 7) (N := some 52) (v := ?_) (a' := ?_) #[true, true, true, true, true, true, true, true, false, false] rfl rfl (take_ofW HT_.out HW_.out (by kernel_rfl)) (fun _ _ _ h => h) (Or.inl ⟨by rfl, ?_⟩) hHeld ?_ ?_))
local macro "la2615_" : tactic => `(tactic| (refine one_ (i := 8) (N := some 53) #[true, true, true, true, true, true, true, true, true, false] rfl rfl (one_of HT_.out (by kernel_rfl)) (by decide) (fun K hK => ?_)))
local macro "la2616_" : tactic => `(tactic| (refine goes_ Tryd.func56 (by kernel_rfl) rfl #[.agg #[.int .i64 ((rd_T58 t117 x7_2).f0), .int .i64 ((rd_T58 t117 x7_2).f1), .slice A121_2 ((rd_T58 t117 x7_2).f2).length c121_2, .int .i64 ((rd_T58 t117 x7_2).f3), .slice A121_4 ((rd_T58 t117 x7_2).f4).length c121_4, .int .i64 ((rd_T58 t117 x7_2).f5)], .agg #[.int .i64 ((rd_T62 l0 x7_2).f0), .int .i64 ((rd_T62 l0 x7_2).f1), .slice A122_2 ((rd_T62 l0 x7_2).f2).length c122_2, .int .i64 ((rd_T62 l0 x7_2).f3), .slice A122_4 ((rd_T62 l0 x7_2).f4).length c122_4, .int .i64 ((rd_T62 l0 x7_2).f5)]] (by rfl) rfl rfl (pa260_) ?_))
local macro "la2617_" : tactic => `(tactic| ((case side1 => repeat (first | exact (pa263_) | (with_reducible refine Kd.C_alloc ?_ _) | (with_reducible refine Kd.C_drewN ?_ _) | (with_reducible refine Kd.C_drew ?_)))))
local macro "la2618_" : tactic => `(tactic| ((case side3 => repeat (first | exact (pa262_) | (with_reducible refine Kd.C_alloc ?_ _) | (with_reducible refine Kd.C_drewN ?_ _) | (with_reducible refine Kd.C_drew ?_)))))
local macro "la2619_" : tactic => `(tactic| ((case side5 => repeat (first | exact (Kd.C_below HR122_2.out HB.out) | exact HR122_2.out | (with_reducible refine Kd.C_alloc ?_ _) | (with_reducible refine Kd.C_drewN ?_ _) | (with_reducible refine Kd.C_drew ?_)))))
local macro "la2620_" : tactic => `(tactic| ((case side7 => repeat (first | exact (Kd.C_below HR122_4.out HB.out) | exact HR122_4.out | (with_reducible refine Kd.C_alloc ?_ _) | (with_reducible refine Kd.C_drewN ?_ _) | (with_reducible refine Kd.C_drew ?_)))))
local macro "la2621_" : tactic => `(tactic| (refine hK.out _ _ ⟨HS0_, HS1_, HS2_, HS3_, HS4_, HS5_, ((HB.out.cell (World.block_lt_of_cell? w _ hw122_0)).trans hw122_0), ((HB.out.cell (World.block_lt_of_cell? w _ hw122_1)).trans hw122_1), ((HB.out.cell (World.block_lt_of_cell? w _ hw122_2)).trans hw122_2), ((HB.out.cell (World.block_lt_of_cell? w _ hw122_3)).trans hw122_3), ((HB.out.cell (World.block_lt_of_cell? w _ hw122_4)).trans hw122_4), ((HB.out.cell (World.block_lt_of_cell? w _ hw122_5)).trans hw122_5)⟩ (fun hHeld => ?_)))
local macro "la2622_" : tactic => `(tactic| (refine pure_ (i := 9) (N := some 54) (v := ?_) (a' := ?_) #[true, true, true, true, true, true, true, true, true, true] rfl rfl (any_of HT_.out (by kernel_rfl)) (fun _ _ _ h => h) (Or.inl ⟨by rfl, ?_⟩) ?_ ?_))
set_option hygiene true
mutual
def shibbolethlaw06_FrameBack.j0 : Nat → List (S62) → List (S58) → Bool → Option (Bool)
 | 0, _, _, _ => none
 | k + 1, x0, x5, x38 => if x38 = true then (some false) else (shibbolethlaw06_FrameBack.l0 k x0 x5 0)
def shibbolethlaw06_FrameBack.l0 : Nat → List (S62) → List (S58) → Int → Option (Bool)
 | 0, _, _, _ => none
 | k + 1, x0, x5, x7 => if x7 < (x0.length : Int) then (if 0 ≤ x7 then (if x7 < (x5.length : Int) then ((shibbolethlaw06_told.f k ((rd_T58 x5 x7).f0) ((rd_T58 x5 x7).f1) ((rd_T58 x5 x7).f2) ((rd_T58 x5 x7).f3) ((rd_T58 x5 x7).f4) ((rd_T58 x5 x7).f5) ((rd_T62 x0 x7).f0) ((rd_T62 x0 x7).f1) ((rd_T62 x0 x7).f2) ((rd_T62 x0 x7).f3) ((rd_T62 x0 x7).f4) ((rd_T62 x0 x7).f5)).bind fun t123 => (if t123 = true then (shibbolethlaw06_FrameBack.l0 k x0 x5 (wrap64 (x7 + 1))) else (some false))) else (none)) else (none)) else ((shibbolethlaw06_awake.f k).bind fun t124 => (some t124))
end
def shibbolethlaw06_FrameBack.f (k : Nat) (l0 : List (S62)) : Option (Bool) := (shibbolethlaw06_light.f k l0).bind fun t108 => (pa266_)
theorem shibbolethlaw06_FrameBack.mono_l : ∀ k, (∀ y0 y1 y2, LeO (shibbolethlaw06_FrameBack.j0 k y0 y1 y2) (shibbolethlaw06_FrameBack.j0 (k + 1) y0 y1 y2)) ∧ (∀ y0 y1 y2, LeO (shibbolethlaw06_FrameBack.l0 k y0 y1 y2) (shibbolethlaw06_FrameBack.l0 (k + 1) y0 y1 y2))
 | 0 => ⟨fun _ _ _ r h => by simp [shibbolethlaw06_FrameBack.j0] at h, fun _ _ _ r h => by simp [shibbolethlaw06_FrameBack.l0] at h⟩
 | k + 1 => by
  obtain ⟨ih0, ih1⟩ := shibbolethlaw06_FrameBack.mono_l k
  refine ⟨?_, ?_⟩
  ·intro y0 y1 y2
   unfold shibbolethlaw06_FrameBack.j0
   repeat' first
   | (with_reducible exact ih0 _ _ _)
   | (with_reducible exact ih1 _ _ _)
   | (with_reducible exact frame_Write.mono _ _)
   | (with_reducible exact shibbolethlaw06_all.mono _ _)
   | (with_reducible exact shibbolethlaw06_awake.mono _)
   | (with_reducible exact shibbolethlaw06_light.mono _ _)
   | (with_reducible exact shibbolethlaw06_told.mono _ _ _ _ _ _ _ _ _ _ _ _ _)
   | (with_reducible exact LeO.refl _)
   | (with_reducible exact LeO.none _)
   | (with_reducible refine LeO.ite ?_ ?_)
   | (with_reducible refine LeO.bind ?_ (fun _ => ?_))
   | exact ih0 _ _ _
   | exact ih1 _ _ _
   | exact frame_Write.mono _ _
   | exact shibbolethlaw06_all.mono _ _
   | exact shibbolethlaw06_awake.mono _
   | exact shibbolethlaw06_light.mono _ _
   | exact shibbolethlaw06_told.mono _ _ _ _ _ _ _ _ _ _ _ _ _
   | exact LeO.none _
   | refine LeO.ite ?_ ?_
   | refine LeO.bind ?_ (fun _ => ?_)
  ·intro y0 y1 y2
   unfold shibbolethlaw06_FrameBack.l0
   repeat' first
   | (with_reducible exact ih0 _ _ _)
   | (with_reducible exact ih1 _ _ _)
   | (with_reducible exact frame_Write.mono _ _)
   | (with_reducible exact shibbolethlaw06_all.mono _ _)
   | (with_reducible exact shibbolethlaw06_awake.mono _)
   | (with_reducible exact shibbolethlaw06_light.mono _ _)
   | (with_reducible exact shibbolethlaw06_told.mono _ _ _ _ _ _ _ _ _ _ _ _ _)
   | (with_reducible exact LeO.refl _)
   | (with_reducible exact LeO.none _)
   | (with_reducible refine LeO.ite ?_ ?_)
   | (with_reducible refine LeO.bind ?_ (fun _ => ?_))
   | exact ih0 _ _ _
   | exact ih1 _ _ _
   | exact frame_Write.mono _ _
   | exact shibbolethlaw06_all.mono _ _
   | exact shibbolethlaw06_awake.mono _
   | exact shibbolethlaw06_light.mono _ _
   | exact shibbolethlaw06_told.mono _ _ _ _ _ _ _ _ _ _ _ _ _
   | exact LeO.none _
   | refine LeO.ite ?_ ?_
   | refine LeO.bind ?_ (fun _ => ?_)
theorem shibbolethlaw06_FrameBack.mono : ∀ a0 k, LeO (shibbolethlaw06_FrameBack.f k a0) (shibbolethlaw06_FrameBack.f (k + 1) a0) := by
 intro a0 k
 obtain ⟨ih0, ih1⟩ := shibbolethlaw06_FrameBack.mono_l k
 unfold shibbolethlaw06_FrameBack.f
 repeat' first
   | (with_reducible exact ih0 _ _ _)
   | (with_reducible exact ih1 _ _ _)
   | (with_reducible exact frame_Write.mono _ _)
   | (with_reducible exact shibbolethlaw06_all.mono _ _)
   | (with_reducible exact shibbolethlaw06_awake.mono _)
   | (with_reducible exact shibbolethlaw06_light.mono _ _)
   | (with_reducible exact shibbolethlaw06_told.mono _ _ _ _ _ _ _ _ _ _ _ _ _)
   | (with_reducible exact LeO.refl _)
   | (with_reducible exact LeO.none _)
   | (with_reducible refine LeO.ite ?_ ?_)
   | (with_reducible refine LeO.bind ?_ (fun _ => ?_))
   | exact ih0 _ _ _
   | exact ih1 _ _ _
   | exact frame_Write.mono _ _
   | exact shibbolethlaw06_all.mono _ _
   | exact shibbolethlaw06_awake.mono _
   | exact shibbolethlaw06_light.mono _ _
   | exact shibbolethlaw06_told.mono _ _ _ _ _ _ _ _ _ _ _ _ _
   | exact LeO.none _
   | refine LeO.ite ?_ ?_
   | refine LeO.bind ?_ (fun _ => ?_)
def shibbolethlaw06_FrameBack.T12 : Bool × List (List Nat × List Nat) := (true, [([], []), ([], []), ([0, 1], [0, 1]), ([2], [2]), ([], []), ([], []), ([4, 5], [4, 5]), ([6], [6]), ([3, 7], [3, 7]), ([8], [8])])
def shibbolethlaw06_FrameBack.B12 : List Nat := [0, 0, 3, 7, 0, 0, 48, 112, 255, 511]
theorem shibbolethlaw06_FrameBack.tab12 : rtab .any (opsOf Tryd.f17 12) = shibbolethlaw06_FrameBack.T12 := by kernel_rfl
theorem shibbolethlaw06_FrameBack.bits12 : waitsOk shibbolethlaw06_FrameBack.T12.2 shibbolethlaw06_FrameBack.B12 = true := by kernel_rfl
set_option maxHeartbeats 8000000 in
set_option maxRecDepth 100000 in
theorem shibbolethlaw06_FrameBack.calls (k : Nat) (A0 : Option Addr) (c0 : Nat) (l0 : List (S62)) (r : Bool) (w : World) (hr0 : Kd.C k62 w A0 l0.length l0) (hc0 : l0.length ≤ c0) (ht : TB w) (h : shibbolethlaw06_FrameBack.f k l0 = some r) :
  Calls Tryd.prog 17 #[.slice A0 l0.length c0] w fun e w' => e = .returned (.bool r) ∧ Below w.heap.size w w' := by
 have HT := Aside0.mk ht
 clear ht
 have hu58 := Tryd.underlying58
 have hu62 := Tryd.underlying62
 have HR0 := Aside0.mk hr0
 have HC0 := Aside0.mk hc0
 clear hr0 hc0
 have HB := Aside0.mk (Below.refl w.heap.size w)
 have H : ((shibbolethlaw06_light.f k l0).bind fun t108 => (pa266_)) = some r := h
 clear h
 la260_
 obtain ⟨t108, A20, H⟩ := H
 replace H : (pa266_) = some r := H
 have A2 := Aside0.mk A20
 clear A20
 by_cases c3 : t108 = true
 ·subst c3
  have H1 : ((shibbolethlaw06_all.f k l0).bind fun t109 => ((frame_Write.f k t109).bind fun bt112 => (pa261_))) = some r := by rw [if_pos rfl] at H; exact H
  clear H
  have H := H1
  clear H1
  la260_
  obtain ⟨t109, A40, H⟩ := H
  replace H : ((frame_Write.f k t109).bind fun bt112 => (pa261_)) = some r := H
  have A4 := Aside0.mk A40
  clear A40
  la260_
  obtain ⟨⟨t112, t113⟩, A50, H⟩ := H
  replace H : (if t113 = 0 then ((frame_Read.f t112).bind fun bt117 => (if bt117.2 = 0 then (shibbolethlaw06_FrameBack.j0 k l0 bt117.1 ((bt117.1.length : Int) != (l0.length : Int))) else (shibbolethlaw06_FrameBack.j0 k l0 bt117.1 true))) else (if (t112.length : Int) = 0 then ((shibbolethlaw06_awake.f k).bind fun t116 => (some t116)) else (some false))) = some r := H
  have A5 := Aside0.mk A50
  clear A50
  by_cases c6 : t113 = 0
  ·rw [if_pos c6] at H
   have c6b0 : (t113 == 0) = true := beq_iff_eq.mpr c6
   have c6b1 : (t113 != 0) = false := bne_eq_false_iff_eq.mpr c6
   clear c6
   la260_
   obtain ⟨⟨t117, t118⟩, A70, H⟩ := H
   replace H : (if t118 = 0 then (shibbolethlaw06_FrameBack.j0 k l0 t117 ((t117.length : Int) != (l0.length : Int))) else (shibbolethlaw06_FrameBack.j0 k l0 t117 true)) = some r := H
   have A7 := Aside0.mk A70
   clear A70
   have HC8 := Aside0.mk H
   clear H
   go_enter Tryd.func17, Tryd.ntmps17
   go_upto_region 7 with (first | ((with_reducible refine gate_callee (f := 41) rfl ?_); refine goesL_ (some 9) rfl rfl Tryd.func41 (by kernel_rfl) rfl #[.slice A0 l0.length c0] rfl (pa260_) ?_; (with_reducible refine (shibbolethlaw06_light.calls k _ _ l0 true _ ?side1 ?side2 A2.out).mono ?_); (case side1 => repeat (first | exact HR0.out | (with_reducible refine Kd.C_alloc ?_ _) | (with_reducible refine Kd.C_drewN ?_ _) | (with_reducible refine Kd.C_drew ?_))); (case side2 => exact HC0.out); rintro e w' ⟨rfl, ⟨nd, rfl⟩⟩; refine ⟨_, rfl, ?_⟩) | ((with_reducible refine gate_callee (f := 46) rfl ?_); refine goesL_ (some 13) rfl rfl Tryd.func46 (by kernel_rfl) rfl #[.slice A0 l0.length c0] rfl (pa260_) ?_; (with_reducible refine (shibbolethlaw06_all.calls k _ _ l0 t109 _ ?side1 ?side2 A4.out).mono ?_); (case side1 => repeat (first | exact HR0.out | (with_reducible refine Kd.C_alloc ?_ _) | (with_reducible refine Kd.C_drewN ?_ _) | (with_reducible refine Kd.C_drew ?_))); (case side2 => exact HC0.out); rintro e w9 ⟨v110, rfl, ho0, hb⟩; refine ⟨_, rfl, ?_⟩; have n0_ := Aside0.mk (Kd.S_lower ho0 (below_size (by qc0_))); have n1_ := Aside0.mk (below_step (by qc0_) hb); clear HB; have HO111 := n0_; have HB := n1_; clear n0_ n1_; (try clear hb); (try clear hb2); (try clear hk); (try clear hi); (try clear ho0); obtain ⟨Ao10, co10, eo10⟩ := Kd.S_slice HO111.out; subst eo10) | ((with_reducible refine gate_callee (f := 45) rfl ?_); refine goesL_ (some 14) rfl rfl Tryd.func45 (by kernel_rfl) rfl #[.slice Ao10 t109.length co10] rfl (pa260_) ?_; (with_reducible refine (frame_Write.calls k _ _ t109 t112 t113 _ ?side1 ?side2 ?sideT A5.out).mono ?_); (case sideT => repeat (first | exact HT.out | exact TB.below HT.out HB.out | exact TB.below HT.out HBW.out | (with_reducible refine TB.alloc ?_ _) | (with_reducible refine TB.drewN ?_ _) | (with_reducible refine TB.drew ?_))); (case side1 => repeat (first | exact (Kd.S_reads' HO111.out).2.2 | (with_reducible refine Kd.C_alloc ?_ _) | (with_reducible refine Kd.C_drewN ?_ _) | (with_reducible refine Kd.C_drew ?_))); (case side2 => exact (Kd.S_reads' HO111.out).2.1); rintro e w11 ⟨v114, rfl, ho0, hb⟩; refine ⟨_, rfl, ?_⟩; have n0_ := Aside0.mk (Kd.S_elder' (pa264_) (Kd.R_base ho0) hb); have n1_ := Aside0.mk (Kd.R_lower ho0 (below_size (by qc0_))); have n2_ := Aside0.mk (below_step (by qc0_) hb); clear HO111; clear HB; have HO111 := n0_; have HO115 := n1_; have HB := n2_; clear n0_ n1_ n2_; (try clear hb); (try clear hb2); (try clear hk); (try clear hi); (try clear ho0); obtain ⟨Ao12, co12, eo12⟩ := Kd.R_slice HO115.out; subst eo12) | ((with_reducible refine gate_callee (f := 54) rfl ?_); refine goesL_ (some 27) rfl rfl Tryd.func54 (by kernel_rfl) rfl #[.slice Ao12 t112.length co12] rfl (pa260_) ?_; (with_reducible refine (frame_Read.calls _ _ t112 t117 t118 _ ?side1 ?side2 A7.out).mono ?_); (case side1 => repeat (first | exact (Kd.R_reads' HO115.out).2.2 | (with_reducible refine Kd.C_alloc ?_ _) | (with_reducible refine Kd.C_drewN ?_ _) | (with_reducible refine Kd.C_drew ?_))); (case side2 => exact (Kd.R_reads' HO115.out).2.1); rintro e w13 ⟨v119, rfl, ho0, hb⟩; refine ⟨_, rfl, ?_⟩; have n0_ := Aside0.mk (Kd.S_elder' (pa264_) (Kd.S_base ho0) hb); have n1_ := Aside0.mk (Kd.R_below (by qR_; exact HO115.out) hb); have n2_ := Aside0.mk (Kd.S_lower (Kd.S_new' (Kd.S_new' ho0 (Kd.S_lt (pa264_))) (Kd.R_lt (by qR_; exact HO115.out))) (below_size (by qc0_))); have n3_ := Aside0.mk (below_step (by qc0_) hb); clear HO111; clear HO115; clear HB; have HO111 := n0_; have HO115 := n1_; have HO120 := n2_; have HB := n3_; clear n0_ n1_ n2_ n3_; (try clear hb); (try clear hb2); (try clear hk); (try clear hi); (try clear ho0)))
   (try simp only [Act.put, List.setIfInBounds_toArray, List.set_cons_zero, List.set_cons_succ])
   go_cut [38] (fun v38 wc => ∃ (kq : Nat) (x38_7 : Bool), v38 = .bool x38_7 ∧ Aside0 (shibbolethlaw06_FrameBack.j0 kq l0 t117 x38_7 = some r) ∧ Aside0 (kq ≤ k) ∧ Aside0 (Kd.S k58 58 wc w.heap.size (fun _ => True) v119 t117) ∧ Aside0 (Below w.heap.size w wc))
   case first =>
    have H := HC8.out
    clear HC8
    by_cases c14 : t118 = 0
    ·rw [if_pos c14] at H
     have c14b0 : (t118 == 0) = true := beq_iff_eq.mpr c14
     have c14b1 : (t118 != 0) = false := bne_eq_false_iff_eq.mpr c14
     clear c14
     (first | rw [c14b0] | (simp only [i64_w, i32_w]; rw [c14b0]) | skip)
     have H' := Aside0.mk H
     clear H
     obtain ⟨Ao15, co15, eo15⟩ := Kd.S_slice HO120.out
     subst eo15
     go_wp2
     go_meet
     case rel => exact ⟨_, (((t117.length : Int) != (l0.length : Int))), (by first | rfl | (simp; done) | (simp [*]; done)), H', ⟨by first | omega | exact Nat.le_refl _⟩, ⟨by (with_reducible repeat (first | apply Kd.S_alloc | apply Kd.S_drewN | apply Kd.S_drew)); exact Kd.S_mono HO120.out (fun _ hk => trivial)⟩, ⟨by qc0_⟩⟩
    ·rw [if_neg c14] at H
     have c14b0 : (t118 == 0) = false := beq_eq_false_iff_ne.mpr c14
     have c14b1 : (t118 != 0) = true := bne_iff_ne.mpr c14
     (first | rw [c14b0] | (simp only [i64_w, i32_w]; rw [c14b0]) | skip)
     have H' := Aside0.mk H
     clear H
     go_wp2
     go_meet
     case rel => exact ⟨_, (true), (by first | rfl | (simp; done) | (simp [*]; done)), H', ⟨by first | omega | exact Nat.le_refl _⟩, ⟨by (with_reducible repeat (first | apply Kd.S_alloc | apply Kd.S_drewN | apply Kd.S_drew)); exact Kd.S_mono HO120.out (fun _ hk => trivial)⟩, ⟨by qc0_⟩⟩
   case rest =>
    clear HC8
    try clear c1
    try clear p2
    try clear c3
    try clear c4
    try clear c5
    try clear c6
    try clear c6b0
    try clear c6b1
    try clear c14
    try clear c14b0
    try clear c14b1
    obtain ⟨kq, x38_7, rfl, HA, HJ7, HO_5, HB⟩ := hcut
    cases kq with
    | zero => exact absurd HA.out (by simp [shibbolethlaw06_FrameBack.j0])
    | succ kj7 =>
     have H := HA.out
     clear HA
     simp only [shibbolethlaw06_FrameBack.j0] at H
     by_cases c16 : x38_7 = true
     ·subst c16
      have H1 : (some false) = some r := by rw [if_pos rfl] at H; exact H
      clear H
      have H := H1
      clear H1
      obtain rfl := Option.some.inj H
      go_wp2
      go_ret
      la261_
     ·replace c16 := Bool.eq_false_iff.mpr c16
      subst c16
      have H1 : (shibbolethlaw06_FrameBack.l0 kj7 l0 t117 0) = some r := by rw [if_neg (show ¬ (false = true) by decide)] at H; exact H
      clear H
      have H := H1
      clear H1
      have H' := Aside0.mk H
      clear H
      go_wp2
      go_loopg [7] kj7 (fun kq v7 w' => ∃ (x7_2 : Int), v7 = .int .i64 x7_2 ∧ Aside0 (shibbolethlaw06_FrameBack.l0 kq l0 t117 x7_2 = some r) ∧ Aside0 (kq ≤ kj7) ∧ Aside0 (Kd.S k58 58 w' w.heap.size (fun _ => True) v119 t117) ∧ Aside0 (Below w.heap.size w w'))
      case atStart => exact ⟨(0), (by first | rfl | (simp; done) | (simp [*]; done)), H', ⟨Nat.le_refl _⟩, ⟨by (with_reducible repeat (first | apply Kd.S_alloc | apply Kd.S_drewN | apply Kd.S_drew)); exact HO_5.out⟩, ⟨by qc0_⟩⟩
      case round =>
       clear H'
       try clear c1
       try clear p2
       try clear c3
       try clear c4
       try clear c5
       try clear c6
       try clear c6b0
       try clear c6b1
       try clear c14
       try clear c14b0
       try clear c14b1
       try clear c16
       try clear p2
       obtain ⟨x7_2, rfl, HA, HK2, HO_5, HB⟩ := hrel
       cases gk with
       | zero => exact absurd HA.out (by simp [shibbolethlaw06_FrameBack.l0])
       | succ k2 =>
        have H := HA.out
        clear HA
        simp only [shibbolethlaw06_FrameBack.l0] at H
        by_cases c17 : x7_2 < (l0.length : Int)
        ·rw [if_pos c17] at H
         have c17b0 : decide (x7_2 < (l0.length : Int)) = true := decide_eq_true c17
         clear c17
         by_cases c18 : 0 ≤ x7_2
         ·rw [if_pos c18] at H
          have c18b0 : decide (0 ≤ x7_2) = true := decide_eq_true c18
          clear c18
          by_cases c19 : x7_2 < (t117.length : Int)
          ·rw [if_pos c19] at H
           have c19b0 : decide (x7_2 < (t117.length : Int)) = true := decide_eq_true c19
           clear c19
           la260_
           obtain ⟨t123, A200, H⟩ := H
           replace H : (if t123 = true then (shibbolethlaw06_FrameBack.l0 k2 l0 t117 (wrap64 (x7_2 + 1))) else (some false)) = some r := H
           have A20 := Aside0.mk A200
           clear A200
           by_cases c21 : t123 = true
           ·subst c21
            have H1 : (shibbolethlaw06_FrameBack.l0 k2 l0 t117 (wrap64 (x7_2 + 1))) = some r := by rw [if_pos rfl] at H; exact H
            clear H
            have H := H1
            clear H1
            have H' := Aside0.mk H
            clear H
            try go_wp2
            have n0_ := Aside0.mk (Kd.S_drew HO_5.out)
            have n1_ := Aside0.mk (below_drew1 HB.out)
            clear HO_5
            clear HB
            have HO_5 := n0_
            have HB := n1_
            clear n0_ n1_
            obtain ⟨Ao23, co23, eo23⟩ := Kd.S_slice HO_5.out
            (first | subst eo23 | (injection eo23 with f1_ f2_ f3_; have f4_ := f1_.symm; have f5_ := f3_.symm; clear f1_ f2_ f3_; subst f4_; subst f5_))
            have p121 : 0 ≤ (x7_2 : Int) := of_decide_eq_true (pa265_)
            have q121 : x7_2 < (t117.length : Int) := of_decide_eq_true (pa265_)
            la262_
            cases e121
            la263_
            obtain ⟨ve121_2, ve121_4, rfl, ge121_2, ge121_4⟩ := k58_openM hMe121
            have hv121_2 := hcc121 2 _ rfl
            rw [add_field _ _ 2 (by omega)] at hv121_2
            replace hv121_2 := Option.some.inj (hv121_2.symm.trans hx121_2)
            rw [hv121_2] at ge121_2
            have HL121_2 := Aside0.mk (show Kd.R k103 103 _ _ _ _ ((rd_T58 t117 x7_2).f2) from ge121_2)
            clear hv121_2 ge121_2
            have hv121_4 := hcc121 4 _ rfl
            rw [add_field _ _ 4 (by omega)] at hv121_4
            replace hv121_4 := Option.some.inj (hv121_4.symm.trans hx121_4)
            rw [hv121_4] at ge121_4
            have HL121_4 := Aside0.mk (show Kd.R (Kd.int .u8) 5 _ _ _ _ ((rd_T58 t117 x7_2).f4) from ge121_4)
            clear hv121_4 ge121_4
            clear hcc121 hce121
            have HR121_2 := Aside0.mk hi121_2
            have HC121_2 := Aside0.mk hl121_2
            clear hi121_2 hl121_2
            have HR121_4 := Aside0.mk hi121_4
            have HC121_4 := Aside0.mk hl121_4
            clear hi121_4 hl121_4
            replace p121 := eq_true p121
            replace q121 := eq_true q121
            have p122 : 0 ≤ (x7_2 : Int) := of_decide_eq_true (pa265_)
            have q122 : x7_2 < (l0.length : Int) := of_decide_eq_true (pa265_)
            la264_
            have hw122_5 := hx122_5
            have hw122_4 := hx122_4
            have hw122_3 := hx122_3
            have hw122_2 := hx122_2
            have hw122_1 := hx122_1
            have hw122_0 := hx122_0
            cases e122
            replace hx122_0 := (HB.out.cell (World.block_lt_of_cell? w _ hx122_0)).trans hx122_0
            replace hx122_1 := (HB.out.cell (World.block_lt_of_cell? w _ hx122_1)).trans hx122_1
            replace hx122_2 := (HB.out.cell (World.block_lt_of_cell? w _ hx122_2)).trans hx122_2
            replace hx122_3 := (HB.out.cell (World.block_lt_of_cell? w _ hx122_3)).trans hx122_3
            replace hx122_4 := (HB.out.cell (World.block_lt_of_cell? w _ hx122_4)).trans hx122_4
            replace hx122_5 := (HB.out.cell (World.block_lt_of_cell? w _ hx122_5)).trans hx122_5
            have HR122_2 := Aside0.mk hi122_2
            have HC122_2 := Aside0.mk hl122_2
            clear hi122_2 hl122_2
            have HR122_4 := Aside0.mk hi122_4
            have HC122_4 := Aside0.mk hl122_4
            clear hi122_4 hl122_4
            replace p122 := eq_true p122
            replace q122 := eq_true q122
            la265_
            generalize wr.drew = w22 at HO_5 HB HL121_2 HL121_4 HR121_2 HR121_4 HR122_2 HR122_4 hx121_0 hx121_1 hx121_2 hx121_3 hx121_4 hx121_5 hx122_0 hx122_1 hx122_2 hx122_3 hx122_4 hx122_5 hHeld ⊢
            la266_
            rotate_left
            ·intro w'
             go_simp
             with_reducible rfl
            rotate_left
            ·qp_
             rfl
            la267_
            rotate_left
            ·intro w'
             go_simp
             with_reducible rfl
            rotate_left
            ·qp_
             rfl
            la268_
            rotate_left
            ·intro w'
             go_simp
             with_reducible rfl
            rotate_left
            ·qp_
             rfl
            la269_
            rotate_left
            ·intro w'
             go_simp
             with_reducible rfl
            rotate_left
            ·qp_
             rfl
            la2610_
            rotate_left
            ·intro w'
             go_simp
             with_reducible rfl
            rotate_left
            ·qp_
             rfl
            la2611_
            rotate_left
            ·intro w'
             go_simp
             with_reducible rfl
            rotate_left
            ·qp_
             rfl
            la2612_
            rotate_left
            ·la2613_
             go_simp
             with_reducible rfl
            rotate_left
            ·qp_
             rfl
            la2614_
            rotate_left
            ·la2613_
             go_simp
             with_reducible rfl
            rotate_left
            ·qp_
             rfl
            la2615_
            la2616_
            with_reducible refine (shibbolethlaw06_told.calls k2 ((rd_T58 t117 x7_2).f0) ((rd_T58 t117 x7_2).f1) _ _ ((rd_T58 t117 x7_2).f2) ((rd_T58 t117 x7_2).f3) _ _ ((rd_T58 t117 x7_2).f4) ((rd_T58 t117 x7_2).f5) ((rd_T62 l0 x7_2).f0) ((rd_T62 l0 x7_2).f1) _ _ ((rd_T62 l0 x7_2).f2) ((rd_T62 l0 x7_2).f3) _ _ ((rd_T62 l0 x7_2).f4) ((rd_T62 l0 x7_2).f5) true _ ?side1 ?side2 ?side3 ?side4 ?side5 ?side6 ?side7 ?side8 A20.out).mono ?_
            la2617_
            (case side2 => exact HC121_2.out)
            la2618_
            (case side4 => exact HC121_4.out)
            la2619_
            (case side6 => exact HC122_2.out)
            la2620_
            (case side8 => exact HC122_4.out)
            rintro e w24 ⟨rfl, hb⟩
            have HS0_ := (hb.cell (World.block_lt_of_cell? _ _ (hHeld.1))).trans (hHeld.1)
            have HS1_ := (hb.cell (World.block_lt_of_cell? _ _ (hHeld.2.1))).trans (hHeld.2.1)
            have HS2_ := (hb.cell (World.block_lt_of_cell? _ _ (hHeld.2.2.1))).trans (hHeld.2.2.1)
            have HS3_ := (hb.cell (World.block_lt_of_cell? _ _ (hHeld.2.2.2.1))).trans (hHeld.2.2.2.1)
            have HS4_ := (hb.cell (World.block_lt_of_cell? _ _ (hHeld.2.2.2.2.1))).trans (hHeld.2.2.2.2.1)
            have HS5_ := (hb.cell (World.block_lt_of_cell? _ _ (hHeld.2.2.2.2.2.1))).trans (hHeld.2.2.2.2.2.1)
            refine ⟨_, rfl, ?_⟩
            have n0_ := Aside0.mk (Kd.S_below (pa267_) hb)
            have n1_ := Aside0.mk (Kd.R_below (by qR_; exact HL121_2.out) hb)
            have n2_ := Aside0.mk (Kd.R_below (by qR_; exact HL121_4.out) hb)
            have n3_ := Aside0.mk (Kd.C_below (pa263_) hb)
            have n4_ := Aside0.mk (Kd.C_below (pa262_) hb)
            have n5_ := Aside0.mk (below_step (by qc0_) hb)
            clear HO_5
            clear HL121_2
            clear HL121_4
            clear HR121_2
            clear HR121_4
            clear HB
            have HO_5 := n0_
            have HL121_2 := n1_
            have HL121_4 := n2_
            have HR121_2 := n3_
            have HR121_4 := n4_
            have HB := n5_
            clear n0_ n1_ n2_ n3_ n4_ n5_
            (try clear hb)
            (try clear hb2)
            (try clear hk)
            (try clear hi)
            la2621_
            clear hK K
            refine norm_ (a' := ?_) ?_ ?_
            rotate_left
            ·show Act.put _ (some 53) _ = _
             qp_
             rfl
            la2622_
            rotate_left
            ·intro w'
             go_simp
             with_reducible rfl
            rotate_left
            ·qp_
             rfl
            refine done_ (done_of HT_.out (by kernel_rfl)) ?_
            try go_wp2
            go_roundg k2
            case measure => have := HJ7.out; have := HK2.out; omega
            case rel => exact ⟨(wrap64 (x7_2 + 1)), (by first | rfl | (simp; done) | (simp [*]; done)), H', ⟨by have := HJ7.out; have := HK2.out; omega⟩, ⟨by (with_reducible repeat (first | apply Kd.S_alloc | apply Kd.S_drewN | apply Kd.S_drew)); exact HO_5.out⟩, ⟨by qc0_⟩⟩
           ·replace c21 := Bool.eq_false_iff.mpr c21
            subst c21
            have H1 : (some false) = some r := by rw [if_neg (show ¬ (false = true) by decide)] at H; exact H
            clear H
            have H := H1
            clear H1
            obtain rfl := Option.some.inj H
            try go_wp2
            have n0_ := Aside0.mk (Kd.S_drew HO_5.out)
            have n1_ := Aside0.mk (below_drew1 HB.out)
            clear HO_5
            clear HB
            have HO_5 := n0_
            have HB := n1_
            clear n0_ n1_
            obtain ⟨Ao26, co26, eo26⟩ := Kd.S_slice HO_5.out
            (first | subst eo26 | (injection eo26 with f1_ f2_ f3_; have f4_ := f1_.symm; have f5_ := f3_.symm; clear f1_ f2_ f3_; subst f4_; subst f5_))
            have p121 : 0 ≤ (x7_2 : Int) := of_decide_eq_true (pa265_)
            have q121 : x7_2 < (t117.length : Int) := of_decide_eq_true (pa265_)
            la262_
            cases e121
            la263_
            obtain ⟨ve121_2, ve121_4, rfl, ge121_2, ge121_4⟩ := k58_openM hMe121
            have hv121_2 := hcc121 2 _ rfl
            rw [add_field _ _ 2 (by omega)] at hv121_2
            replace hv121_2 := Option.some.inj (hv121_2.symm.trans hx121_2)
            rw [hv121_2] at ge121_2
            have HL121_2 := Aside0.mk (show Kd.R k103 103 _ _ _ _ ((rd_T58 t117 x7_2).f2) from ge121_2)
            clear hv121_2 ge121_2
            have hv121_4 := hcc121 4 _ rfl
            rw [add_field _ _ 4 (by omega)] at hv121_4
            replace hv121_4 := Option.some.inj (hv121_4.symm.trans hx121_4)
            rw [hv121_4] at ge121_4
            have HL121_4 := Aside0.mk (show Kd.R (Kd.int .u8) 5 _ _ _ _ ((rd_T58 t117 x7_2).f4) from ge121_4)
            clear hv121_4 ge121_4
            clear hcc121 hce121
            have HR121_2 := Aside0.mk hi121_2
            have HC121_2 := Aside0.mk hl121_2
            clear hi121_2 hl121_2
            have HR121_4 := Aside0.mk hi121_4
            have HC121_4 := Aside0.mk hl121_4
            clear hi121_4 hl121_4
            replace p121 := eq_true p121
            replace q121 := eq_true q121
            have p122 : 0 ≤ (x7_2 : Int) := of_decide_eq_true (pa265_)
            have q122 : x7_2 < (l0.length : Int) := of_decide_eq_true (pa265_)
            la264_
            have hw122_5 := hx122_5
            have hw122_4 := hx122_4
            have hw122_3 := hx122_3
            have hw122_2 := hx122_2
            have hw122_1 := hx122_1
            have hw122_0 := hx122_0
            cases e122
            replace hx122_0 := (HB.out.cell (World.block_lt_of_cell? w _ hx122_0)).trans hx122_0
            replace hx122_1 := (HB.out.cell (World.block_lt_of_cell? w _ hx122_1)).trans hx122_1
            replace hx122_2 := (HB.out.cell (World.block_lt_of_cell? w _ hx122_2)).trans hx122_2
            replace hx122_3 := (HB.out.cell (World.block_lt_of_cell? w _ hx122_3)).trans hx122_3
            replace hx122_4 := (HB.out.cell (World.block_lt_of_cell? w _ hx122_4)).trans hx122_4
            replace hx122_5 := (HB.out.cell (World.block_lt_of_cell? w _ hx122_5)).trans hx122_5
            have HR122_2 := Aside0.mk hi122_2
            have HC122_2 := Aside0.mk hl122_2
            clear hi122_2 hl122_2
            have HR122_4 := Aside0.mk hi122_4
            have HC122_4 := Aside0.mk hl122_4
            clear hi122_4 hl122_4
            replace p122 := eq_true p122
            replace q122 := eq_true q122
            la265_
            generalize wr.drew = w25 at HO_5 HB HL121_2 HL121_4 HR121_2 HR121_4 HR122_2 HR122_4 hx121_0 hx121_1 hx121_2 hx121_3 hx121_4 hx121_5 hx122_0 hx122_1 hx122_2 hx122_3 hx122_4 hx122_5 hHeld ⊢
            la266_
            rotate_left
            ·intro w'
             go_simp
             with_reducible rfl
            rotate_left
            ·qp_
             rfl
            la267_
            rotate_left
            ·intro w'
             go_simp
             with_reducible rfl
            rotate_left
            ·qp_
             rfl
            la268_
            rotate_left
            ·intro w'
             go_simp
             with_reducible rfl
            rotate_left
            ·qp_
             rfl
            la269_
            rotate_left
            ·intro w'
             go_simp
             with_reducible rfl
            rotate_left
            ·qp_
             rfl
            la2610_
            rotate_left
            ·intro w'
             go_simp
             with_reducible rfl
            rotate_left
            ·qp_
             rfl
            la2611_
            rotate_left
            ·intro w'
             go_simp
             with_reducible rfl
            rotate_left
            ·qp_
             rfl
            la2612_
            rotate_left
            ·la2613_
             go_simp
             with_reducible rfl
            rotate_left
            ·qp_
             rfl
            la2614_
            rotate_left
            ·la2613_
             go_simp
             with_reducible rfl
            rotate_left
            ·qp_
             rfl
            la2615_
            la2616_
            with_reducible refine (shibbolethlaw06_told.calls k2 ((rd_T58 t117 x7_2).f0) ((rd_T58 t117 x7_2).f1) _ _ ((rd_T58 t117 x7_2).f2) ((rd_T58 t117 x7_2).f3) _ _ ((rd_T58 t117 x7_2).f4) ((rd_T58 t117 x7_2).f5) ((rd_T62 l0 x7_2).f0) ((rd_T62 l0 x7_2).f1) _ _ ((rd_T62 l0 x7_2).f2) ((rd_T62 l0 x7_2).f3) _ _ ((rd_T62 l0 x7_2).f4) ((rd_T62 l0 x7_2).f5) false _ ?side1 ?side2 ?side3 ?side4 ?side5 ?side6 ?side7 ?side8 A20.out).mono ?_
            la2617_
            (case side2 => exact HC121_2.out)
            la2618_
            (case side4 => exact HC121_4.out)
            la2619_
            (case side6 => exact HC122_2.out)
            la2620_
            (case side8 => exact HC122_4.out)
            rintro e w27 ⟨rfl, hb⟩
            have HS0_ := (hb.cell (World.block_lt_of_cell? _ _ (hHeld.1))).trans (hHeld.1)
            have HS1_ := (hb.cell (World.block_lt_of_cell? _ _ (hHeld.2.1))).trans (hHeld.2.1)
            have HS2_ := (hb.cell (World.block_lt_of_cell? _ _ (hHeld.2.2.1))).trans (hHeld.2.2.1)
            have HS3_ := (hb.cell (World.block_lt_of_cell? _ _ (hHeld.2.2.2.1))).trans (hHeld.2.2.2.1)
            have HS4_ := (hb.cell (World.block_lt_of_cell? _ _ (hHeld.2.2.2.2.1))).trans (hHeld.2.2.2.2.1)
            have HS5_ := (hb.cell (World.block_lt_of_cell? _ _ (hHeld.2.2.2.2.2.1))).trans (hHeld.2.2.2.2.2.1)
            refine ⟨_, rfl, ?_⟩
            have n0_ := Aside0.mk (Kd.S_below (pa267_) hb)
            have n1_ := Aside0.mk (Kd.R_below (by qR_; exact HL121_2.out) hb)
            have n2_ := Aside0.mk (Kd.R_below (by qR_; exact HL121_4.out) hb)
            have n3_ := Aside0.mk (Kd.C_below (pa263_) hb)
            have n4_ := Aside0.mk (Kd.C_below (pa262_) hb)
            have n5_ := Aside0.mk (below_step (by qc0_) hb)
            clear HO_5
            clear HL121_2
            clear HL121_4
            clear HR121_2
            clear HR121_4
            clear HB
            have HO_5 := n0_
            have HL121_2 := n1_
            have HL121_4 := n2_
            have HR121_2 := n3_
            have HR121_4 := n4_
            have HB := n5_
            clear n0_ n1_ n2_ n3_ n4_ n5_
            (try clear hb)
            (try clear hb2)
            (try clear hk)
            (try clear hi)
            la2621_
            clear hK K
            refine norm_ (a' := ?_) ?_ ?_
            rotate_left
            ·show Act.put _ (some 53) _ = _
             qp_
             rfl
            la2622_
            rotate_left
            ·intro w'
             go_simp
             with_reducible rfl
            rotate_left
            ·qp_
             rfl
            refine done_ (done_of HT_.out (by kernel_rfl)) ?_
            try go_wp2
            go_ret
            la261_
          ·rw [if_neg c19] at H
           exact absurd H (by simp)
         ·rw [if_neg c18] at H
          exact absurd H (by simp)
        ·rw [if_neg c17] at H
         have c17b0 : decide (x7_2 < (l0.length : Int)) = false := decide_eq_false c17
         clear c17
         la260_
         obtain ⟨t124, A280, H⟩ := H
         replace H : (some t124) = some r := H
         have A28 := Aside0.mk A280
         clear A280
         obtain rfl := Option.some.inj H
         go_wp2_with (first | ((with_reducible refine gate_callee (f := 49) rfl ?_); refine goesL_ (some 55) rfl rfl Tryd.func49 (by kernel_rfl) rfl #[] rfl (pa260_) ?_; (with_reducible refine (shibbolethlaw06_awake.calls k2  t124 _ ?sideT A28.out).mono ?_); (case sideT => repeat (first | exact HT.out | exact TB.below HT.out HB.out | exact TB.below HT.out HBW.out | (with_reducible refine TB.alloc ?_ _) | (with_reducible refine TB.drewN ?_ _) | (with_reducible refine TB.drew ?_))); rintro e w29 ⟨rfl, hb⟩; refine ⟨_, rfl, ?_⟩; have n0_ := Aside0.mk (Kd.S_below (pa267_) hb); have n1_ := Aside0.mk (below_step (by qc0_) hb); clear HO_5; clear HB; have HO_5 := n0_; have HB := n1_; clear n0_ n1_; (try clear hb); (try clear hb2); (try clear hk); (try clear hi)))
         go_ret
         la261_
  ·rw [if_neg c6] at H
   have c6b0 : (t113 == 0) = false := beq_eq_false_iff_ne.mpr c6
   have c6b1 : (t113 != 0) = true := bne_iff_ne.mpr c6
   by_cases c30 : (t112.length : Int) = 0
   ·rw [if_pos c30] at H
    have c30b0 : ((t112.length : Int) == 0) = true := beq_iff_eq.mpr c30
    have c30b1 : ((t112.length : Int) != 0) = false := bne_eq_false_iff_eq.mpr c30
    clear c30
    la260_
    obtain ⟨t116, A310, H⟩ := H
    replace H : (some t116) = some r := H
    have A31 := Aside0.mk A310
    clear A310
    obtain rfl := Option.some.inj H
    go_enter Tryd.func17, Tryd.ntmps17
    go_wp2_with (first | ((with_reducible refine gate_callee (f := 41) rfl ?_); refine goesL_ (some 9) rfl rfl Tryd.func41 (by kernel_rfl) rfl #[.slice A0 l0.length c0] rfl (pa260_) ?_; (with_reducible refine (shibbolethlaw06_light.calls k _ _ l0 true _ ?side1 ?side2 A2.out).mono ?_); (case side1 => repeat (first | exact HR0.out | (with_reducible refine Kd.C_alloc ?_ _) | (with_reducible refine Kd.C_drewN ?_ _) | (with_reducible refine Kd.C_drew ?_))); (case side2 => exact HC0.out); rintro e w' ⟨rfl, ⟨nd, rfl⟩⟩; refine ⟨_, rfl, ?_⟩) | ((with_reducible refine gate_callee (f := 46) rfl ?_); refine goesL_ (some 13) rfl rfl Tryd.func46 (by kernel_rfl) rfl #[.slice A0 l0.length c0] rfl (pa260_) ?_; (with_reducible refine (shibbolethlaw06_all.calls k _ _ l0 t109 _ ?side1 ?side2 A4.out).mono ?_); (case side1 => repeat (first | exact HR0.out | (with_reducible refine Kd.C_alloc ?_ _) | (with_reducible refine Kd.C_drewN ?_ _) | (with_reducible refine Kd.C_drew ?_))); (case side2 => exact HC0.out); rintro e w32 ⟨v110, rfl, ho0, hb⟩; refine ⟨_, rfl, ?_⟩; have n0_ := Aside0.mk (Kd.S_lower ho0 (below_size (by qc0_))); have n1_ := Aside0.mk (below_step (by qc0_) hb); clear HB; have HO111 := n0_; have HB := n1_; clear n0_ n1_; (try clear hb); (try clear hb2); (try clear hk); (try clear hi); (try clear ho0); obtain ⟨Ao33, co33, eo33⟩ := Kd.S_slice HO111.out; subst eo33) | ((with_reducible refine gate_callee (f := 45) rfl ?_); refine goesL_ (some 14) rfl rfl Tryd.func45 (by kernel_rfl) rfl #[.slice Ao33 t109.length co33] rfl (pa260_) ?_; (with_reducible refine (frame_Write.calls k _ _ t109 t112 t113 _ ?side1 ?side2 ?sideT A5.out).mono ?_); (case sideT => repeat (first | exact HT.out | exact TB.below HT.out HB.out | exact TB.below HT.out HBW.out | (with_reducible refine TB.alloc ?_ _) | (with_reducible refine TB.drewN ?_ _) | (with_reducible refine TB.drew ?_))); (case side1 => repeat (first | exact (Kd.S_reads' HO111.out).2.2 | (with_reducible refine Kd.C_alloc ?_ _) | (with_reducible refine Kd.C_drewN ?_ _) | (with_reducible refine Kd.C_drew ?_))); (case side2 => exact (Kd.S_reads' HO111.out).2.1); rintro e w34 ⟨v114, rfl, ho0, hb⟩; refine ⟨_, rfl, ?_⟩; have n0_ := Aside0.mk (Kd.S_elder' (pa264_) (Kd.R_base ho0) hb); have n1_ := Aside0.mk (Kd.R_lower ho0 (below_size (by qc0_))); have n2_ := Aside0.mk (below_step (by qc0_) hb); clear HO111; clear HB; have HO111 := n0_; have HO115 := n1_; have HB := n2_; clear n0_ n1_ n2_; (try clear hb); (try clear hb2); (try clear hk); (try clear hi); (try clear ho0); obtain ⟨Ao35, co35, eo35⟩ := Kd.R_slice HO115.out; subst eo35) | (go_at_call 49; (with_reducible refine (shibbolethlaw06_awake.calls k  t116 _ ?sideT A31.out).mono ?_); (case sideT => repeat (first | exact HT.out | exact TB.below HT.out HB.out | exact TB.below HT.out HBW.out | (with_reducible refine TB.alloc ?_ _) | (with_reducible refine TB.drewN ?_ _) | (with_reducible refine TB.drew ?_))); rintro e w36 ⟨rfl, hb⟩; have n0_ := Aside0.mk (Kd.S_below (pa264_) hb); have n1_ := Aside0.mk (Kd.R_below (by qR_; exact HO115.out) hb); have n2_ := Aside0.mk (below_step (by qc0_) hb); clear HO111; clear HO115; clear HB; have HO111 := n0_; have HO115 := n1_; have HB := n2_; clear n0_ n1_ n2_; (try clear hb); (try clear hb2); (try clear hk); (try clear hi)))
    go_ret
    la261_
   ·rw [if_neg c30] at H
    have c30b0 : ((t112.length : Int) == 0) = false := beq_eq_false_iff_ne.mpr c30
    have c30b1 : ((t112.length : Int) != 0) = true := bne_iff_ne.mpr c30
    have c30b2 : ¬ (t112 = []) := fun h_ => c30 (by rw [h_]; rfl)
    obtain rfl := Option.some.inj H
    go_enter Tryd.func17, Tryd.ntmps17
    go_wp2_with (first | ((with_reducible refine gate_callee (f := 41) rfl ?_); refine goesL_ (some 9) rfl rfl Tryd.func41 (by kernel_rfl) rfl #[.slice A0 l0.length c0] rfl (pa260_) ?_; (with_reducible refine (shibbolethlaw06_light.calls k _ _ l0 true _ ?side1 ?side2 A2.out).mono ?_); (case side1 => repeat (first | exact HR0.out | (with_reducible refine Kd.C_alloc ?_ _) | (with_reducible refine Kd.C_drewN ?_ _) | (with_reducible refine Kd.C_drew ?_))); (case side2 => exact HC0.out); rintro e w' ⟨rfl, ⟨nd, rfl⟩⟩; refine ⟨_, rfl, ?_⟩) | ((with_reducible refine gate_callee (f := 46) rfl ?_); refine goesL_ (some 13) rfl rfl Tryd.func46 (by kernel_rfl) rfl #[.slice A0 l0.length c0] rfl (pa260_) ?_; (with_reducible refine (shibbolethlaw06_all.calls k _ _ l0 t109 _ ?side1 ?side2 A4.out).mono ?_); (case side1 => repeat (first | exact HR0.out | (with_reducible refine Kd.C_alloc ?_ _) | (with_reducible refine Kd.C_drewN ?_ _) | (with_reducible refine Kd.C_drew ?_))); (case side2 => exact HC0.out); rintro e w37 ⟨v110, rfl, ho0, hb⟩; refine ⟨_, rfl, ?_⟩; have n0_ := Aside0.mk (Kd.S_lower ho0 (below_size (by qc0_))); have n1_ := Aside0.mk (below_step (by qc0_) hb); clear HB; have HO111 := n0_; have HB := n1_; clear n0_ n1_; (try clear hb); (try clear hb2); (try clear hk); (try clear hi); (try clear ho0); obtain ⟨Ao38, co38, eo38⟩ := Kd.S_slice HO111.out; subst eo38) | ((with_reducible refine gate_callee (f := 45) rfl ?_); refine goesL_ (some 14) rfl rfl Tryd.func45 (by kernel_rfl) rfl #[.slice Ao38 t109.length co38] rfl (pa260_) ?_; (with_reducible refine (frame_Write.calls k _ _ t109 t112 t113 _ ?side1 ?side2 ?sideT A5.out).mono ?_); (case sideT => repeat (first | exact HT.out | exact TB.below HT.out HB.out | exact TB.below HT.out HBW.out | (with_reducible refine TB.alloc ?_ _) | (with_reducible refine TB.drewN ?_ _) | (with_reducible refine TB.drew ?_))); (case side1 => repeat (first | exact (Kd.S_reads' HO111.out).2.2 | (with_reducible refine Kd.C_alloc ?_ _) | (with_reducible refine Kd.C_drewN ?_ _) | (with_reducible refine Kd.C_drew ?_))); (case side2 => exact (Kd.S_reads' HO111.out).2.1); rintro e w39 ⟨v114, rfl, ho0, hb⟩; refine ⟨_, rfl, ?_⟩; have n0_ := Aside0.mk (Kd.S_elder' (pa264_) (Kd.R_base ho0) hb); have n1_ := Aside0.mk (Kd.R_lower ho0 (below_size (by qc0_))); have n2_ := Aside0.mk (below_step (by qc0_) hb); clear HO111; clear HB; have HO111 := n0_; have HO115 := n1_; have HB := n2_; clear n0_ n1_ n2_; (try clear hb); (try clear hb2); (try clear hk); (try clear hi); (try clear ho0); obtain ⟨Ao40, co40, eo40⟩ := Kd.R_slice HO115.out; subst eo40))
    go_ret
    la261_
 ·replace c3 := Bool.eq_false_iff.mpr c3
  subst c3
  have H1 : (some true) = some r := by rw [if_neg (show ¬ (false = true) by decide)] at H; exact H
  clear H
  have H := H1
  clear H1
  obtain rfl := Option.some.inj H
  go_enter Tryd.func17, Tryd.ntmps17
  go_wp2_with (first | ((with_reducible refine gate_callee (f := 41) rfl ?_); refine goesL_ (some 9) rfl rfl Tryd.func41 (by kernel_rfl) rfl #[.slice A0 l0.length c0] rfl (pa260_) ?_; (with_reducible refine (shibbolethlaw06_light.calls k _ _ l0 false _ ?side1 ?side2 A2.out).mono ?_); (case side1 => repeat (first | exact HR0.out | (with_reducible refine Kd.C_alloc ?_ _) | (with_reducible refine Kd.C_drewN ?_ _) | (with_reducible refine Kd.C_drew ?_))); (case side2 => exact HC0.out); rintro e w' ⟨rfl, ⟨nd, rfl⟩⟩; refine ⟨_, rfl, ?_⟩))
  go_ret
  la261_
end Go.Proofs.YtbcleckapamicaaDoor.QFd
namespace Go.Proofs.YtbcleckapamicaaDoor.Opn
open Go.RowKit Go.Proofs.YtbcleckapamicaaDoorW.PrintWords
set_option linter.unusedVariables false
variable {P : Program}
def Opens (P : Program) (t : TypeId) {α : Type} (d : Kd α) (ok : α → Prop) : Prop :=
  ∀ (H : Type) (enc : TypeId × Value → H) (w : World) (base : Nat) (spare : Nat → Bool) (held : Bool) (fuel : Nat) (cs : List Value) (x : DataW H × List MemPlace),
    DataW.trod enc P w base spare held fuel t cs = some x → ∃ a, d.K w a cs ∧ ok a
theorem Opens.int {t : TypeId} {k : IntKind} (ht : P.underlying t = some (.int k)) : Opens P t (Kd.int k) (fun n => (Lit.int k n).wf = true) := by
  intro H enc w base spare held fuel cs x h
  obtain ⟨n, rfl, _, hw⟩ := DataW.trod_int ht h
  exact ⟨n, rfl, hw⟩
theorem Opens.bool {t : TypeId} (ht : P.underlying t = some .bool) : Opens P t Kd.bool (fun _ => True) := by
  intro H enc w base spare held fuel cs x h
  obtain ⟨b, rfl, _⟩ := DataW.trod_bool ht h
  exact ⟨b, rfl, trivial⟩
theorem Opens.slice {t e : TypeId} {α : Type} {d : Kd α} {ok : α → Prop} (ht : P.underlying t = some (.slice e)) (hs : P.cellsOf e = d.sz) (he : Opens P e d ok) :
    Opens P t (Kd.slice e d) (fun xs => xs.length ≤ 9223372036854775807 ∧ ∀ x ∈ xs, ok x) := by
  classical
  intro H enc w base spare held fuel cs x h
  rcases Go.Deep.open_slice ht h with ⟨rfl, _⟩ | ⟨a, len, cap, m, n, D, Pl, rfl, hb, hl, hm, hmm, _, hx⟩
  · exact ⟨[], ⟨none, 0, rfl, by simp, Kd.C_nil d w⟩, by simp, by simp⟩
  · have hlm : len ≤ m := by rw [hmm]; split <;> omega
    have hex : ∀ i, i < len → ∃ p : α, (∃ c, c.length = d.sz ∧ d.K w p c ∧ ∀ j u, c[j]? = some u → w.cell? (a.add (i * d.sz + j)) = some u) ∧ ok p := by
      intro i hi
      obtain ⟨c, hc1, hc2⟩ := hx i (by omega)
      obtain ⟨_, hlen, hcell⟩ := World.cells?_some hc1
      obtain ⟨p, hK, ho⟩ := he H enc w base spare held n c _ hc2
      rw [hs] at hlen hcell
      refine ⟨p, ⟨c, hlen, hK, fun j u hj => ?_⟩, ho⟩
      have hjl : j < d.sz := by
        rcases Nat.lt_or_ge j c.length with h1 | h1
        · omega
        · rw [List.getElem?_eq_none h1] at hj; cases hj
      have := hcell j hjl
      rw [Addr.add_add] at this
      rw [this, hj]
    have hmax : len ≤ 9223372036854775807 := by have := hm; simp only [maxLen] at this; omega
    have hL : ∃ l : List α, l.length = len ∧ ∀ (i : Nat) (p : α), l[i]? = some p → (∃ c, c.length = d.sz ∧ d.K w p c ∧ ∀ j u, c[j]? = some u → w.cell? (a.add (i * d.sz + j)) = some u) ∧ ok p := by
      refine ⟨List.ofFn (fun i : Fin len => Classical.choose (hex i.1 i.2)), by simp, fun i p hp => ?_⟩
      rw [List.getElem?_ofFn] at hp
      split at hp
      · rename_i hi
        obtain rfl := Option.some.inj hp
        exact Classical.choose_spec (hex i hi)
      · cases hp
    obtain ⟨l, hlen, hall⟩ := hL
    refine ⟨l, ⟨some a, cap, by rw [hlen], by omega, hlen ▸ rfl, by omega, fun _ => ⟨a, rfl, fun j p hp => (hall j p hp).1⟩⟩, by omega, fun p hp => ?_⟩
    obtain ⟨i, hi, rfl⟩ := List.mem_iff_getElem.1 hp
    exact (hall i _ (List.getElem?_eq_getElem hi)).2
def OpensF (P : Program) (fs : List Field) (off : Nat) {α : Type} (d : Kd α) (ok : α → Prop) : Prop :=
  ∀ (H : Type) (enc : TypeId × Value → H) (w : World) (base : Nat) (spare : Nat → Bool) (held : Bool) (n : Nat) (cs : List Value), cs.length = off + d.sz →
    (∀ f, f ∈ fs → ∃ y, DataW.trod enc P w base spare held n f.type ((cs.drop f.offset).take (P.cellsOf f.type)) = some y) → ∃ a, d.K w a (cs.drop off) ∧ ok a
theorem OpensF.last {f : Field} {off : Nat} {α : Type} {d : Kd α} {ok : α → Prop} (ho : f.offset = off) (hc : P.cellsOf f.type = d.sz) (h : Opens P f.type d ok) : OpensF P [f] off d ok := by
  intro H enc w base spare held n cs hl hf
  obtain ⟨y, hy⟩ := hf f (List.mem_singleton.2 rfl)
  rw [ho, hc, List.take_of_length_le (by simp; omega)] at hy
  exact h H enc w base spare held n _ _ hy
theorem OpensF.cons {f : Field} {fs : List Field} {off : Nat} {α β : Type} {d : Kd α} {d' : Kd β} {ok : α → Prop} {ok' : β → Prop} (ho : f.offset = off) (hc : P.cellsOf f.type = d.sz) (h : Opens P f.type d ok) (h' : OpensF P fs (off + d.sz) d' ok') :
    OpensF P (f :: fs) off (Kd.pair d d') (fun p => ok p.1 ∧ ok' p.2) := by
  intro H enc w base spare held n cs hl hf
  have hl' : cs.length = off + (d.sz + d'.sz) := hl
  obtain ⟨y, hy⟩ := hf f (List.mem_cons_self ..)
  rw [ho, hc] at hy
  obtain ⟨a, hK, hok⟩ := h H enc w base spare held n _ _ hy
  obtain ⟨b, hK', hok'⟩ := h' H enc w base spare held n cs (by omega) (fun g hg => hf g (List.mem_cons_of_mem _ hg))
  refine ⟨(a, b), ⟨_, _, ?_, hK, hK'⟩, hok, hok'⟩
  rw [← List.drop_drop, List.take_append_drop]
theorem OpensF.iso {fs : List Field} {off : Nat} {α β : Type} {d : Kd α} {ok : α → Prop} {f : β → α} (g : α → β) (hg : ∀ a, f (g a) = a) (h : OpensF P fs off d ok) : OpensF P fs off (Kd.iso d f) (fun b => ok (f b)) := by
  intro H enc w base spare held n cs hl hf
  obtain ⟨a, hK, hok⟩ := h H enc w base spare held n cs hl hf
  exact ⟨g a, by show d.K w (f (g a)) _; rw [hg]; exact hK, by show ok (f (g a)); rw [hg]; exact hok⟩
theorem Opens.struct {t : TypeId} {fs : Array Field} {α : Type} {d : Kd α} {ok : α → Prop} (ht : P.underlying t = some (.struct fs)) (hs : P.cellsOf t = d.sz) (h : OpensF P fs.toList 0 d ok) : Opens P t d ok := by
  intro H enc w base spare held fuel cs x hx
  obtain ⟨xs, n, _, _, hl, hlen, hf⟩ := DataW.trod_struct ht hx
  have := h H enc w base spare held n cs (by rw [hl, hs]; omega) (fun f hm => ?_)
  · rwa [List.drop_zero] at this
  · obtain ⟨i, hi, rfl⟩ := List.mem_iff_getElem.1 hm
    have hi' : i < fs.size := by simpa using hi
    have := hf i fs[i] (by simp [hi'])
    refine ⟨xs[i]'(by omega), ?_⟩
    rw [List.getElem?_eq_getElem (show i < xs.length by omega)] at this
    simpa using this
theorem Opens.value {t : TypeId} {α : Type} {d : Kd α} {ok : α → Prop} (h : Opens P t d ok) {H : Type} {enc : TypeId × Value → H} {w : World} {base : Nat} {spare : Nat → Bool} {held : Bool} {v : Value} {x : DataW H} {ps : List MemPlace} (hv : DataW.Trod enc P w base spare held t v x ps) :
    ∃ a, d.K w a v.cells.toList ∧ ok a := by
  obtain ⟨fuel, hf⟩ := hv
  exact h H enc w base spare held fuel _ _ hf
theorem Opens.sliceValue {t e : TypeId} {α : Type} {d : Kd α} {ok : List α → Prop} (h : Opens P t (Kd.slice e d) ok) {H : Type} {enc : TypeId × Value → H} {w : World} {base : Nat} {spare : Nat → Bool} {held : Bool} {a : Option Addr} {len cap : Nat} {x : DataW H} {ps : List MemPlace} (hv : DataW.Trod enc P w base spare held t (.slice a len cap) x ps) :
    ∃ l : List α, len = l.length ∧ l.length ≤ cap ∧ d.C w a l.length l ∧ ok l := by
  obtain ⟨l, ⟨A, c, hcs, hl, hC⟩, ho⟩ := h.value hv
  simp [Value.cells] at hcs
  obtain ⟨rfl, rfl, rfl⟩ := hcs
  exact ⟨l, rfl, hl, hC, ho⟩
end Go.Proofs.YtbcleckapamicaaDoor.Opn
