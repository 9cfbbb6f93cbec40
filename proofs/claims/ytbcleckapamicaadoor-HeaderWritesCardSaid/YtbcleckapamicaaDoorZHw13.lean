/- A part of the proof of the law HeaderWrites: QHex9. -/
import Derived.Test.YtbcleckapamicaaDoorZHw02
import Derived.Test.YtbcleckapamicaaDoorZHw05
import Derived.Test.YtbcleckapamicaaDoorZHw06
import Derived.Test.YtbcleckapamicaaDoorZHw07
import Derived.Test.YtbcleckapamicaaDoorZHw08
import Derived.Test.YtbcleckapamicaaDoorZHw10
import Derived.Test.YtbcleckapamicaaDoorZHw11
import Derived.Test.YtbcleckapamicaaDoorZHw12
import Derived.Test.YtbcleckapamicaaDoorZHw04
namespace Go.Proofs.YtbcleckapamicaaDoor.QHe
open Go.RowKit Go.Proofs.YtbcleckapamicaaDoorW.PrintWords Go.Proofs.YtbcleckapamicaaDoorW.PrintLast Go.Proofs.YtbcleckapamicaaDoorW.PrintMore
attribute [local go_sem] max2_int min2_int max_two min_two max_three min_three max_four min_four   -- for this text's walks alone
set_option linter.unusedVariables false
set_option linter.unusedSimpArgs false
open Go.Proofs.YtbcleckapamicaaDoor.Gv (TB TB.below TB.alloc TB.drew TB.drewN)
open Go.Proofs.YtbcleckapamicaaDoor.Gw (slices_Concat_byte_byte.f slices_Concat_byte_byte.calls)
open Go.Proofs.YtbcleckapamicaaDoor.QVa (varint_Append.f varint_Append.calls varint_Append.mono varint_Give.f varint_Give.calls varint_Give.mono shibbolethref01_Size.f shibbolethref01_Size.calls shibbolethref01_Size.mono shibbolethref01_Bytes.f shibbolethref01_Bytes.calls shibbolethref01_Bytes.mono shibbolethref01_Give.f shibbolethref01_Give.calls shibbolethref01_Give.mono)
set_option hygiene false in
local macro "on130_" : term => `(.cells #[.int .i64 a0_0, .int .i64 a0_1, .slice A0_2 l0_2.length c0_2, .slice A0_3 l0_3.length c0_3, .slice A0_4 l0_4.length c0_4, .int .i64 a0_5, .int .i64 a0_6, .int .i64 a0_7] 44 (0, 0))
set_option hygiene false in
local macro "on131_" : term => `(.cells #[.int .i64 t271, .int .i64 t272, .slice Ao18 t273.length co18, .slice Ao19 t276.length co19, .slice Ao20 t279.length co20, .int .i64 t282, .int .i64 t283, .int .i64 t284] 46 (0, 0))
set_option hygiene false in
local macro "on132_" : term => `(.cells #[.int .i64 t271, .int .i64 t272, .slice Ao36 t273.length co36, .slice Ao37 t276.length co37, .slice Ao38 t279.length co38, .int .i64 t282, .int .i64 t283, .int .i64 t284] 46 (0, 0))
set_option hygiene false in
local macro "ln130_" : tactic => `(tactic| (rintro w' ⟨s0, s1, s2, s3, s4, s5, s6, s7, s8, s9, s10, s11, s12, s13, s14, s15⟩))
set_option hygiene false in
local macro "ln131_" : tactic => `(tactic| (have n4_ := Aside0.mk (blk_below (g := gb269) (o := (on130_)) (by qk_; exact BK269.out) hb)))
set_option hygiene false in
local macro "ln132_" : tactic => `(tactic| (refine hK.out _ _ ⟨(blk_cell BK285.out 0).trans rfl, (blk_cell BK285.out 1).trans rfl, (blk_cell BK285.out 2).trans rfl, (blk_cell BK285.out 3).trans rfl, (blk_cell BK285.out 4).trans rfl, (blk_cell BK285.out 5).trans rfl, (blk_cell BK285.out 6).trans rfl, (blk_cell BK285.out 7).trans rfl, (blk_cell BK269.out 0).trans rfl, (blk_cell BK269.out 1).trans rfl, (blk_cell BK269.out 2).trans rfl, (blk_cell BK269.out 3).trans rfl, (blk_cell BK269.out 4).trans rfl, (blk_cell BK269.out 5).trans rfl, (blk_cell BK269.out 6).trans rfl, (blk_cell BK269.out 7).trans rfl⟩ (fun hHeld => ?_)))
set_option hygiene false in
local macro "ln133_" : tactic => `(tactic| (exact ⟨by first | rfl | (simp [errW_none, errW_some] <;> rfl) | (simp [*, errW_none, errW_some] <;> rfl), by qb2_ GE269 GE285⟩))
def shibbolethlaw05_HeaderWrites.j0 : Nat → Int → List Int → Bool → Int → Int → List Int → List Int → List Int → Int → Int → Int → Option (Bool)
 | 0, _, _, _, _, _, _, _, _, _, _, _ => none
 | k + 1, x1, x6, x30, x270000, x270001, x270002, x270003, x270004, x270005, x270006, x270007 => if x30 = true then (if (x6.length : Int) = 0 then ((shibbolethlaw05_awake.f k).bind fun t292 => (some t292)) else (some false)) else ((shibbolethref05_Write.f k x270000 x270001 x270002 x270003 x270004 x270005 x270006 x270007 x1).bind fun t293 => ((shibbolethlaw05_same.f k x6 t293).bind fun t296 => (if t296 = true then ((shibbolethlaw05_awake.f k).bind fun t297 => (some t297)) else (some false))))
def shibbolethlaw05_HeaderWrites.f (k : Nat) (a0_0 : Int) (a0_1 : Int) (l0_2 : List Int) (l0_3 : List Int) (l0_4 : List Int) (a0_5 : Int) (a0_6 : Int) (a0_7 : Int) (a1 : Int) : Option (Bool) := (shibbolethlaw05_light.f a0_0 a0_1 l0_2 l0_3 l0_4 a0_5 a0_6 a0_7).bind fun t270 => (if t270 = true then ((shibbolethlaw05_of.f a0_0 a0_1 l0_2 l0_3 l0_4 a0_5 a0_6 a0_7).bind fun bt271 => ((header_Write.f k bt271.1 bt271.2.1 bt271.2.2.1 bt271.2.2.2.1 bt271.2.2.2.2.1 bt271.2.2.2.2.2.1 bt271.2.2.2.2.2.2.1 bt271.2.2.2.2.2.2.2 a1).bind fun t286 => ((header_Right.f k bt271.1 bt271.2.1 bt271.2.2.1 bt271.2.2.2.1 bt271.2.2.2.2.1 bt271.2.2.2.2.2.1 bt271.2.2.2.2.2.2.1 bt271.2.2.2.2.2.2.2).bind fun t289 => ((shibbolethref05_Right.f k a0_0 a0_1 l0_2 l0_3 l0_4 a0_5 a0_6 a0_7).bind fun t290 => (if (t289 != t290) = true then (some false) else ((shibbolethref05_Right.f k a0_0 a0_1 l0_2 l0_3 l0_4 a0_5 a0_6 a0_7).bind fun t291 => (if t291 = true then (if a1 < 0 then (shibbolethlaw05_HeaderWrites.j0 k a1 t286 true a0_0 a0_1 l0_2 l0_3 l0_4 a0_5 a0_6 a0_7) else (shibbolethlaw05_HeaderWrites.j0 k a1 t286 (decide (a1 > 16384)) a0_0 a0_1 l0_2 l0_3 l0_4 a0_5 a0_6 a0_7)) else (shibbolethlaw05_HeaderWrites.j0 k a1 t286 true a0_0 a0_1 l0_2 l0_3 l0_4 a0_5 a0_6 a0_7)))))))) else (some true))
theorem shibbolethlaw05_HeaderWrites.mono_l : ∀ k, (∀ y0 y1 y2 y3 y4 y5 y6 y7 y8 y9 y10, LeO (shibbolethlaw05_HeaderWrites.j0 k y0 y1 y2 y3 y4 y5 y6 y7 y8 y9 y10) (shibbolethlaw05_HeaderWrites.j0 (k + 1) y0 y1 y2 y3 y4 y5 y6 y7 y8 y9 y10))
 | 0 => fun _ _ _ _ _ _ _ _ _ _ _ r h => by simp [shibbolethlaw05_HeaderWrites.j0] at h
 | k + 1 => by
  have ih0 := shibbolethlaw05_HeaderWrites.mono_l k
  ·intro y0 y1 y2 y3 y4 y5 y6 y7 y8 y9 y10
   unfold shibbolethlaw05_HeaderWrites.j0
   repeat' first
   | (with_reducible exact ih0 _ _ _ _ _ _ _ _ _ _ _)
   | (with_reducible exact header_Right.mono _ _ _ _ _ _ _ _ _)
   | (with_reducible exact header_Write.mono _ _ _ _ _ _ _ _ _ _)
   | (with_reducible exact shibbolethlaw05_awake.mono _)
   | (with_reducible exact shibbolethlaw05_same.mono _ _ _)
   | (with_reducible exact shibbolethref05_Right.mono _ _ _ _ _ _ _ _ _)
   | (with_reducible exact shibbolethref05_Write.mono _ _ _ _ _ _ _ _ _ _)
   | (with_reducible exact LeO.refl _)
   | (with_reducible exact LeO.none _)
   | (with_reducible refine LeO.ite ?_ ?_)
   | (with_reducible refine LeO.bind ?_ (fun _ => ?_))
   | exact ih0 _ _ _ _ _ _ _ _ _ _ _
   | exact header_Right.mono _ _ _ _ _ _ _ _ _
   | exact header_Write.mono _ _ _ _ _ _ _ _ _ _
   | exact shibbolethlaw05_awake.mono _
   | exact shibbolethlaw05_same.mono _ _ _
   | exact shibbolethref05_Right.mono _ _ _ _ _ _ _ _ _
   | exact shibbolethref05_Write.mono _ _ _ _ _ _ _ _ _ _
   | exact LeO.none _
   | refine LeO.ite ?_ ?_
   | refine LeO.bind ?_ (fun _ => ?_)
theorem shibbolethlaw05_HeaderWrites.mono : ∀ a0 a1 a2 a3 a4 a5 a6 a7 a8 k, LeO (shibbolethlaw05_HeaderWrites.f k a0 a1 a2 a3 a4 a5 a6 a7 a8) (shibbolethlaw05_HeaderWrites.f (k + 1) a0 a1 a2 a3 a4 a5 a6 a7 a8) := by
 intro a0 a1 a2 a3 a4 a5 a6 a7 a8 k
 have ih0 := shibbolethlaw05_HeaderWrites.mono_l k
 unfold shibbolethlaw05_HeaderWrites.f
 repeat' first
   | (with_reducible exact ih0 _ _ _ _ _ _ _ _ _ _ _)
   | (with_reducible exact header_Right.mono _ _ _ _ _ _ _ _ _)
   | (with_reducible exact header_Write.mono _ _ _ _ _ _ _ _ _ _)
   | (with_reducible exact shibbolethlaw05_awake.mono _)
   | (with_reducible exact shibbolethlaw05_same.mono _ _ _)
   | (with_reducible exact shibbolethref05_Right.mono _ _ _ _ _ _ _ _ _)
   | (with_reducible exact shibbolethref05_Write.mono _ _ _ _ _ _ _ _ _ _)
   | (with_reducible exact LeO.refl _)
   | (with_reducible exact LeO.none _)
   | (with_reducible refine LeO.ite ?_ ?_)
   | (with_reducible refine LeO.bind ?_ (fun _ => ?_))
   | exact ih0 _ _ _ _ _ _ _ _ _ _ _
   | exact header_Right.mono _ _ _ _ _ _ _ _ _
   | exact header_Write.mono _ _ _ _ _ _ _ _ _ _
   | exact shibbolethlaw05_awake.mono _
   | exact shibbolethlaw05_same.mono _ _ _
   | exact shibbolethref05_Right.mono _ _ _ _ _ _ _ _ _
   | exact shibbolethref05_Write.mono _ _ _ _ _ _ _ _ _ _
   | exact LeO.none _
   | refine LeO.ite ?_ ?_
   | refine LeO.bind ?_ (fun _ => ?_)
set_option maxHeartbeats 8000000 in
set_option maxRecDepth 100000 in
theorem shibbolethlaw05_HeaderWrites.calls (k : Nat) (a0_0 : Int) (a0_1 : Int) (A0_2 : Option Addr) (c0_2 : Nat) (l0_2 : List Int) (A0_3 : Option Addr) (c0_3 : Nat) (l0_3 : List Int) (A0_4 : Option Addr) (c0_4 : Nat) (l0_4 : List Int) (a0_5 : Int) (a0_6 : Int) (a0_7 : Int) (a1 : Int) (r : Bool) (w : World) (hr0_2 : Kd.C (Kd.int .u8) w A0_2 l0_2.length l0_2) (hc0_2 : l0_2.length ≤ c0_2) (hr0_3 : Kd.C (Kd.int .u8) w A0_3 l0_3.length l0_3) (hc0_3 : l0_3.length ≤ c0_3) (hr0_4 : Kd.C (Kd.int .u8) w A0_4 l0_4.length l0_4) (hc0_4 : l0_4.length ≤ c0_4) (ht : TB w) (h : shibbolethlaw05_HeaderWrites.f k a0_0 a0_1 l0_2 l0_3 l0_4 a0_5 a0_6 a0_7 a1 = some r) :
  Calls Tryd.prog 9 #[.agg #[.int .i64 a0_0, .int .i64 a0_1, .slice A0_2 l0_2.length c0_2, .slice A0_3 l0_3.length c0_3, .slice A0_4 l0_4.length c0_4, .int .i64 a0_5, .int .i64 a0_6, .int .i64 a0_7], .int .i64 a1] w fun e w' => e = .returned (.bool r) ∧ Below w.heap.size w w' := by
 have HT := Aside0.mk ht
 clear ht
 have hu44 := Tryd.underlying44
 have hu46 := Tryd.underlying46
 have HR0_2 := Aside0.mk hr0_2
 have HC0_2 := Aside0.mk hc0_2
 clear hr0_2 hc0_2
 have HR0_3 := Aside0.mk hr0_3
 have HC0_3 := Aside0.mk hc0_3
 clear hr0_3 hc0_3
 have HR0_4 := Aside0.mk hr0_4
 have HC0_4 := Aside0.mk hc0_4
 clear hr0_4 hc0_4
 have HB := Aside0.mk (Below.refl w.heap.size w)
 have H : ((shibbolethlaw05_light.f a0_0 a0_1 l0_2 l0_3 l0_4 a0_5 a0_6 a0_7).bind fun t270 => (if t270 = true then ((shibbolethlaw05_of.f a0_0 a0_1 l0_2 l0_3 l0_4 a0_5 a0_6 a0_7).bind fun bt271 => ((header_Write.f k bt271.1 bt271.2.1 bt271.2.2.1 bt271.2.2.2.1 bt271.2.2.2.2.1 bt271.2.2.2.2.2.1 bt271.2.2.2.2.2.2.1 bt271.2.2.2.2.2.2.2 a1).bind fun t286 => ((header_Right.f k bt271.1 bt271.2.1 bt271.2.2.1 bt271.2.2.2.1 bt271.2.2.2.2.1 bt271.2.2.2.2.2.1 bt271.2.2.2.2.2.2.1 bt271.2.2.2.2.2.2.2).bind fun t289 => ((shibbolethref05_Right.f k a0_0 a0_1 l0_2 l0_3 l0_4 a0_5 a0_6 a0_7).bind fun t290 => (if (t289 != t290) = true then (some false) else ((shibbolethref05_Right.f k a0_0 a0_1 l0_2 l0_3 l0_4 a0_5 a0_6 a0_7).bind fun t291 => (if t291 = true then (if a1 < 0 then (shibbolethlaw05_HeaderWrites.j0 k a1 t286 true a0_0 a0_1 l0_2 l0_3 l0_4 a0_5 a0_6 a0_7) else (shibbolethlaw05_HeaderWrites.j0 k a1 t286 (decide (a1 > 16384)) a0_0 a0_1 l0_2 l0_3 l0_4 a0_5 a0_6 a0_7)) else (shibbolethlaw05_HeaderWrites.j0 k a1 t286 true a0_0 a0_1 l0_2 l0_3 l0_4 a0_5 a0_6 a0_7)))))))) else (some true))) = some r := h
 clear h
 replace H := Option.bind_eq_some_iff.mp H
 obtain ⟨t270, A30, H⟩ := H
 replace H : (if t270 = true then ((shibbolethlaw05_of.f a0_0 a0_1 l0_2 l0_3 l0_4 a0_5 a0_6 a0_7).bind fun bt271 => ((header_Write.f k bt271.1 bt271.2.1 bt271.2.2.1 bt271.2.2.2.1 bt271.2.2.2.2.1 bt271.2.2.2.2.2.1 bt271.2.2.2.2.2.2.1 bt271.2.2.2.2.2.2.2 a1).bind fun t286 => ((header_Right.f k bt271.1 bt271.2.1 bt271.2.2.1 bt271.2.2.2.1 bt271.2.2.2.2.1 bt271.2.2.2.2.2.1 bt271.2.2.2.2.2.2.1 bt271.2.2.2.2.2.2.2).bind fun t289 => ((shibbolethref05_Right.f k a0_0 a0_1 l0_2 l0_3 l0_4 a0_5 a0_6 a0_7).bind fun t290 => (if (t289 != t290) = true then (some false) else ((shibbolethref05_Right.f k a0_0 a0_1 l0_2 l0_3 l0_4 a0_5 a0_6 a0_7).bind fun t291 => (if t291 = true then (if a1 < 0 then (shibbolethlaw05_HeaderWrites.j0 k a1 t286 true a0_0 a0_1 l0_2 l0_3 l0_4 a0_5 a0_6 a0_7) else (shibbolethlaw05_HeaderWrites.j0 k a1 t286 (decide (a1 > 16384)) a0_0 a0_1 l0_2 l0_3 l0_4 a0_5 a0_6 a0_7)) else (shibbolethlaw05_HeaderWrites.j0 k a1 t286 true a0_0 a0_1 l0_2 l0_3 l0_4 a0_5 a0_6 a0_7)))))))) else (some true)) = some r := H
 have A3 := Aside0.mk A30
 clear A30
 by_cases c4 : t270 = true
 ·subst c4
  have H1 : ((shibbolethlaw05_of.f a0_0 a0_1 l0_2 l0_3 l0_4 a0_5 a0_6 a0_7).bind fun bt271 => ((header_Write.f k bt271.1 bt271.2.1 bt271.2.2.1 bt271.2.2.2.1 bt271.2.2.2.2.1 bt271.2.2.2.2.2.1 bt271.2.2.2.2.2.2.1 bt271.2.2.2.2.2.2.2 a1).bind fun t286 => ((header_Right.f k bt271.1 bt271.2.1 bt271.2.2.1 bt271.2.2.2.1 bt271.2.2.2.2.1 bt271.2.2.2.2.2.1 bt271.2.2.2.2.2.2.1 bt271.2.2.2.2.2.2.2).bind fun t289 => ((shibbolethref05_Right.f k a0_0 a0_1 l0_2 l0_3 l0_4 a0_5 a0_6 a0_7).bind fun t290 => (if (t289 != t290) = true then (some false) else ((shibbolethref05_Right.f k a0_0 a0_1 l0_2 l0_3 l0_4 a0_5 a0_6 a0_7).bind fun t291 => (if t291 = true then (if a1 < 0 then (shibbolethlaw05_HeaderWrites.j0 k a1 t286 true a0_0 a0_1 l0_2 l0_3 l0_4 a0_5 a0_6 a0_7) else (shibbolethlaw05_HeaderWrites.j0 k a1 t286 (decide (a1 > 16384)) a0_0 a0_1 l0_2 l0_3 l0_4 a0_5 a0_6 a0_7)) else (shibbolethlaw05_HeaderWrites.j0 k a1 t286 true a0_0 a0_1 l0_2 l0_3 l0_4 a0_5 a0_6 a0_7)))))))) = some r := by rw [if_pos rfl] at H; exact H
  clear H
  have H := H1
  clear H1
  replace H := Option.bind_eq_some_iff.mp H
  obtain ⟨⟨t271, t272, t273, t276, t279, t282, t283, t284⟩, A50, H⟩ := H
  replace H : ((header_Write.f k t271 t272 t273 t276 t279 t282 t283 t284 a1).bind fun t286 => ((header_Right.f k t271 t272 t273 t276 t279 t282 t283 t284).bind fun t289 => ((shibbolethref05_Right.f k a0_0 a0_1 l0_2 l0_3 l0_4 a0_5 a0_6 a0_7).bind fun t290 => (if (t289 != t290) = true then (some false) else ((shibbolethref05_Right.f k a0_0 a0_1 l0_2 l0_3 l0_4 a0_5 a0_6 a0_7).bind fun t291 => (if t291 = true then (if a1 < 0 then (shibbolethlaw05_HeaderWrites.j0 k a1 t286 true a0_0 a0_1 l0_2 l0_3 l0_4 a0_5 a0_6 a0_7) else (shibbolethlaw05_HeaderWrites.j0 k a1 t286 (decide (a1 > 16384)) a0_0 a0_1 l0_2 l0_3 l0_4 a0_5 a0_6 a0_7)) else (shibbolethlaw05_HeaderWrites.j0 k a1 t286 true a0_0 a0_1 l0_2 l0_3 l0_4 a0_5 a0_6 a0_7))))))) = some r := H
  have A5 := Aside0.mk A50
  clear A50
  replace H := Option.bind_eq_some_iff.mp H
  obtain ⟨t286, A60, H⟩ := H
  replace H : ((header_Right.f k t271 t272 t273 t276 t279 t282 t283 t284).bind fun t289 => ((shibbolethref05_Right.f k a0_0 a0_1 l0_2 l0_3 l0_4 a0_5 a0_6 a0_7).bind fun t290 => (if (t289 != t290) = true then (some false) else ((shibbolethref05_Right.f k a0_0 a0_1 l0_2 l0_3 l0_4 a0_5 a0_6 a0_7).bind fun t291 => (if t291 = true then (if a1 < 0 then (shibbolethlaw05_HeaderWrites.j0 k a1 t286 true a0_0 a0_1 l0_2 l0_3 l0_4 a0_5 a0_6 a0_7) else (shibbolethlaw05_HeaderWrites.j0 k a1 t286 (decide (a1 > 16384)) a0_0 a0_1 l0_2 l0_3 l0_4 a0_5 a0_6 a0_7)) else (shibbolethlaw05_HeaderWrites.j0 k a1 t286 true a0_0 a0_1 l0_2 l0_3 l0_4 a0_5 a0_6 a0_7)))))) = some r := H
  have A6 := Aside0.mk A60
  clear A60
  replace H := Option.bind_eq_some_iff.mp H
  obtain ⟨t289, A70, H⟩ := H
  replace H : ((shibbolethref05_Right.f k a0_0 a0_1 l0_2 l0_3 l0_4 a0_5 a0_6 a0_7).bind fun t290 => (if (t289 != t290) = true then (some false) else ((shibbolethref05_Right.f k a0_0 a0_1 l0_2 l0_3 l0_4 a0_5 a0_6 a0_7).bind fun t291 => (if t291 = true then (if a1 < 0 then (shibbolethlaw05_HeaderWrites.j0 k a1 t286 true a0_0 a0_1 l0_2 l0_3 l0_4 a0_5 a0_6 a0_7) else (shibbolethlaw05_HeaderWrites.j0 k a1 t286 (decide (a1 > 16384)) a0_0 a0_1 l0_2 l0_3 l0_4 a0_5 a0_6 a0_7)) else (shibbolethlaw05_HeaderWrites.j0 k a1 t286 true a0_0 a0_1 l0_2 l0_3 l0_4 a0_5 a0_6 a0_7))))) = some r := H
  have A7 := Aside0.mk A70
  clear A70
  replace H := Option.bind_eq_some_iff.mp H
  obtain ⟨t290, A80, H⟩ := H
  replace H : (if (t289 != t290) = true then (some false) else ((shibbolethref05_Right.f k a0_0 a0_1 l0_2 l0_3 l0_4 a0_5 a0_6 a0_7).bind fun t291 => (if t291 = true then (if a1 < 0 then (shibbolethlaw05_HeaderWrites.j0 k a1 t286 true a0_0 a0_1 l0_2 l0_3 l0_4 a0_5 a0_6 a0_7) else (shibbolethlaw05_HeaderWrites.j0 k a1 t286 (decide (a1 > 16384)) a0_0 a0_1 l0_2 l0_3 l0_4 a0_5 a0_6 a0_7)) else (shibbolethlaw05_HeaderWrites.j0 k a1 t286 true a0_0 a0_1 l0_2 l0_3 l0_4 a0_5 a0_6 a0_7)))) = some r := H
  have A8 := Aside0.mk A80
  clear A80
  by_cases c9 : (t289 != t290) = true
  ·rw [if_pos c9] at H
   have c9b0 : (t289 != t290) = true := c9
   (try (have c9b1 : decide (t289 = t290) = false := by simpa using c9))
   (try (have c9b2 : (t289 == t290) = false := by simpa using c9))
   (try (have c9b3 : ¬ (t289 = t290) := by simpa using c9))
   clear c9
   obtain rfl := Option.some.inj H
   go_enter Tryd.func9, Tryd.ntmps9
   try go_wp2_with (first | ((with_reducible refine gate_dst (N := 2) rfl ?_); refine box_event ?hg (N := 2) ?hd (cs := #[.int .i64 a0_0, .int .i64 a0_1, .slice A0_2 l0_2.length c0_2, .slice A0_3 l0_3.length c0_3, .slice A0_4 l0_4.length c0_4, .int .i64 a0_5, .int .i64 a0_6, .int .i64 a0_7]) (t := 44) ?hr ?_; (case hd => rfl); (case hg => rfl); (case hr => first | (go_simp; done) | (go_simp; rfl)); intro gb269 hg w10 hbox hb; have n0_ := Aside0.mk (below_step (by qc0_) hb); have n1_ := Aside0.mk (hbox); have n2_ := Aside0.mk ((by rw [hg]; exact (below_size (by qc0_)) : w.heap.size ≤ gb269)); have n3_ := Aside0.mk ((by rw [hg]; exact (below_size (by qc0_)) : w.heap.size ≤ gb269)); clear HB; have HB := n0_; have BK269 := n1_; have GW269 := n2_; have GE269 := n3_; clear n0_ n1_ n2_ n3_; clear hb hbox hg; have hcz11_0 : w10.cell? ⟨gb269, 0, none⟩ = some (.int .i64 a0_0) := (blk_cell BK269.out 0).trans rfl; have hcz11_1 : w10.cell? ⟨gb269, 1, none⟩ = some (.int .i64 a0_1) := (blk_cell BK269.out 1).trans rfl; have hcz11_2 : w10.cell? ⟨gb269, 2, none⟩ = some (.slice A0_2 l0_2.length c0_2) := (blk_cell BK269.out 2).trans rfl; have hcz11_3 : w10.cell? ⟨gb269, 3, none⟩ = some (.slice A0_3 l0_3.length c0_3) := (blk_cell BK269.out 3).trans rfl; have hcz11_4 : w10.cell? ⟨gb269, 4, none⟩ = some (.slice A0_4 l0_4.length c0_4) := (blk_cell BK269.out 4).trans rfl; have hcz11_5 : w10.cell? ⟨gb269, 5, none⟩ = some (.int .i64 a0_5) := (blk_cell BK269.out 5).trans rfl; have hcz11_6 : w10.cell? ⟨gb269, 6, none⟩ = some (.int .i64 a0_6) := (blk_cell BK269.out 6).trans rfl; have hcz11_7 : w10.cell? ⟨gb269, 7, none⟩ = some (.int .i64 a0_7) := (blk_cell BK269.out 7).trans rfl; have hfz11_0 := blk_frozen BK269.out 0; have hfz11_1 := blk_frozen BK269.out 1; have hfz11_2 := blk_frozen BK269.out 2; have hfz11_3 := blk_frozen BK269.out 3; have hfz11_4 := blk_frozen BK269.out 4; have hfz11_5 := blk_frozen BK269.out 5; have hfz11_6 := blk_frozen BK269.out 6; have hfz11_7 := blk_frozen BK269.out 7) | ((with_reducible refine gate_callee (f := 33) rfl ?_); refine goesL_ (some 8) rfl rfl Tryd.func33 (by kernel_rfl) rfl #[.agg #[.int .i64 a0_0, .int .i64 a0_1, .slice A0_2 l0_2.length c0_2, .slice A0_3 l0_3.length c0_3, .slice A0_4 l0_4.length c0_4, .int .i64 a0_5, .int .i64 a0_6, .int .i64 a0_7]] rfl (by (try simp only [List.map_toArray, List.map_cons, List.map_nil]); first | done | rfl | (simp only [List.length_drop, List.length_take]; rfl)) ?_; (with_reducible refine (shibbolethlaw05_light.calls a0_0 a0_1 _ _ l0_2 _ _ l0_3 _ _ l0_4 a0_5 a0_6 a0_7 true _ ?side1 ?side2 ?side3 ?side4 ?side5 ?side6 A3.out).mono ?_); (case side1 => repeat (first | exact (Kd.C_below HR0_2.out HB.out) | exact HR0_2.out | (with_reducible refine Kd.C_alloc ?_ _) | (with_reducible refine Kd.C_drewN ?_ _) | (with_reducible refine Kd.C_drew ?_))); (case side2 => exact HC0_2.out); (case side3 => repeat (first | exact (Kd.C_below HR0_3.out HB.out) | exact HR0_3.out | (with_reducible refine Kd.C_alloc ?_ _) | (with_reducible refine Kd.C_drewN ?_ _) | (with_reducible refine Kd.C_drew ?_))); (case side4 => exact HC0_3.out); (case side5 => repeat (first | exact (Kd.C_below HR0_4.out HB.out) | exact HR0_4.out | (with_reducible refine Kd.C_alloc ?_ _) | (with_reducible refine Kd.C_drewN ?_ _) | (with_reducible refine Kd.C_drew ?_))); (case side6 => exact HC0_4.out); rintro e w12 ⟨rfl, hb⟩; refine ⟨_, rfl, ?_⟩; have n0_ := Aside0.mk (blk_below (g := gb269) (o := (on130_)) (by qk_; exact BK269.out) hb); have n1_ := Aside0.mk (below_step (by qb1_ GE269) hb); clear BK269; clear HB; have BK269 := n0_; have HB := n1_; clear n0_ n1_; (try clear hb); (try clear hb2); (try clear hk); (try clear hi); have hcz13_0 : w12.cell? ⟨gb269, 0, none⟩ = some (.int .i64 a0_0) := (blk_cell BK269.out 0).trans rfl; have hcz13_1 : w12.cell? ⟨gb269, 1, none⟩ = some (.int .i64 a0_1) := (blk_cell BK269.out 1).trans rfl; have hcz13_2 : w12.cell? ⟨gb269, 2, none⟩ = some (.slice A0_2 l0_2.length c0_2) := (blk_cell BK269.out 2).trans rfl; have hcz13_3 : w12.cell? ⟨gb269, 3, none⟩ = some (.slice A0_3 l0_3.length c0_3) := (blk_cell BK269.out 3).trans rfl; have hcz13_4 : w12.cell? ⟨gb269, 4, none⟩ = some (.slice A0_4 l0_4.length c0_4) := (blk_cell BK269.out 4).trans rfl; have hcz13_5 : w12.cell? ⟨gb269, 5, none⟩ = some (.int .i64 a0_5) := (blk_cell BK269.out 5).trans rfl; have hcz13_6 : w12.cell? ⟨gb269, 6, none⟩ = some (.int .i64 a0_6) := (blk_cell BK269.out 6).trans rfl; have hcz13_7 : w12.cell? ⟨gb269, 7, none⟩ = some (.int .i64 a0_7) := (blk_cell BK269.out 7).trans rfl; have hfz13_0 := blk_frozen BK269.out 0; have hfz13_1 := blk_frozen BK269.out 1; have hfz13_2 := blk_frozen BK269.out 2; have hfz13_3 := blk_frozen BK269.out 3; have hfz13_4 := blk_frozen BK269.out 4; have hfz13_5 := blk_frozen BK269.out 5; have hfz13_6 := blk_frozen BK269.out 6; have hfz13_7 := blk_frozen BK269.out 7) | ((with_reducible refine gate_callee (f := 34) rfl ?_); refine goesL_ (some 11) rfl rfl Tryd.func34 (by kernel_rfl) rfl #[.agg #[.int .i64 a0_0, .int .i64 a0_1, .slice A0_2 l0_2.length c0_2, .slice A0_3 l0_3.length c0_3, .slice A0_4 l0_4.length c0_4, .int .i64 a0_5, .int .i64 a0_6, .int .i64 a0_7]] rfl (by (try simp only [List.map_toArray, List.map_cons, List.map_nil]); first | done | rfl | (simp only [List.length_drop, List.length_take]; rfl)) ?_; (with_reducible refine (shibbolethlaw05_of.calls a0_0 a0_1 _ _ l0_2 _ _ l0_3 _ _ l0_4 a0_5 a0_6 a0_7 t271 t272 t273 t276 t279 t282 t283 t284 _ ?side1 ?side2 ?side3 ?side4 ?side5 ?side6 A5.out).mono ?_); (case side1 => repeat (first | exact (Kd.C_below HR0_2.out HB.out) | exact HR0_2.out | (with_reducible refine Kd.C_alloc ?_ _) | (with_reducible refine Kd.C_drewN ?_ _) | (with_reducible refine Kd.C_drew ?_))); (case side2 => exact HC0_2.out); (case side3 => repeat (first | exact (Kd.C_below HR0_3.out HB.out) | exact HR0_3.out | (with_reducible refine Kd.C_alloc ?_ _) | (with_reducible refine Kd.C_drewN ?_ _) | (with_reducible refine Kd.C_drew ?_))); (case side4 => exact HC0_3.out); (case side5 => repeat (first | exact (Kd.C_below HR0_4.out HB.out) | exact HR0_4.out | (with_reducible refine Kd.C_alloc ?_ _) | (with_reducible refine Kd.C_drewN ?_ _) | (with_reducible refine Kd.C_drew ?_))); (case side6 => exact HC0_4.out); rintro e w14 ⟨v274, v277, v280, rfl, ho0, ho1, ho2, hb⟩; refine ⟨_, rfl, ?_⟩; have n0_ := Aside0.mk (Kd.R_lower ho0 (below_size (by qb1_ GE269))); have n1_ := Aside0.mk (Kd.R_lower ho1 (below_size (by qb1_ GE269))); have n2_ := Aside0.mk (Kd.R_lower ho2 (below_size (by qb1_ GE269))); have n3_ := Aside0.mk (blk_below (g := gb269) (o := (on130_)) (by qk_; exact BK269.out) hb); have n4_ := Aside0.mk (below_step (by qb1_ GE269) hb); clear BK269; clear HB; have HO275 := n0_; have HO278 := n1_; have HO281 := n2_; have BK269 := n3_; have HB := n4_; clear n0_ n1_ n2_ n3_ n4_; (try clear hb); (try clear hb2); (try clear hk); (try clear hi); (try clear ho0); (try clear ho1); (try clear ho2)) | ((with_reducible refine gate_dst (N := 5) rfl ?_); refine box_event ?hg (N := 5) ?hd (cs := #[.int .i64 0, .int .i64 0, .slice none 0 0, .slice none 0 0, .slice none 0 0, .int .i64 0, .int .i64 0, .int .i64 0]) (t := 46) ?hr ?_; (case hd => rfl); (case hg => rfl); (case hr => first | (go_simp; done) | (go_simp; rfl)); intro gb285 hg w15 hbox hb; have n0_ := Aside0.mk (Kd.R_below (by qR_; exact HO275.out) hb); have n1_ := Aside0.mk (Kd.R_below (by qR_; exact HO278.out) hb); have n2_ := Aside0.mk (Kd.R_below (by qR_; exact HO281.out) hb); have n3_ := Aside0.mk (blk_below (g := gb269) (o := (on130_)) (by qk_; exact BK269.out) hb); have n4_ := Aside0.mk (below_step (by qb1_ GE269) hb); have n5_ := Aside0.mk (hbox); have n6_ := Aside0.mk ((by rw [hg]; exact (below_size (by qb1_ GE269)) : w.heap.size ≤ gb285)); have n7_ := Aside0.mk ((by rw [hg]; exact (below_size (by qb1_ GE269)) : w.heap.size ≤ gb285)); have n8_ := Aside0.mk ((by rw [hg]; exact Nat.ne_of_lt (blk_lt (g := gb269) (o := (on130_)) (by qk_; exact BK269.out)) : gb269 ≠ gb285)); have n9_ := Aside0.mk ((by rw [hg]; exact Nat.ne_of_gt (blk_lt (g := gb269) (o := (on130_)) (by qk_; exact BK269.out)) : gb285 ≠ gb269)); clear HO275; clear HO278; clear HO281; clear BK269; clear HB; have HO275 := n0_; have HO278 := n1_; have HO281 := n2_; have BK269 := n3_; have HB := n4_; have BK285 := n5_; have GW285 := n6_; have GE285 := n7_; have NB269_285 := n8_; have NB285_269 := n9_; clear n0_ n1_ n2_ n3_ n4_ n5_ n6_ n7_ n8_ n9_; clear hb hbox hg; have hnb16 := NB285_269.out; have hnc16 := NB269_285.out; have hcz17_0 : w15.cell? ⟨gb285, 0, none⟩ = some (.int .i64 0) := (blk_cell BK285.out 0).trans rfl; have hcz17_1 : w15.cell? ⟨gb285, 1, none⟩ = some (.int .i64 0) := (blk_cell BK285.out 1).trans rfl; have hcz17_2 : w15.cell? ⟨gb285, 2, none⟩ = some (.slice none 0 0) := (blk_cell BK285.out 2).trans rfl; have hcz17_3 : w15.cell? ⟨gb285, 3, none⟩ = some (.slice none 0 0) := (blk_cell BK285.out 3).trans rfl; have hcz17_4 : w15.cell? ⟨gb285, 4, none⟩ = some (.slice none 0 0) := (blk_cell BK285.out 4).trans rfl; have hcz17_5 : w15.cell? ⟨gb285, 5, none⟩ = some (.int .i64 0) := (blk_cell BK285.out 5).trans rfl; have hcz17_6 : w15.cell? ⟨gb285, 6, none⟩ = some (.int .i64 0) := (blk_cell BK285.out 6).trans rfl; have hcz17_7 : w15.cell? ⟨gb285, 7, none⟩ = some (.int .i64 0) := (blk_cell BK285.out 7).trans rfl; have hfz17_0 := blk_frozen BK285.out 0; have hfz17_1 := blk_frozen BK285.out 1; have hfz17_2 := blk_frozen BK285.out 2; have hfz17_3 := blk_frozen BK285.out 3; have hfz17_4 := blk_frozen BK285.out 4; have hfz17_5 := blk_frozen BK285.out 5; have hfz17_6 := blk_frozen BK285.out 6; have hfz17_7 := blk_frozen BK285.out 7; obtain ⟨Ao18, co18, eo18⟩ := Kd.R_slice HO275.out; subst eo18; obtain ⟨Ao19, co19, eo19⟩ := Kd.R_slice HO278.out; subst eo19; obtain ⟨Ao20, co20, eo20⟩ := Kd.R_slice HO281.out; subst eo20) | ((with_reducible refine gate_store (t := 46) (p := 5) rfl ?_); refine store_event (t := 46) (p := 5) (v := ?vo_w21) (w1 := ((((((((w15.setCell ⟨gb285, 0, none⟩ (.int .i64 t271)).setCell ⟨gb285, 1, none⟩ (.int .i64 t272)).setCell ⟨gb285, 2, none⟩ (.slice Ao18 t273.length co18)).setCell ⟨gb285, 3, none⟩ (.slice Ao19 t276.length co19)).setCell ⟨gb285, 4, none⟩ (.slice Ao20 t279.length co20)).setCell ⟨gb285, 5, none⟩ (.int .i64 t282)).setCell ⟨gb285, 6, none⟩ (.int .i64 t283)).setCell ⟨gb285, 7, none⟩ (.int .i64 t284))) ?hg ?ho ?hn ?hr ?_; (case ho => rfl); (case hg => rfl); (case hn => rfl); (case hr => first | (go_simp; done) | (go_simp; rfl)); intro w21 hw; have n0_ : Aside0 (Kd.R (Kd.int .u8) 5 w21 w.heap.size (fun k_ => some k_ ≠ (.slice Ao19 t276.length co19 : Value).ownBlock ∧ some k_ ≠ (.slice Ao20 t279.length co20 : Value).ownBlock) (.slice Ao18 t273.length co18) t273) := ⟨(by rw [hw]; exact (by qR_; exact Kd.R_mono (Kd.R_far (p := ⟨gb285, 7, none⟩) (Kd.R_far (p := ⟨gb285, 6, none⟩) (Kd.R_far (p := ⟨gb285, 5, none⟩) (Kd.R_far (p := ⟨gb285, 4, none⟩) (Kd.R_far (p := ⟨gb285, 3, none⟩) (Kd.R_far (p := ⟨gb285, 2, none⟩) (Kd.R_far (p := ⟨gb285, 1, none⟩) (Kd.R_far (p := ⟨gb285, 0, none⟩) (Kd.R_types HO275.out BK285.out (by decide)) (fun _ hk => hk.2) (.int .i64 t271)) (fun _ hk => hk.2) (.int .i64 t272)) (fun _ hk => hk.2) (.slice Ao18 t273.length co18)) (fun _ hk => hk.2) (.slice Ao19 t276.length co19)) (fun _ hk => hk.2) (.slice Ao20 t279.length co20)) (fun _ hk => hk.2) (.int .i64 t282)) (fun _ hk => hk.2) (.int .i64 t283)) (fun _ hk => hk.2) (.int .i64 t284)) (fun _ hk => ⟨hk.1.1, hk.1.2⟩)))⟩; have n1_ : Aside0 (Kd.R (Kd.int .u8) 5 w21 w.heap.size (fun k_ => some k_ ≠ (.slice Ao18 t273.length co18 : Value).ownBlock ∧ some k_ ≠ (.slice Ao20 t279.length co20 : Value).ownBlock) (.slice Ao19 t276.length co19) t276) := ⟨(by rw [hw]; exact (by qR_; exact Kd.R_mono (Kd.R_far (p := ⟨gb285, 7, none⟩) (Kd.R_far (p := ⟨gb285, 6, none⟩) (Kd.R_far (p := ⟨gb285, 5, none⟩) (Kd.R_far (p := ⟨gb285, 4, none⟩) (Kd.R_far (p := ⟨gb285, 3, none⟩) (Kd.R_far (p := ⟨gb285, 2, none⟩) (Kd.R_far (p := ⟨gb285, 1, none⟩) (Kd.R_far (p := ⟨gb285, 0, none⟩) (Kd.R_types HO278.out BK285.out (by decide)) (fun _ hk => hk.2) (.int .i64 t271)) (fun _ hk => hk.2) (.int .i64 t272)) (fun _ hk => hk.2) (.slice Ao18 t273.length co18)) (fun _ hk => hk.2) (.slice Ao19 t276.length co19)) (fun _ hk => hk.2) (.slice Ao20 t279.length co20)) (fun _ hk => hk.2) (.int .i64 t282)) (fun _ hk => hk.2) (.int .i64 t283)) (fun _ hk => hk.2) (.int .i64 t284)) (fun _ hk => ⟨hk.1.1, hk.1.2⟩)))⟩; have n2_ : Aside0 (Kd.R (Kd.int .u8) 5 w21 w.heap.size (fun k_ => some k_ ≠ (.slice Ao18 t273.length co18 : Value).ownBlock ∧ some k_ ≠ (.slice Ao19 t276.length co19 : Value).ownBlock) (.slice Ao20 t279.length co20) t279) := ⟨(by rw [hw]; exact (by qR_; exact Kd.R_mono (Kd.R_far (p := ⟨gb285, 7, none⟩) (Kd.R_far (p := ⟨gb285, 6, none⟩) (Kd.R_far (p := ⟨gb285, 5, none⟩) (Kd.R_far (p := ⟨gb285, 4, none⟩) (Kd.R_far (p := ⟨gb285, 3, none⟩) (Kd.R_far (p := ⟨gb285, 2, none⟩) (Kd.R_far (p := ⟨gb285, 1, none⟩) (Kd.R_far (p := ⟨gb285, 0, none⟩) (Kd.R_types HO281.out BK285.out (by decide)) (fun _ hk => hk.2) (.int .i64 t271)) (fun _ hk => hk.2) (.int .i64 t272)) (fun _ hk => hk.2) (.slice Ao18 t273.length co18)) (fun _ hk => hk.2) (.slice Ao19 t276.length co19)) (fun _ hk => hk.2) (.slice Ao20 t279.length co20)) (fun _ hk => hk.2) (.int .i64 t282)) (fun _ hk => hk.2) (.int .i64 t283)) (fun _ hk => hk.2) (.int .i64 t284)) (fun _ hk => ⟨hk.1.1, hk.1.2⟩)))⟩; have n3_ : Aside0 (w21.heap[gb269]? = some ((on130_))) := ⟨(by rw [hw]; exact (by qk_; refine blk_far ?_ NB269_285.out _; qk_; refine blk_far ?_ NB269_285.out _; qk_; refine blk_far ?_ NB269_285.out _; qk_; refine blk_far ?_ NB269_285.out _; qk_; refine blk_far ?_ NB269_285.out _; qk_; refine blk_far ?_ NB269_285.out _; qk_; refine blk_far ?_ NB269_285.out _; qk_; refine blk_far ?_ NB269_285.out _; qk_; exact BK269.out))⟩; have n4_ : Aside0 (w21.heap[gb285]? = some ((on131_))) := ⟨(by rw [hw]; exact (by qk_; refine blk_put (cs := #[.int .i64 t271, .int .i64 t272, .slice Ao18 t273.length co18, .slice Ao19 t276.length co19, .slice Ao20 t279.length co20, .int .i64 t282, .int .i64 t283, .int .i64 0]) ?_ 7 _ rfl; qk_; refine blk_put (cs := #[.int .i64 t271, .int .i64 t272, .slice Ao18 t273.length co18, .slice Ao19 t276.length co19, .slice Ao20 t279.length co20, .int .i64 t282, .int .i64 0, .int .i64 0]) ?_ 6 _ rfl; qk_; refine blk_put (cs := #[.int .i64 t271, .int .i64 t272, .slice Ao18 t273.length co18, .slice Ao19 t276.length co19, .slice Ao20 t279.length co20, .int .i64 0, .int .i64 0, .int .i64 0]) ?_ 5 _ rfl; qk_; refine blk_put (cs := #[.int .i64 t271, .int .i64 t272, .slice Ao18 t273.length co18, .slice Ao19 t276.length co19, .slice none 0 0, .int .i64 0, .int .i64 0, .int .i64 0]) ?_ 4 _ rfl; qk_; refine blk_put (cs := #[.int .i64 t271, .int .i64 t272, .slice Ao18 t273.length co18, .slice none 0 0, .slice none 0 0, .int .i64 0, .int .i64 0, .int .i64 0]) ?_ 3 _ rfl; qk_; refine blk_put (cs := #[.int .i64 t271, .int .i64 t272, .slice none 0 0, .slice none 0 0, .slice none 0 0, .int .i64 0, .int .i64 0, .int .i64 0]) ?_ 2 _ rfl; qk_; refine blk_put (cs := #[.int .i64 t271, .int .i64 0, .slice none 0 0, .slice none 0 0, .slice none 0 0, .int .i64 0, .int .i64 0, .int .i64 0]) ?_ 1 _ rfl; qk_; refine blk_put (cs := #[.int .i64 0, .int .i64 0, .slice none 0 0, .slice none 0 0, .slice none 0 0, .int .i64 0, .int .i64 0, .int .i64 0]) ?_ 0 _ rfl; qk_; exact BK285.out))⟩; have n5_ : Aside0 (Below w.heap.size w w21) := ⟨(by rw [hw]; exact (by qb2_ GE269 GE285))⟩; clear hw; clear HO275; clear HO278; clear HO281; clear BK269; clear BK285; clear HB; have HO275 := n0_; have HO278 := n1_; have HO281 := n2_; have BK269 := n3_; have BK285 := n4_; have HB := n5_; clear n0_ n1_ n2_ n3_ n4_ n5_; have hcz22_0 : w21.cell? ⟨gb285, 0, none⟩ = some (.int .i64 t271) := (blk_cell BK285.out 0).trans rfl; have hcz22_1 : w21.cell? ⟨gb285, 1, none⟩ = some (.int .i64 t272) := (blk_cell BK285.out 1).trans rfl; have hcz22_2 : w21.cell? ⟨gb285, 2, none⟩ = some (.slice Ao18 t273.length co18) := (blk_cell BK285.out 2).trans rfl; have hcz22_3 : w21.cell? ⟨gb285, 3, none⟩ = some (.slice Ao19 t276.length co19) := (blk_cell BK285.out 3).trans rfl; have hcz22_4 : w21.cell? ⟨gb285, 4, none⟩ = some (.slice Ao20 t279.length co20) := (blk_cell BK285.out 4).trans rfl; have hcz22_5 : w21.cell? ⟨gb285, 5, none⟩ = some (.int .i64 t282) := (blk_cell BK285.out 5).trans rfl; have hcz22_6 : w21.cell? ⟨gb285, 6, none⟩ = some (.int .i64 t283) := (blk_cell BK285.out 6).trans rfl; have hcz22_7 : w21.cell? ⟨gb285, 7, none⟩ = some (.int .i64 t284) := (blk_cell BK285.out 7).trans rfl; have hfz22_0 := blk_frozen BK285.out 0; have hfz22_1 := blk_frozen BK285.out 1; have hfz22_2 := blk_frozen BK285.out 2; have hfz22_3 := blk_frozen BK285.out 3; have hfz22_4 := blk_frozen BK285.out 4; have hfz22_5 := blk_frozen BK285.out 5; have hfz22_6 := blk_frozen BK285.out 6; have hfz22_7 := blk_frozen BK285.out 7) | ((with_reducible refine gate_callee (f := 35) rfl ?_); refine goesL_ (some 14) rfl rfl Tryd.func35 (by kernel_rfl) rfl #[.agg #[.int .i64 t271, .int .i64 t272, .slice Ao18 t273.length co18, .slice Ao19 t276.length co19, .slice Ao20 t279.length co20, .int .i64 t282, .int .i64 t283, .int .i64 t284], .int .i64 a1] rfl (by (try simp only [List.map_toArray, List.map_cons, List.map_nil]); first | done | rfl | (simp only [List.length_drop, List.length_take]; rfl)) ?_; (with_reducible refine (header_Write.calls k t271 t272 (fun k_ => some k_ = (.slice Ao18 t273.length co18 : Value).ownBlock) _ _ t273 _ _ t276 _ _ t279 t282 t283 t284 a1 t286 _ ?side1 ?side2 ?side3 ?side4 ?side5 ?sideT A6.out).mono ?_); (case sideT => repeat (first | exact HT.out | exact TB.below HT.out HB.out | exact TB.below HT.out HBW.out | (with_reducible refine TB.alloc ?_ _) | (with_reducible refine TB.drewN ?_ _) | (with_reducible refine TB.drew ?_))); (case side1 => exact Kd.R_V (Kd.R_tight rfl (Kd.R_types (Kd.R_types (HO275.out) BK269.out (by decide)) BK285.out (by decide)))); (case side2 => repeat (first | exact (Kd.R_reads' HO278.out).2.2 | (with_reducible refine Kd.C_alloc ?_ _) | (with_reducible refine Kd.C_drewN ?_ _) | (with_reducible refine Kd.C_drew ?_))); (case side3 => exact (Kd.R_reads' HO278.out).2.1); (case side4 => repeat (first | exact (Kd.R_reads' HO281.out).2.2 | (with_reducible refine Kd.C_alloc ?_ _) | (with_reducible refine Kd.C_drewN ?_ _) | (with_reducible refine Kd.C_drew ?_))); (case side5 => exact (Kd.R_reads' HO281.out).2.1); rintro e w23 ⟨v287, rfl, ho0, hb⟩; refine ⟨_, rfl, ?_⟩; have n0_ := Aside0.mk (Kd.R_elder' (by qR_; exact HO275.out) (Kd.R_base ho0) hb); have n1_ := Aside0.mk (Kd.R_elder' (by qR_; exact HO278.out) (Kd.R_base ho0) hb); have n2_ := Aside0.mk (Kd.R_elder' (by qR_; exact HO281.out) (Kd.R_base ho0) hb); have n3_ := Aside0.mk (Kd.R_lower (Kd.R_new' (Kd.R_new' (Kd.R_new' (Kd.R_mono (ok' := fun k_ => True) ho0 (fun _ hk_ => trivial)) (Kd.R_lt (by qR_; exact HO275.out))) (Kd.R_lt (by qR_; exact HO278.out))) (Kd.R_lt (by qR_; exact HO281.out))) (below_size (by qb2_ GE269 GE285))); have n4_ := Aside0.mk (blk_below (g := gb269) (o := (on130_)) (by qk_; exact BK269.out) hb); have n5_ := Aside0.mk (blk_below (g := gb285) (o := (on131_)) (by qk_; exact BK285.out) hb); have n6_ := Aside0.mk (below_step (by qb2_ GE269 GE285) hb); clear HO275; clear HO278; clear HO281; clear BK269; clear BK285; clear HB; have HO275 := n0_; have HO278 := n1_; have HO281 := n2_; have HO288 := n3_; have BK269 := n4_; have BK285 := n5_; have HB := n6_; clear n0_ n1_ n2_ n3_ n4_ n5_ n6_; (try clear hb); (try clear hb2); (try clear hk); (try clear hi); (try clear ho0)))
   have n0_ := Aside0.mk (Kd.R_drew HO275.out)
   have n1_ := Aside0.mk (Kd.R_drew HO278.out)
   have n2_ := Aside0.mk (Kd.R_drew HO281.out)
   have n3_ := Aside0.mk (Kd.R_drew HO288.out)
   have n4_ := Aside0.mk (blk_drew BK269.out)
   have n5_ := Aside0.mk (blk_drew BK285.out)
   have n6_ := Aside0.mk (below_drew1 HB.out)
   clear HO275
   clear HO278
   clear HO281
   clear HO288
   clear BK269
   clear BK285
   clear HB
   have HO275 := n0_
   have HO278 := n1_
   have HO281 := n2_
   have HO288 := n3_
   have BK269 := n4_
   have BK285 := n5_
   have HB := n6_
   clear n0_ n1_ n2_ n3_ n4_ n5_ n6_
   refine start_ (n := 5) (S := fun w' => w'.cell? ⟨gb285, 0, none⟩ = some (.int .i64 t271) ∧ w'.cell? ⟨gb285, 1, none⟩ = some (.int .i64 t272) ∧ w'.cell? ⟨gb285, 2, none⟩ = some (.slice Ao18 t273.length co18) ∧ w'.cell? ⟨gb285, 3, none⟩ = some (.slice Ao19 t276.length co19) ∧ w'.cell? ⟨gb285, 4, none⟩ = some (.slice Ao20 t279.length co20) ∧ w'.cell? ⟨gb285, 5, none⟩ = some (.int .i64 t282) ∧ w'.cell? ⟨gb285, 6, none⟩ = some (.int .i64 t283) ∧ w'.cell? ⟨gb285, 7, none⟩ = some (.int .i64 t284) ∧ w'.cell? ⟨gb269, 0, none⟩ = some (.int .i64 a0_0) ∧ w'.cell? ⟨gb269, 1, none⟩ = some (.int .i64 a0_1) ∧ w'.cell? ⟨gb269, 2, none⟩ = some (.slice A0_2 l0_2.length c0_2) ∧ w'.cell? ⟨gb269, 3, none⟩ = some (.slice A0_3 l0_3.length c0_3) ∧ w'.cell? ⟨gb269, 4, none⟩ = some (.slice A0_4 l0_4.length c0_4) ∧ w'.cell? ⟨gb269, 5, none⟩ = some (.int .i64 a0_5) ∧ w'.cell? ⟨gb269, 6, none⟩ = some (.int .i64 a0_6) ∧ w'.cell? ⟨gb269, 7, none⟩ = some (.int .i64 a0_7)) (ds := []) #[false, false, false, false, false] (by kernel_rfl) rfl rfl ⟨(blk_cell BK285.out 0).trans rfl, (blk_cell BK285.out 1).trans rfl, (blk_cell BK285.out 2).trans rfl, (blk_cell BK285.out 3).trans rfl, (blk_cell BK285.out 4).trans rfl, (blk_cell BK285.out 5).trans rfl, (blk_cell BK285.out 6).trans rfl, (blk_cell BK285.out 7).trans rfl, (blk_cell BK269.out 0).trans rfl, (blk_cell BK269.out 1).trans rfl, (blk_cell BK269.out 2).trans rfl, (blk_cell BK269.out 3).trans rfl, (blk_cell BK269.out 4).trans rfl, (blk_cell BK269.out 5).trans rfl, (blk_cell BK269.out 6).trans rfl, (blk_cell BK269.out 7).trans rfl⟩ (fun hHeld => ?_)
   generalize w23.drew = w24 at HO275 HO278 HO281 HO288 BK269 BK285 HB hHeld ⊢
   refine take_ (i := 0) (N := some 15) (v := ?_) (a' := ?_) #[true, false, false, false, false] rfl rfl (by kernel_rfl) (fun _ _ _ h => h) (Or.inl ⟨by rfl, ?_⟩) hHeld ?_ ?_
   rotate_left
   ·ln130_
    go_simp
    with_reducible rfl
   rotate_left
   ·qp_
    rfl
   refine take_ (i := 2) (N := some 17) (v := ?_) (a' := ?_) #[true, false, true, false, false] rfl rfl (by kernel_rfl) (fun _ _ _ h => h) (Or.inl ⟨by rfl, ?_⟩) hHeld ?_ ?_
   rotate_left
   ·ln130_
    go_simp
    with_reducible rfl
   rotate_left
   ·qp_
    rfl
   refine one_ (i := 1) (N := some 16) #[true, true, true, false, false] rfl rfl (by kernel_rfl) (by decide) (fun K hK => ?_)
   refine goes_ Tryd.func36 (by kernel_rfl) rfl #[.agg #[.int .i64 t271, .int .i64 t272, .slice Ao18 t273.length co18, .slice Ao19 t276.length co19, .slice Ao20 t279.length co20, .int .i64 t282, .int .i64 t283, .int .i64 t284]] (by rfl) rfl rfl (by (try simp only [List.map_toArray, List.map_cons, List.map_nil]); first | done | rfl | (simp only [List.length_drop, List.length_take]; rfl)) ?_
   with_reducible refine (header_Right.calls k t271 t272 _ _ t273 _ _ t276 _ _ t279 t282 t283 t284 t289 _ ?side1 ?side2 ?side3 ?side4 ?side5 ?side6 A7.out).mono ?_
   (case side1 => repeat (first | exact (Kd.R_reads' HO275.out).2.2 | (with_reducible refine Kd.C_alloc ?_ _) | (with_reducible refine Kd.C_drewN ?_ _) | (with_reducible refine Kd.C_drew ?_)))
   (case side2 => exact (Kd.R_reads' HO275.out).2.1)
   (case side3 => repeat (first | exact (Kd.R_reads' HO278.out).2.2 | (with_reducible refine Kd.C_alloc ?_ _) | (with_reducible refine Kd.C_drewN ?_ _) | (with_reducible refine Kd.C_drew ?_)))
   (case side4 => exact (Kd.R_reads' HO278.out).2.1)
   (case side5 => repeat (first | exact (Kd.R_reads' HO281.out).2.2 | (with_reducible refine Kd.C_alloc ?_ _) | (with_reducible refine Kd.C_drewN ?_ _) | (with_reducible refine Kd.C_drew ?_)))
   (case side6 => exact (Kd.R_reads' HO281.out).2.1)
   rintro e w25 ⟨rfl, hb⟩
   refine ⟨_, rfl, ?_⟩
   have n0_ := Aside0.mk (Kd.R_below (by qR_; exact HO275.out) hb)
   have n1_ := Aside0.mk (Kd.R_below (by qR_; exact HO278.out) hb)
   have n2_ := Aside0.mk (Kd.R_below (by qR_; exact HO281.out) hb)
   have n3_ := Aside0.mk (Kd.R_below (by qR_; exact HO288.out) hb)
   ln131_
   have n5_ := Aside0.mk (blk_below (g := gb285) (o := (on131_)) (by qk_; exact BK285.out) hb)
   have n6_ := Aside0.mk (below_step (by qb2_ GE269 GE285) hb)
   clear HO275
   clear HO278
   clear HO281
   clear HO288
   clear BK269
   clear BK285
   clear HB
   have HO275 := n0_
   have HO278 := n1_
   have HO281 := n2_
   have HO288 := n3_
   have BK269 := n4_
   have BK285 := n5_
   have HB := n6_
   clear n0_ n1_ n2_ n3_ n4_ n5_ n6_
   (try clear hb)
   (try clear hb2)
   (try clear hk)
   (try clear hi)
   ln132_
   clear hK K
   refine norm_ (a' := ?_) ?_ ?_
   rotate_left
   ·show Act.put _ (some 16) _ = _
    qp_
    rfl
   refine one_ (i := 3) (N := some 18) #[true, true, true, true, false] rfl rfl (by kernel_rfl) (by decide) (fun K hK => ?_)
   refine goes_ Tryd.func37 (by kernel_rfl) rfl #[.agg #[.int .i64 a0_0, .int .i64 a0_1, .slice A0_2 l0_2.length c0_2, .slice A0_3 l0_3.length c0_3, .slice A0_4 l0_4.length c0_4, .int .i64 a0_5, .int .i64 a0_6, .int .i64 a0_7]] (by rfl) rfl rfl (by (try simp only [List.map_toArray, List.map_cons, List.map_nil]); first | done | rfl | (simp only [List.length_drop, List.length_take]; rfl)) ?_
   with_reducible refine (shibbolethref05_Right.calls k a0_0 a0_1 _ _ l0_2 _ _ l0_3 _ _ l0_4 a0_5 a0_6 a0_7 t290 _ ?side1 ?side2 ?side3 ?side4 ?side5 ?side6 A8.out).mono ?_
   (case side1 => repeat (first | exact (Kd.C_below HR0_2.out HB.out) | exact HR0_2.out | (with_reducible refine Kd.C_alloc ?_ _) | (with_reducible refine Kd.C_drewN ?_ _) | (with_reducible refine Kd.C_drew ?_)))
   (case side2 => exact HC0_2.out)
   (case side3 => repeat (first | exact (Kd.C_below HR0_3.out HB.out) | exact HR0_3.out | (with_reducible refine Kd.C_alloc ?_ _) | (with_reducible refine Kd.C_drewN ?_ _) | (with_reducible refine Kd.C_drew ?_)))
   (case side4 => exact HC0_3.out)
   (case side5 => repeat (first | exact (Kd.C_below HR0_4.out HB.out) | exact HR0_4.out | (with_reducible refine Kd.C_alloc ?_ _) | (with_reducible refine Kd.C_drewN ?_ _) | (with_reducible refine Kd.C_drew ?_)))
   (case side6 => exact HC0_4.out)
   rintro e w26 ⟨rfl, hb⟩
   refine ⟨_, rfl, ?_⟩
   have n0_ := Aside0.mk (Kd.R_below (by qR_; exact HO275.out) hb)
   have n1_ := Aside0.mk (Kd.R_below (by qR_; exact HO278.out) hb)
   have n2_ := Aside0.mk (Kd.R_below (by qR_; exact HO281.out) hb)
   have n3_ := Aside0.mk (Kd.R_below (by qR_; exact HO288.out) hb)
   ln131_
   have n5_ := Aside0.mk (blk_below (g := gb285) (o := (on131_)) (by qk_; exact BK285.out) hb)
   have n6_ := Aside0.mk (below_step (by qb2_ GE269 GE285) hb)
   clear HO275
   clear HO278
   clear HO281
   clear HO288
   clear BK269
   clear BK285
   clear HB
   have HO275 := n0_
   have HO278 := n1_
   have HO281 := n2_
   have HO288 := n3_
   have BK269 := n4_
   have BK285 := n5_
   have HB := n6_
   clear n0_ n1_ n2_ n3_ n4_ n5_ n6_
   (try clear hb)
   (try clear hb2)
   (try clear hk)
   (try clear hi)
   ln132_
   clear hK K
   refine norm_ (a' := ?_) ?_ ?_
   rotate_left
   ·show Act.put _ (some 18) _ = _
    qp_
    rfl
   refine pure_ (i := 4) (N := some 19) (v := ?_) (a' := ?_) #[true, true, true, true, true] rfl rfl (by kernel_rfl) (fun _ _ _ h => h) (Or.inl ⟨by rfl, ?_⟩) ?_ ?_
   rotate_left
   ·intro w'
    go_simp
    with_reducible rfl
   rotate_left
   ·qp_
    rfl
   refine done_ (by kernel_rfl) ?_
   try go_wp2
   go_ret
   ln133_
  ·rw [if_neg c9] at H
   have c9b0 : (t289 != t290) = false := by simpa using c9
   (try (have c9b1 : decide (t289 = t290) = true := by simpa using c9))
   (try (have c9b2 : (t289 == t290) = true := by simpa using c9))
   clear c9
   have HC27 := Aside0.mk H
   clear H
   go_enter Tryd.func9, Tryd.ntmps9
   try go_wp2_with (first | ((with_reducible refine gate_dst (N := 2) rfl ?_); refine box_event ?hg (N := 2) ?hd (cs := #[.int .i64 a0_0, .int .i64 a0_1, .slice A0_2 l0_2.length c0_2, .slice A0_3 l0_3.length c0_3, .slice A0_4 l0_4.length c0_4, .int .i64 a0_5, .int .i64 a0_6, .int .i64 a0_7]) (t := 44) ?hr ?_; (case hd => rfl); (case hg => rfl); (case hr => first | (go_simp; done) | (go_simp; rfl)); intro gb269 hg w28 hbox hb; have n0_ := Aside0.mk (below_step (by qc0_) hb); have n1_ := Aside0.mk (hbox); have n2_ := Aside0.mk ((by rw [hg]; exact (below_size (by qc0_)) : w.heap.size ≤ gb269)); have n3_ := Aside0.mk ((by rw [hg]; exact (below_size (by qc0_)) : w.heap.size ≤ gb269)); clear HB; have HB := n0_; have BK269 := n1_; have GW269 := n2_; have GE269 := n3_; clear n0_ n1_ n2_ n3_; clear hb hbox hg; have hcz29_0 : w28.cell? ⟨gb269, 0, none⟩ = some (.int .i64 a0_0) := (blk_cell BK269.out 0).trans rfl; have hcz29_1 : w28.cell? ⟨gb269, 1, none⟩ = some (.int .i64 a0_1) := (blk_cell BK269.out 1).trans rfl; have hcz29_2 : w28.cell? ⟨gb269, 2, none⟩ = some (.slice A0_2 l0_2.length c0_2) := (blk_cell BK269.out 2).trans rfl; have hcz29_3 : w28.cell? ⟨gb269, 3, none⟩ = some (.slice A0_3 l0_3.length c0_3) := (blk_cell BK269.out 3).trans rfl; have hcz29_4 : w28.cell? ⟨gb269, 4, none⟩ = some (.slice A0_4 l0_4.length c0_4) := (blk_cell BK269.out 4).trans rfl; have hcz29_5 : w28.cell? ⟨gb269, 5, none⟩ = some (.int .i64 a0_5) := (blk_cell BK269.out 5).trans rfl; have hcz29_6 : w28.cell? ⟨gb269, 6, none⟩ = some (.int .i64 a0_6) := (blk_cell BK269.out 6).trans rfl; have hcz29_7 : w28.cell? ⟨gb269, 7, none⟩ = some (.int .i64 a0_7) := (blk_cell BK269.out 7).trans rfl; have hfz29_0 := blk_frozen BK269.out 0; have hfz29_1 := blk_frozen BK269.out 1; have hfz29_2 := blk_frozen BK269.out 2; have hfz29_3 := blk_frozen BK269.out 3; have hfz29_4 := blk_frozen BK269.out 4; have hfz29_5 := blk_frozen BK269.out 5; have hfz29_6 := blk_frozen BK269.out 6; have hfz29_7 := blk_frozen BK269.out 7) | ((with_reducible refine gate_callee (f := 33) rfl ?_); refine goesL_ (some 8) rfl rfl Tryd.func33 (by kernel_rfl) rfl #[.agg #[.int .i64 a0_0, .int .i64 a0_1, .slice A0_2 l0_2.length c0_2, .slice A0_3 l0_3.length c0_3, .slice A0_4 l0_4.length c0_4, .int .i64 a0_5, .int .i64 a0_6, .int .i64 a0_7]] rfl (by (try simp only [List.map_toArray, List.map_cons, List.map_nil]); first | done | rfl | (simp only [List.length_drop, List.length_take]; rfl)) ?_; (with_reducible refine (shibbolethlaw05_light.calls a0_0 a0_1 _ _ l0_2 _ _ l0_3 _ _ l0_4 a0_5 a0_6 a0_7 true _ ?side1 ?side2 ?side3 ?side4 ?side5 ?side6 A3.out).mono ?_); (case side1 => repeat (first | exact (Kd.C_below HR0_2.out HB.out) | exact HR0_2.out | (with_reducible refine Kd.C_alloc ?_ _) | (with_reducible refine Kd.C_drewN ?_ _) | (with_reducible refine Kd.C_drew ?_))); (case side2 => exact HC0_2.out); (case side3 => repeat (first | exact (Kd.C_below HR0_3.out HB.out) | exact HR0_3.out | (with_reducible refine Kd.C_alloc ?_ _) | (with_reducible refine Kd.C_drewN ?_ _) | (with_reducible refine Kd.C_drew ?_))); (case side4 => exact HC0_3.out); (case side5 => repeat (first | exact (Kd.C_below HR0_4.out HB.out) | exact HR0_4.out | (with_reducible refine Kd.C_alloc ?_ _) | (with_reducible refine Kd.C_drewN ?_ _) | (with_reducible refine Kd.C_drew ?_))); (case side6 => exact HC0_4.out); rintro e w30 ⟨rfl, hb⟩; refine ⟨_, rfl, ?_⟩; have n0_ := Aside0.mk (blk_below (g := gb269) (o := (on130_)) (by qk_; exact BK269.out) hb); have n1_ := Aside0.mk (below_step (by qb1_ GE269) hb); clear BK269; clear HB; have BK269 := n0_; have HB := n1_; clear n0_ n1_; (try clear hb); (try clear hb2); (try clear hk); (try clear hi); have hcz31_0 : w30.cell? ⟨gb269, 0, none⟩ = some (.int .i64 a0_0) := (blk_cell BK269.out 0).trans rfl; have hcz31_1 : w30.cell? ⟨gb269, 1, none⟩ = some (.int .i64 a0_1) := (blk_cell BK269.out 1).trans rfl; have hcz31_2 : w30.cell? ⟨gb269, 2, none⟩ = some (.slice A0_2 l0_2.length c0_2) := (blk_cell BK269.out 2).trans rfl; have hcz31_3 : w30.cell? ⟨gb269, 3, none⟩ = some (.slice A0_3 l0_3.length c0_3) := (blk_cell BK269.out 3).trans rfl; have hcz31_4 : w30.cell? ⟨gb269, 4, none⟩ = some (.slice A0_4 l0_4.length c0_4) := (blk_cell BK269.out 4).trans rfl; have hcz31_5 : w30.cell? ⟨gb269, 5, none⟩ = some (.int .i64 a0_5) := (blk_cell BK269.out 5).trans rfl; have hcz31_6 : w30.cell? ⟨gb269, 6, none⟩ = some (.int .i64 a0_6) := (blk_cell BK269.out 6).trans rfl; have hcz31_7 : w30.cell? ⟨gb269, 7, none⟩ = some (.int .i64 a0_7) := (blk_cell BK269.out 7).trans rfl; have hfz31_0 := blk_frozen BK269.out 0; have hfz31_1 := blk_frozen BK269.out 1; have hfz31_2 := blk_frozen BK269.out 2; have hfz31_3 := blk_frozen BK269.out 3; have hfz31_4 := blk_frozen BK269.out 4; have hfz31_5 := blk_frozen BK269.out 5; have hfz31_6 := blk_frozen BK269.out 6; have hfz31_7 := blk_frozen BK269.out 7) | ((with_reducible refine gate_callee (f := 34) rfl ?_); refine goesL_ (some 11) rfl rfl Tryd.func34 (by kernel_rfl) rfl #[.agg #[.int .i64 a0_0, .int .i64 a0_1, .slice A0_2 l0_2.length c0_2, .slice A0_3 l0_3.length c0_3, .slice A0_4 l0_4.length c0_4, .int .i64 a0_5, .int .i64 a0_6, .int .i64 a0_7]] rfl (by (try simp only [List.map_toArray, List.map_cons, List.map_nil]); first | done | rfl | (simp only [List.length_drop, List.length_take]; rfl)) ?_; (with_reducible refine (shibbolethlaw05_of.calls a0_0 a0_1 _ _ l0_2 _ _ l0_3 _ _ l0_4 a0_5 a0_6 a0_7 t271 t272 t273 t276 t279 t282 t283 t284 _ ?side1 ?side2 ?side3 ?side4 ?side5 ?side6 A5.out).mono ?_); (case side1 => repeat (first | exact (Kd.C_below HR0_2.out HB.out) | exact HR0_2.out | (with_reducible refine Kd.C_alloc ?_ _) | (with_reducible refine Kd.C_drewN ?_ _) | (with_reducible refine Kd.C_drew ?_))); (case side2 => exact HC0_2.out); (case side3 => repeat (first | exact (Kd.C_below HR0_3.out HB.out) | exact HR0_3.out | (with_reducible refine Kd.C_alloc ?_ _) | (with_reducible refine Kd.C_drewN ?_ _) | (with_reducible refine Kd.C_drew ?_))); (case side4 => exact HC0_3.out); (case side5 => repeat (first | exact (Kd.C_below HR0_4.out HB.out) | exact HR0_4.out | (with_reducible refine Kd.C_alloc ?_ _) | (with_reducible refine Kd.C_drewN ?_ _) | (with_reducible refine Kd.C_drew ?_))); (case side6 => exact HC0_4.out); rintro e w32 ⟨v274, v277, v280, rfl, ho0, ho1, ho2, hb⟩; refine ⟨_, rfl, ?_⟩; have n0_ := Aside0.mk (Kd.R_lower ho0 (below_size (by qb1_ GE269))); have n1_ := Aside0.mk (Kd.R_lower ho1 (below_size (by qb1_ GE269))); have n2_ := Aside0.mk (Kd.R_lower ho2 (below_size (by qb1_ GE269))); have n3_ := Aside0.mk (blk_below (g := gb269) (o := (on130_)) (by qk_; exact BK269.out) hb); have n4_ := Aside0.mk (below_step (by qb1_ GE269) hb); clear BK269; clear HB; have HO275 := n0_; have HO278 := n1_; have HO281 := n2_; have BK269 := n3_; have HB := n4_; clear n0_ n1_ n2_ n3_ n4_; (try clear hb); (try clear hb2); (try clear hk); (try clear hi); (try clear ho0); (try clear ho1); (try clear ho2)) | ((with_reducible refine gate_dst (N := 5) rfl ?_); refine box_event ?hg (N := 5) ?hd (cs := #[.int .i64 0, .int .i64 0, .slice none 0 0, .slice none 0 0, .slice none 0 0, .int .i64 0, .int .i64 0, .int .i64 0]) (t := 46) ?hr ?_; (case hd => rfl); (case hg => rfl); (case hr => first | (go_simp; done) | (go_simp; rfl)); intro gb285 hg w33 hbox hb; have n0_ := Aside0.mk (Kd.R_below (by qR_; exact HO275.out) hb); have n1_ := Aside0.mk (Kd.R_below (by qR_; exact HO278.out) hb); have n2_ := Aside0.mk (Kd.R_below (by qR_; exact HO281.out) hb); have n3_ := Aside0.mk (blk_below (g := gb269) (o := (on130_)) (by qk_; exact BK269.out) hb); have n4_ := Aside0.mk (below_step (by qb1_ GE269) hb); have n5_ := Aside0.mk (hbox); have n6_ := Aside0.mk ((by rw [hg]; exact (below_size (by qb1_ GE269)) : w.heap.size ≤ gb285)); have n7_ := Aside0.mk ((by rw [hg]; exact (below_size (by qb1_ GE269)) : w.heap.size ≤ gb285)); have n8_ := Aside0.mk ((by rw [hg]; exact Nat.ne_of_lt (blk_lt (g := gb269) (o := (on130_)) (by qk_; exact BK269.out)) : gb269 ≠ gb285)); have n9_ := Aside0.mk ((by rw [hg]; exact Nat.ne_of_gt (blk_lt (g := gb269) (o := (on130_)) (by qk_; exact BK269.out)) : gb285 ≠ gb269)); clear HO275; clear HO278; clear HO281; clear BK269; clear HB; have HO275 := n0_; have HO278 := n1_; have HO281 := n2_; have BK269 := n3_; have HB := n4_; have BK285 := n5_; have GW285 := n6_; have GE285 := n7_; have NB269_285 := n8_; have NB285_269 := n9_; clear n0_ n1_ n2_ n3_ n4_ n5_ n6_ n7_ n8_ n9_; clear hb hbox hg; have hnb34 := NB285_269.out; have hnc34 := NB269_285.out; have hcz35_0 : w33.cell? ⟨gb285, 0, none⟩ = some (.int .i64 0) := (blk_cell BK285.out 0).trans rfl; have hcz35_1 : w33.cell? ⟨gb285, 1, none⟩ = some (.int .i64 0) := (blk_cell BK285.out 1).trans rfl; have hcz35_2 : w33.cell? ⟨gb285, 2, none⟩ = some (.slice none 0 0) := (blk_cell BK285.out 2).trans rfl; have hcz35_3 : w33.cell? ⟨gb285, 3, none⟩ = some (.slice none 0 0) := (blk_cell BK285.out 3).trans rfl; have hcz35_4 : w33.cell? ⟨gb285, 4, none⟩ = some (.slice none 0 0) := (blk_cell BK285.out 4).trans rfl; have hcz35_5 : w33.cell? ⟨gb285, 5, none⟩ = some (.int .i64 0) := (blk_cell BK285.out 5).trans rfl; have hcz35_6 : w33.cell? ⟨gb285, 6, none⟩ = some (.int .i64 0) := (blk_cell BK285.out 6).trans rfl; have hcz35_7 : w33.cell? ⟨gb285, 7, none⟩ = some (.int .i64 0) := (blk_cell BK285.out 7).trans rfl; have hfz35_0 := blk_frozen BK285.out 0; have hfz35_1 := blk_frozen BK285.out 1; have hfz35_2 := blk_frozen BK285.out 2; have hfz35_3 := blk_frozen BK285.out 3; have hfz35_4 := blk_frozen BK285.out 4; have hfz35_5 := blk_frozen BK285.out 5; have hfz35_6 := blk_frozen BK285.out 6; have hfz35_7 := blk_frozen BK285.out 7; obtain ⟨Ao36, co36, eo36⟩ := Kd.R_slice HO275.out; subst eo36; obtain ⟨Ao37, co37, eo37⟩ := Kd.R_slice HO278.out; subst eo37; obtain ⟨Ao38, co38, eo38⟩ := Kd.R_slice HO281.out; subst eo38) | ((with_reducible refine gate_store (t := 46) (p := 5) rfl ?_); refine store_event (t := 46) (p := 5) (v := ?vo_w39) (w1 := ((((((((w33.setCell ⟨gb285, 0, none⟩ (.int .i64 t271)).setCell ⟨gb285, 1, none⟩ (.int .i64 t272)).setCell ⟨gb285, 2, none⟩ (.slice Ao36 t273.length co36)).setCell ⟨gb285, 3, none⟩ (.slice Ao37 t276.length co37)).setCell ⟨gb285, 4, none⟩ (.slice Ao38 t279.length co38)).setCell ⟨gb285, 5, none⟩ (.int .i64 t282)).setCell ⟨gb285, 6, none⟩ (.int .i64 t283)).setCell ⟨gb285, 7, none⟩ (.int .i64 t284))) ?hg ?ho ?hn ?hr ?_; (case ho => rfl); (case hg => rfl); (case hn => rfl); (case hr => first | (go_simp; done) | (go_simp; rfl)); intro w39 hw; have n0_ : Aside0 (Kd.R (Kd.int .u8) 5 w39 w.heap.size (fun k_ => some k_ ≠ (.slice Ao37 t276.length co37 : Value).ownBlock ∧ some k_ ≠ (.slice Ao38 t279.length co38 : Value).ownBlock) (.slice Ao36 t273.length co36) t273) := ⟨(by rw [hw]; exact (by qR_; exact Kd.R_mono (Kd.R_far (p := ⟨gb285, 7, none⟩) (Kd.R_far (p := ⟨gb285, 6, none⟩) (Kd.R_far (p := ⟨gb285, 5, none⟩) (Kd.R_far (p := ⟨gb285, 4, none⟩) (Kd.R_far (p := ⟨gb285, 3, none⟩) (Kd.R_far (p := ⟨gb285, 2, none⟩) (Kd.R_far (p := ⟨gb285, 1, none⟩) (Kd.R_far (p := ⟨gb285, 0, none⟩) (Kd.R_types HO275.out BK285.out (by decide)) (fun _ hk => hk.2) (.int .i64 t271)) (fun _ hk => hk.2) (.int .i64 t272)) (fun _ hk => hk.2) (.slice Ao36 t273.length co36)) (fun _ hk => hk.2) (.slice Ao37 t276.length co37)) (fun _ hk => hk.2) (.slice Ao38 t279.length co38)) (fun _ hk => hk.2) (.int .i64 t282)) (fun _ hk => hk.2) (.int .i64 t283)) (fun _ hk => hk.2) (.int .i64 t284)) (fun _ hk => ⟨hk.1.1, hk.1.2⟩)))⟩; have n1_ : Aside0 (Kd.R (Kd.int .u8) 5 w39 w.heap.size (fun k_ => some k_ ≠ (.slice Ao36 t273.length co36 : Value).ownBlock ∧ some k_ ≠ (.slice Ao38 t279.length co38 : Value).ownBlock) (.slice Ao37 t276.length co37) t276) := ⟨(by rw [hw]; exact (by qR_; exact Kd.R_mono (Kd.R_far (p := ⟨gb285, 7, none⟩) (Kd.R_far (p := ⟨gb285, 6, none⟩) (Kd.R_far (p := ⟨gb285, 5, none⟩) (Kd.R_far (p := ⟨gb285, 4, none⟩) (Kd.R_far (p := ⟨gb285, 3, none⟩) (Kd.R_far (p := ⟨gb285, 2, none⟩) (Kd.R_far (p := ⟨gb285, 1, none⟩) (Kd.R_far (p := ⟨gb285, 0, none⟩) (Kd.R_types HO278.out BK285.out (by decide)) (fun _ hk => hk.2) (.int .i64 t271)) (fun _ hk => hk.2) (.int .i64 t272)) (fun _ hk => hk.2) (.slice Ao36 t273.length co36)) (fun _ hk => hk.2) (.slice Ao37 t276.length co37)) (fun _ hk => hk.2) (.slice Ao38 t279.length co38)) (fun _ hk => hk.2) (.int .i64 t282)) (fun _ hk => hk.2) (.int .i64 t283)) (fun _ hk => hk.2) (.int .i64 t284)) (fun _ hk => ⟨hk.1.1, hk.1.2⟩)))⟩; have n2_ : Aside0 (Kd.R (Kd.int .u8) 5 w39 w.heap.size (fun k_ => some k_ ≠ (.slice Ao36 t273.length co36 : Value).ownBlock ∧ some k_ ≠ (.slice Ao37 t276.length co37 : Value).ownBlock) (.slice Ao38 t279.length co38) t279) := ⟨(by rw [hw]; exact (by qR_; exact Kd.R_mono (Kd.R_far (p := ⟨gb285, 7, none⟩) (Kd.R_far (p := ⟨gb285, 6, none⟩) (Kd.R_far (p := ⟨gb285, 5, none⟩) (Kd.R_far (p := ⟨gb285, 4, none⟩) (Kd.R_far (p := ⟨gb285, 3, none⟩) (Kd.R_far (p := ⟨gb285, 2, none⟩) (Kd.R_far (p := ⟨gb285, 1, none⟩) (Kd.R_far (p := ⟨gb285, 0, none⟩) (Kd.R_types HO281.out BK285.out (by decide)) (fun _ hk => hk.2) (.int .i64 t271)) (fun _ hk => hk.2) (.int .i64 t272)) (fun _ hk => hk.2) (.slice Ao36 t273.length co36)) (fun _ hk => hk.2) (.slice Ao37 t276.length co37)) (fun _ hk => hk.2) (.slice Ao38 t279.length co38)) (fun _ hk => hk.2) (.int .i64 t282)) (fun _ hk => hk.2) (.int .i64 t283)) (fun _ hk => hk.2) (.int .i64 t284)) (fun _ hk => ⟨hk.1.1, hk.1.2⟩)))⟩; have n3_ : Aside0 (w39.heap[gb269]? = some ((on130_))) := ⟨(by rw [hw]; exact (by qk_; refine blk_far ?_ NB269_285.out _; qk_; refine blk_far ?_ NB269_285.out _; qk_; refine blk_far ?_ NB269_285.out _; qk_; refine blk_far ?_ NB269_285.out _; qk_; refine blk_far ?_ NB269_285.out _; qk_; refine blk_far ?_ NB269_285.out _; qk_; refine blk_far ?_ NB269_285.out _; qk_; refine blk_far ?_ NB269_285.out _; qk_; exact BK269.out))⟩; have n4_ : Aside0 (w39.heap[gb285]? = some ((on132_))) := ⟨(by rw [hw]; exact (by qk_; refine blk_put (cs := #[.int .i64 t271, .int .i64 t272, .slice Ao36 t273.length co36, .slice Ao37 t276.length co37, .slice Ao38 t279.length co38, .int .i64 t282, .int .i64 t283, .int .i64 0]) ?_ 7 _ rfl; qk_; refine blk_put (cs := #[.int .i64 t271, .int .i64 t272, .slice Ao36 t273.length co36, .slice Ao37 t276.length co37, .slice Ao38 t279.length co38, .int .i64 t282, .int .i64 0, .int .i64 0]) ?_ 6 _ rfl; qk_; refine blk_put (cs := #[.int .i64 t271, .int .i64 t272, .slice Ao36 t273.length co36, .slice Ao37 t276.length co37, .slice Ao38 t279.length co38, .int .i64 0, .int .i64 0, .int .i64 0]) ?_ 5 _ rfl; qk_; refine blk_put (cs := #[.int .i64 t271, .int .i64 t272, .slice Ao36 t273.length co36, .slice Ao37 t276.length co37, .slice none 0 0, .int .i64 0, .int .i64 0, .int .i64 0]) ?_ 4 _ rfl; qk_; refine blk_put (cs := #[.int .i64 t271, .int .i64 t272, .slice Ao36 t273.length co36, .slice none 0 0, .slice none 0 0, .int .i64 0, .int .i64 0, .int .i64 0]) ?_ 3 _ rfl; qk_; refine blk_put (cs := #[.int .i64 t271, .int .i64 t272, .slice none 0 0, .slice none 0 0, .slice none 0 0, .int .i64 0, .int .i64 0, .int .i64 0]) ?_ 2 _ rfl; qk_; refine blk_put (cs := #[.int .i64 t271, .int .i64 0, .slice none 0 0, .slice none 0 0, .slice none 0 0, .int .i64 0, .int .i64 0, .int .i64 0]) ?_ 1 _ rfl; qk_; refine blk_put (cs := #[.int .i64 0, .int .i64 0, .slice none 0 0, .slice none 0 0, .slice none 0 0, .int .i64 0, .int .i64 0, .int .i64 0]) ?_ 0 _ rfl; qk_; exact BK285.out))⟩; have n5_ : Aside0 (Below w.heap.size w w39) := ⟨(by rw [hw]; exact (by qb2_ GE269 GE285))⟩; clear hw; clear HO275; clear HO278; clear HO281; clear BK269; clear BK285; clear HB; have HO275 := n0_; have HO278 := n1_; have HO281 := n2_; have BK269 := n3_; have BK285 := n4_; have HB := n5_; clear n0_ n1_ n2_ n3_ n4_ n5_; have hcz40_0 : w39.cell? ⟨gb285, 0, none⟩ = some (.int .i64 t271) := (blk_cell BK285.out 0).trans rfl; have hcz40_1 : w39.cell? ⟨gb285, 1, none⟩ = some (.int .i64 t272) := (blk_cell BK285.out 1).trans rfl; have hcz40_2 : w39.cell? ⟨gb285, 2, none⟩ = some (.slice Ao36 t273.length co36) := (blk_cell BK285.out 2).trans rfl; have hcz40_3 : w39.cell? ⟨gb285, 3, none⟩ = some (.slice Ao37 t276.length co37) := (blk_cell BK285.out 3).trans rfl; have hcz40_4 : w39.cell? ⟨gb285, 4, none⟩ = some (.slice Ao38 t279.length co38) := (blk_cell BK285.out 4).trans rfl; have hcz40_5 : w39.cell? ⟨gb285, 5, none⟩ = some (.int .i64 t282) := (blk_cell BK285.out 5).trans rfl; have hcz40_6 : w39.cell? ⟨gb285, 6, none⟩ = some (.int .i64 t283) := (blk_cell BK285.out 6).trans rfl; have hcz40_7 : w39.cell? ⟨gb285, 7, none⟩ = some (.int .i64 t284) := (blk_cell BK285.out 7).trans rfl; have hfz40_0 := blk_frozen BK285.out 0; have hfz40_1 := blk_frozen BK285.out 1; have hfz40_2 := blk_frozen BK285.out 2; have hfz40_3 := blk_frozen BK285.out 3; have hfz40_4 := blk_frozen BK285.out 4; have hfz40_5 := blk_frozen BK285.out 5; have hfz40_6 := blk_frozen BK285.out 6; have hfz40_7 := blk_frozen BK285.out 7) | ((with_reducible refine gate_callee (f := 35) rfl ?_); refine goesL_ (some 14) rfl rfl Tryd.func35 (by kernel_rfl) rfl #[.agg #[.int .i64 t271, .int .i64 t272, .slice Ao36 t273.length co36, .slice Ao37 t276.length co37, .slice Ao38 t279.length co38, .int .i64 t282, .int .i64 t283, .int .i64 t284], .int .i64 a1] rfl (by (try simp only [List.map_toArray, List.map_cons, List.map_nil]); first | done | rfl | (simp only [List.length_drop, List.length_take]; rfl)) ?_; (with_reducible refine (header_Write.calls k t271 t272 (fun k_ => some k_ = (.slice Ao36 t273.length co36 : Value).ownBlock) _ _ t273 _ _ t276 _ _ t279 t282 t283 t284 a1 t286 _ ?side1 ?side2 ?side3 ?side4 ?side5 ?sideT A6.out).mono ?_); (case sideT => repeat (first | exact HT.out | exact TB.below HT.out HB.out | exact TB.below HT.out HBW.out | (with_reducible refine TB.alloc ?_ _) | (with_reducible refine TB.drewN ?_ _) | (with_reducible refine TB.drew ?_))); (case side1 => exact Kd.R_V (Kd.R_tight rfl (Kd.R_types (Kd.R_types (HO275.out) BK269.out (by decide)) BK285.out (by decide)))); (case side2 => repeat (first | exact (Kd.R_reads' HO278.out).2.2 | (with_reducible refine Kd.C_alloc ?_ _) | (with_reducible refine Kd.C_drewN ?_ _) | (with_reducible refine Kd.C_drew ?_))); (case side3 => exact (Kd.R_reads' HO278.out).2.1); (case side4 => repeat (first | exact (Kd.R_reads' HO281.out).2.2 | (with_reducible refine Kd.C_alloc ?_ _) | (with_reducible refine Kd.C_drewN ?_ _) | (with_reducible refine Kd.C_drew ?_))); (case side5 => exact (Kd.R_reads' HO281.out).2.1); rintro e w41 ⟨v287, rfl, ho0, hb⟩; refine ⟨_, rfl, ?_⟩; have n0_ := Aside0.mk (Kd.R_elder' (by qR_; exact HO275.out) (Kd.R_base ho0) hb); have n1_ := Aside0.mk (Kd.R_elder' (by qR_; exact HO278.out) (Kd.R_base ho0) hb); have n2_ := Aside0.mk (Kd.R_elder' (by qR_; exact HO281.out) (Kd.R_base ho0) hb); have n3_ := Aside0.mk (Kd.R_lower (Kd.R_new' (Kd.R_new' (Kd.R_new' (Kd.R_mono (ok' := fun k_ => True) ho0 (fun _ hk_ => trivial)) (Kd.R_lt (by qR_; exact HO275.out))) (Kd.R_lt (by qR_; exact HO278.out))) (Kd.R_lt (by qR_; exact HO281.out))) (below_size (by qb2_ GE269 GE285))); have n4_ := Aside0.mk (blk_below (g := gb269) (o := (on130_)) (by qk_; exact BK269.out) hb); have n5_ := Aside0.mk (blk_below (g := gb285) (o := (on132_)) (by qk_; exact BK285.out) hb); have n6_ := Aside0.mk (below_step (by qb2_ GE269 GE285) hb); clear HO275; clear HO278; clear HO281; clear BK269; clear BK285; clear HB; have HO275 := n0_; have HO278 := n1_; have HO281 := n2_; have HO288 := n3_; have BK269 := n4_; have BK285 := n5_; have HB := n6_; clear n0_ n1_ n2_ n3_ n4_ n5_ n6_; (try clear hb); (try clear hb2); (try clear hk); (try clear hi); (try clear ho0)))
   have n0_ := Aside0.mk (Kd.R_drew HO275.out)
   have n1_ := Aside0.mk (Kd.R_drew HO278.out)
   have n2_ := Aside0.mk (Kd.R_drew HO281.out)
   have n3_ := Aside0.mk (Kd.R_drew HO288.out)
   have n4_ := Aside0.mk (blk_drew BK269.out)
   have n5_ := Aside0.mk (blk_drew BK285.out)
   have n6_ := Aside0.mk (below_drew1 HB.out)
   clear HO275
   clear HO278
   clear HO281
   clear HO288
   clear BK269
   clear BK285
   clear HB
   have HO275 := n0_
   have HO278 := n1_
   have HO281 := n2_
   have HO288 := n3_
   have BK269 := n4_
   have BK285 := n5_
   have HB := n6_
   clear n0_ n1_ n2_ n3_ n4_ n5_ n6_
   refine start_ (n := 5) (S := fun w' => w'.cell? ⟨gb285, 0, none⟩ = some (.int .i64 t271) ∧ w'.cell? ⟨gb285, 1, none⟩ = some (.int .i64 t272) ∧ w'.cell? ⟨gb285, 2, none⟩ = some (.slice Ao36 t273.length co36) ∧ w'.cell? ⟨gb285, 3, none⟩ = some (.slice Ao37 t276.length co37) ∧ w'.cell? ⟨gb285, 4, none⟩ = some (.slice Ao38 t279.length co38) ∧ w'.cell? ⟨gb285, 5, none⟩ = some (.int .i64 t282) ∧ w'.cell? ⟨gb285, 6, none⟩ = some (.int .i64 t283) ∧ w'.cell? ⟨gb285, 7, none⟩ = some (.int .i64 t284) ∧ w'.cell? ⟨gb269, 0, none⟩ = some (.int .i64 a0_0) ∧ w'.cell? ⟨gb269, 1, none⟩ = some (.int .i64 a0_1) ∧ w'.cell? ⟨gb269, 2, none⟩ = some (.slice A0_2 l0_2.length c0_2) ∧ w'.cell? ⟨gb269, 3, none⟩ = some (.slice A0_3 l0_3.length c0_3) ∧ w'.cell? ⟨gb269, 4, none⟩ = some (.slice A0_4 l0_4.length c0_4) ∧ w'.cell? ⟨gb269, 5, none⟩ = some (.int .i64 a0_5) ∧ w'.cell? ⟨gb269, 6, none⟩ = some (.int .i64 a0_6) ∧ w'.cell? ⟨gb269, 7, none⟩ = some (.int .i64 a0_7)) (ds := []) #[false, false, false, false, false] (by kernel_rfl) rfl rfl ⟨(blk_cell BK285.out 0).trans rfl, (blk_cell BK285.out 1).trans rfl, (blk_cell BK285.out 2).trans rfl, (blk_cell BK285.out 3).trans rfl, (blk_cell BK285.out 4).trans rfl, (blk_cell BK285.out 5).trans rfl, (blk_cell BK285.out 6).trans rfl, (blk_cell BK285.out 7).trans rfl, (blk_cell BK269.out 0).trans rfl, (blk_cell BK269.out 1).trans rfl, (blk_cell BK269.out 2).trans rfl, (blk_cell BK269.out 3).trans rfl, (blk_cell BK269.out 4).trans rfl, (blk_cell BK269.out 5).trans rfl, (blk_cell BK269.out 6).trans rfl, (blk_cell BK269.out 7).trans rfl⟩ (fun hHeld => ?_)
   generalize w41.drew = w42 at HO275 HO278 HO281 HO288 BK269 BK285 HB hHeld ⊢
   refine take_ (i := 0) (N := some 15) (v := ?_) (a' := ?_) #[true, false, false, false, false] rfl rfl (by kernel_rfl) (fun _ _ _ h => h) (Or.inl ⟨by rfl, ?_⟩) hHeld ?_ ?_
   rotate_left
   ·ln130_
    go_simp
    with_reducible rfl
   rotate_left
   ·qp_
    rfl
   refine take_ (i := 2) (N := some 17) (v := ?_) (a' := ?_) #[true, false, true, false, false] rfl rfl (by kernel_rfl) (fun _ _ _ h => h) (Or.inl ⟨by rfl, ?_⟩) hHeld ?_ ?_
   rotate_left
   ·ln130_
    go_simp
    with_reducible rfl
   rotate_left
   ·qp_
    rfl
   refine one_ (i := 1) (N := some 16) #[true, true, true, false, false] rfl rfl (by kernel_rfl) (by decide) (fun K hK => ?_)
   refine goes_ Tryd.func36 (by kernel_rfl) rfl #[.agg #[.int .i64 t271, .int .i64 t272, .slice Ao36 t273.length co36, .slice Ao37 t276.length co37, .slice Ao38 t279.length co38, .int .i64 t282, .int .i64 t283, .int .i64 t284]] (by rfl) rfl rfl (by (try simp only [List.map_toArray, List.map_cons, List.map_nil]); first | done | rfl | (simp only [List.length_drop, List.length_take]; rfl)) ?_
   with_reducible refine (header_Right.calls k t271 t272 _ _ t273 _ _ t276 _ _ t279 t282 t283 t284 t289 _ ?side1 ?side2 ?side3 ?side4 ?side5 ?side6 A7.out).mono ?_
   (case side1 => repeat (first | exact (Kd.R_reads' HO275.out).2.2 | (with_reducible refine Kd.C_alloc ?_ _) | (with_reducible refine Kd.C_drewN ?_ _) | (with_reducible refine Kd.C_drew ?_)))
   (case side2 => exact (Kd.R_reads' HO275.out).2.1)
   (case side3 => repeat (first | exact (Kd.R_reads' HO278.out).2.2 | (with_reducible refine Kd.C_alloc ?_ _) | (with_reducible refine Kd.C_drewN ?_ _) | (with_reducible refine Kd.C_drew ?_)))
   (case side4 => exact (Kd.R_reads' HO278.out).2.1)
   (case side5 => repeat (first | exact (Kd.R_reads' HO281.out).2.2 | (with_reducible refine Kd.C_alloc ?_ _) | (with_reducible refine Kd.C_drewN ?_ _) | (with_reducible refine Kd.C_drew ?_)))
   (case side6 => exact (Kd.R_reads' HO281.out).2.1)
   rintro e w43 ⟨rfl, hb⟩
   refine ⟨_, rfl, ?_⟩
   have n0_ := Aside0.mk (Kd.R_below (by qR_; exact HO275.out) hb)
   have n1_ := Aside0.mk (Kd.R_below (by qR_; exact HO278.out) hb)
   have n2_ := Aside0.mk (Kd.R_below (by qR_; exact HO281.out) hb)
   have n3_ := Aside0.mk (Kd.R_below (by qR_; exact HO288.out) hb)
   ln131_
   have n5_ := Aside0.mk (blk_below (g := gb285) (o := (on132_)) (by qk_; exact BK285.out) hb)
   have n6_ := Aside0.mk (below_step (by qb2_ GE269 GE285) hb)
   clear HO275
   clear HO278
   clear HO281
   clear HO288
   clear BK269
   clear BK285
   clear HB
   have HO275 := n0_
   have HO278 := n1_
   have HO281 := n2_
   have HO288 := n3_
   have BK269 := n4_
   have BK285 := n5_
   have HB := n6_
   clear n0_ n1_ n2_ n3_ n4_ n5_ n6_
   (try clear hb)
   (try clear hb2)
   (try clear hk)
   (try clear hi)
   ln132_
   clear hK K
   refine norm_ (a' := ?_) ?_ ?_
   rotate_left
   ·show Act.put _ (some 16) _ = _
    qp_
    rfl
   refine one_ (i := 3) (N := some 18) #[true, true, true, true, false] rfl rfl (by kernel_rfl) (by decide) (fun K hK => ?_)
   refine goes_ Tryd.func37 (by kernel_rfl) rfl #[.agg #[.int .i64 a0_0, .int .i64 a0_1, .slice A0_2 l0_2.length c0_2, .slice A0_3 l0_3.length c0_3, .slice A0_4 l0_4.length c0_4, .int .i64 a0_5, .int .i64 a0_6, .int .i64 a0_7]] (by rfl) rfl rfl (by (try simp only [List.map_toArray, List.map_cons, List.map_nil]); first | done | rfl | (simp only [List.length_drop, List.length_take]; rfl)) ?_
   with_reducible refine (shibbolethref05_Right.calls k a0_0 a0_1 _ _ l0_2 _ _ l0_3 _ _ l0_4 a0_5 a0_6 a0_7 t290 _ ?side1 ?side2 ?side3 ?side4 ?side5 ?side6 A8.out).mono ?_
   (case side1 => repeat (first | exact (Kd.C_below HR0_2.out HB.out) | exact HR0_2.out | (with_reducible refine Kd.C_alloc ?_ _) | (with_reducible refine Kd.C_drewN ?_ _) | (with_reducible refine Kd.C_drew ?_)))
   (case side2 => exact HC0_2.out)
   (case side3 => repeat (first | exact (Kd.C_below HR0_3.out HB.out) | exact HR0_3.out | (with_reducible refine Kd.C_alloc ?_ _) | (with_reducible refine Kd.C_drewN ?_ _) | (with_reducible refine Kd.C_drew ?_)))
   (case side4 => exact HC0_3.out)
   (case side5 => repeat (first | exact (Kd.C_below HR0_4.out HB.out) | exact HR0_4.out | (with_reducible refine Kd.C_alloc ?_ _) | (with_reducible refine Kd.C_drewN ?_ _) | (with_reducible refine Kd.C_drew ?_)))
   (case side6 => exact HC0_4.out)
   rintro e w44 ⟨rfl, hb⟩
   refine ⟨_, rfl, ?_⟩
   have n0_ := Aside0.mk (Kd.R_below (by qR_; exact HO275.out) hb)
   have n1_ := Aside0.mk (Kd.R_below (by qR_; exact HO278.out) hb)
   have n2_ := Aside0.mk (Kd.R_below (by qR_; exact HO281.out) hb)
   have n3_ := Aside0.mk (Kd.R_below (by qR_; exact HO288.out) hb)
   ln131_
   have n5_ := Aside0.mk (blk_below (g := gb285) (o := (on132_)) (by qk_; exact BK285.out) hb)
   have n6_ := Aside0.mk (below_step (by qb2_ GE269 GE285) hb)
   clear HO275
   clear HO278
   clear HO281
   clear HO288
   clear BK269
   clear BK285
   clear HB
   have HO275 := n0_
   have HO278 := n1_
   have HO281 := n2_
   have HO288 := n3_
   have BK269 := n4_
   have BK285 := n5_
   have HB := n6_
   clear n0_ n1_ n2_ n3_ n4_ n5_ n6_
   (try clear hb)
   (try clear hb2)
   (try clear hk)
   (try clear hi)
   ln132_
   clear hK K
   refine norm_ (a' := ?_) ?_ ?_
   rotate_left
   ·show Act.put _ (some 18) _ = _
    qp_
    rfl
   refine pure_ (i := 4) (N := some 19) (v := ?_) (a' := ?_) #[true, true, true, true, true] rfl rfl (by kernel_rfl) (fun _ _ _ h => h) (Or.inl ⟨by rfl, ?_⟩) ?_ ?_
   rotate_left
   ·intro w'
    go_simp
    with_reducible rfl
   rotate_left
   ·qp_
    rfl
   refine done_ (by kernel_rfl) ?_
   go_upto_region 7 with (fail)
   go_cut [30] (fun v30 wc => ∃ (kq : Nat) (x30_26 : Bool), v30 = .bool x30_26 ∧ Aside0 (shibbolethlaw05_HeaderWrites.j0 kq a1 t286 x30_26 a0_0 a0_1 l0_2 l0_3 l0_4 a0_5 a0_6 a0_7 = some r) ∧ Aside0 (kq ≤ k) ∧ Aside0 (Kd.R (Kd.int .u8) 5 wc w.heap.size (fun k_ => some k_ ≠ ((.slice Ao36 t273.length co36) : Value).ownBlock ∧ some k_ ≠ ((.slice Ao37 t276.length co37) : Value).ownBlock ∧ some k_ ≠ ((.slice Ao38 t279.length co38) : Value).ownBlock) v287 t286) ∧ Aside0 (Kd.R (Kd.int .u8) 5 wc w.heap.size (fun k_ => some k_ ≠ (v287 : Value).ownBlock ∧ some k_ ≠ ((.slice Ao37 t276.length co37) : Value).ownBlock ∧ some k_ ≠ ((.slice Ao38 t279.length co38) : Value).ownBlock) (.slice Ao36 t273.length co36) t273) ∧ Aside0 (Kd.R (Kd.int .u8) 5 wc w.heap.size (fun k_ => some k_ ≠ (v287 : Value).ownBlock ∧ some k_ ≠ ((.slice Ao36 t273.length co36) : Value).ownBlock ∧ some k_ ≠ ((.slice Ao38 t279.length co38) : Value).ownBlock) (.slice Ao37 t276.length co37) t276) ∧ Aside0 (Kd.R (Kd.int .u8) 5 wc w.heap.size (fun k_ => some k_ ≠ (v287 : Value).ownBlock ∧ some k_ ≠ ((.slice Ao36 t273.length co36) : Value).ownBlock ∧ some k_ ≠ ((.slice Ao37 t276.length co37) : Value).ownBlock) (.slice Ao38 t279.length co38) t279) ∧ Aside0 (wc.heap[gb269]? = some (.cells #[.int .i64 a0_0, .int .i64 a0_1, (.slice A0_2 l0_2.length c0_2), (.slice A0_3 l0_3.length c0_3), (.slice A0_4 l0_4.length c0_4), .int .i64 a0_5, .int .i64 a0_6, .int .i64 a0_7] 44 (0, 0))) ∧ Aside0 (wc.heap[gb285]? = some (.cells #[.int .i64 t271, .int .i64 t272, (.slice Ao36 t273.length co36), (.slice Ao37 t276.length co37), (.slice Ao38 t279.length co38), .int .i64 t282, .int .i64 t283, .int .i64 t284] 46 (0, 0))) ∧ Aside0 (Below w.heap.size w wc))
   case first =>
    have H := HC27.out
    clear HC27
    replace H := Option.bind_eq_some_iff.mp H
    obtain ⟨t291, A450, H⟩ := H
    replace H : (if t291 = true then (if a1 < 0 then (shibbolethlaw05_HeaderWrites.j0 k a1 t286 true a0_0 a0_1 l0_2 l0_3 l0_4 a0_5 a0_6 a0_7) else (shibbolethlaw05_HeaderWrites.j0 k a1 t286 (decide (a1 > 16384)) a0_0 a0_1 l0_2 l0_3 l0_4 a0_5 a0_6 a0_7)) else (shibbolethlaw05_HeaderWrites.j0 k a1 t286 true a0_0 a0_1 l0_2 l0_3 l0_4 a0_5 a0_6 a0_7)) = some r := H
    have A45 := Aside0.mk A450
    clear A450
    by_cases c46 : t291 = true
    ·subst c46
     have H1 : (if a1 < 0 then (shibbolethlaw05_HeaderWrites.j0 k a1 t286 true a0_0 a0_1 l0_2 l0_3 l0_4 a0_5 a0_6 a0_7) else (shibbolethlaw05_HeaderWrites.j0 k a1 t286 (decide (a1 > 16384)) a0_0 a0_1 l0_2 l0_3 l0_4 a0_5 a0_6 a0_7)) = some r := by rw [if_pos rfl] at H; exact H
     clear H
     have H := H1
     clear H1
     by_cases c47 : a1 < 0
     ·rw [if_pos c47] at H
      have c47b0 : decide (a1 < 0) = true := decide_eq_true c47
      clear c47
      (first | rw [c47b0] | (simp only [i64_w, i32_w]; rw [c47b0]) | skip)
      have H' := Aside0.mk H
      clear H
      have hnb48 := NB269_285.out
      have hnc48 := NB285_269.out
      have hcz49_0 : w44.cell? ⟨gb269, 0, none⟩ = some (.int .i64 a0_0) := (blk_cell BK269.out 0).trans rfl
      have hcz49_1 : w44.cell? ⟨gb269, 1, none⟩ = some (.int .i64 a0_1) := (blk_cell BK269.out 1).trans rfl
      have hcz49_2 : w44.cell? ⟨gb269, 2, none⟩ = some (.slice A0_2 l0_2.length c0_2) := (blk_cell BK269.out 2).trans rfl
      have hcz49_3 : w44.cell? ⟨gb269, 3, none⟩ = some (.slice A0_3 l0_3.length c0_3) := (blk_cell BK269.out 3).trans rfl
      have hcz49_4 : w44.cell? ⟨gb269, 4, none⟩ = some (.slice A0_4 l0_4.length c0_4) := (blk_cell BK269.out 4).trans rfl
      have hcz49_5 : w44.cell? ⟨gb269, 5, none⟩ = some (.int .i64 a0_5) := (blk_cell BK269.out 5).trans rfl
      have hcz49_6 : w44.cell? ⟨gb269, 6, none⟩ = some (.int .i64 a0_6) := (blk_cell BK269.out 6).trans rfl
      have hcz49_7 : w44.cell? ⟨gb269, 7, none⟩ = some (.int .i64 a0_7) := (blk_cell BK269.out 7).trans rfl
      have hfz49_0 := blk_frozen BK269.out 0
      have hfz49_1 := blk_frozen BK269.out 1
      have hfz49_2 := blk_frozen BK269.out 2
      have hfz49_3 := blk_frozen BK269.out 3
      have hfz49_4 := blk_frozen BK269.out 4
      have hfz49_5 := blk_frozen BK269.out 5
      have hfz49_6 := blk_frozen BK269.out 6
      have hfz49_7 := blk_frozen BK269.out 7
      go_wp2_with (first | ((with_reducible refine gate_callee (f := 37) rfl ?_); refine goesL_ (some 21) rfl rfl Tryd.func37 (by kernel_rfl) rfl #[.agg #[.int .i64 a0_0, .int .i64 a0_1, .slice A0_2 l0_2.length c0_2, .slice A0_3 l0_3.length c0_3, .slice A0_4 l0_4.length c0_4, .int .i64 a0_5, .int .i64 a0_6, .int .i64 a0_7]] rfl (by (try simp only [List.map_toArray, List.map_cons, List.map_nil]); first | done | rfl | (simp only [List.length_drop, List.length_take]; rfl)) ?_; (with_reducible refine (shibbolethref05_Right.calls k a0_0 a0_1 _ _ l0_2 _ _ l0_3 _ _ l0_4 a0_5 a0_6 a0_7 true _ ?side1 ?side2 ?side3 ?side4 ?side5 ?side6 A45.out).mono ?_); (case side1 => repeat (first | exact (Kd.C_below HR0_2.out HB.out) | exact HR0_2.out | (with_reducible refine Kd.C_alloc ?_ _) | (with_reducible refine Kd.C_drewN ?_ _) | (with_reducible refine Kd.C_drew ?_))); (case side2 => exact HC0_2.out); (case side3 => repeat (first | exact (Kd.C_below HR0_3.out HB.out) | exact HR0_3.out | (with_reducible refine Kd.C_alloc ?_ _) | (with_reducible refine Kd.C_drewN ?_ _) | (with_reducible refine Kd.C_drew ?_))); (case side4 => exact HC0_3.out); (case side5 => repeat (first | exact (Kd.C_below HR0_4.out HB.out) | exact HR0_4.out | (with_reducible refine Kd.C_alloc ?_ _) | (with_reducible refine Kd.C_drewN ?_ _) | (with_reducible refine Kd.C_drew ?_))); (case side6 => exact HC0_4.out); rintro e w50 ⟨rfl, hb⟩; refine ⟨_, rfl, ?_⟩; have n0_ := Aside0.mk (Kd.R_below (by qR_; exact HO275.out) hb); have n1_ := Aside0.mk (Kd.R_below (by qR_; exact HO278.out) hb); have n2_ := Aside0.mk (Kd.R_below (by qR_; exact HO281.out) hb); have n3_ := Aside0.mk (Kd.R_below (by qR_; exact HO288.out) hb); have n4_ := Aside0.mk (blk_below (g := gb269) (o := (on130_)) (by qk_; exact BK269.out) hb); have n5_ := Aside0.mk (blk_below (g := gb285) (o := (on132_)) (by qk_; exact BK285.out) hb); have n6_ := Aside0.mk (below_step (by qb2_ GE269 GE285) hb); clear HO275; clear HO278; clear HO281; clear HO288; clear BK269; clear BK285; clear HB; have HO275 := n0_; have HO278 := n1_; have HO281 := n2_; have HO288 := n3_; have BK269 := n4_; have BK285 := n5_; have HB := n6_; clear n0_ n1_ n2_ n3_ n4_ n5_ n6_; (try clear hb); (try clear hb2); (try clear hk); (try clear hi)))
      go_meet
      case rel => exact ⟨_, (true), (by first | rfl | (simp; done) | (simp [*]; done)), H', ⟨by first | omega | exact Nat.le_refl _⟩, ⟨by qR_; exact Kd.R_mono HO288.out (fun _ hk => ⟨hk.1.1.2, ⟨hk.1.2, hk.2⟩⟩)⟩, ⟨by qR_; exact Kd.R_mono HO275.out (fun _ hk => ⟨hk.2, ⟨hk.1.1, hk.1.2⟩⟩)⟩, ⟨by qR_; exact Kd.R_mono HO278.out (fun _ hk => ⟨hk.2, ⟨hk.1.1, hk.1.2⟩⟩)⟩, ⟨by qR_; exact Kd.R_mono HO281.out (fun _ hk => ⟨hk.2, ⟨hk.1.1, hk.1.2⟩⟩)⟩, ⟨by qk_; exact BK269.out⟩, ⟨by qk_; exact BK285.out⟩, ⟨by qb2_ GE269 GE285⟩⟩
     ·rw [if_neg c47] at H
      have c47b0 : decide (a1 < 0) = false := decide_eq_false c47
      clear c47
      (first | rw [c47b0] | (simp only [i64_w, i32_w]; rw [c47b0]) | skip)
      have H' := Aside0.mk H
      clear H
      have hnb51 := NB269_285.out
      have hnc51 := NB285_269.out
      have hcz52_0 : w44.cell? ⟨gb269, 0, none⟩ = some (.int .i64 a0_0) := (blk_cell BK269.out 0).trans rfl
      have hcz52_1 : w44.cell? ⟨gb269, 1, none⟩ = some (.int .i64 a0_1) := (blk_cell BK269.out 1).trans rfl
      have hcz52_2 : w44.cell? ⟨gb269, 2, none⟩ = some (.slice A0_2 l0_2.length c0_2) := (blk_cell BK269.out 2).trans rfl
      have hcz52_3 : w44.cell? ⟨gb269, 3, none⟩ = some (.slice A0_3 l0_3.length c0_3) := (blk_cell BK269.out 3).trans rfl
      have hcz52_4 : w44.cell? ⟨gb269, 4, none⟩ = some (.slice A0_4 l0_4.length c0_4) := (blk_cell BK269.out 4).trans rfl
      have hcz52_5 : w44.cell? ⟨gb269, 5, none⟩ = some (.int .i64 a0_5) := (blk_cell BK269.out 5).trans rfl
      have hcz52_6 : w44.cell? ⟨gb269, 6, none⟩ = some (.int .i64 a0_6) := (blk_cell BK269.out 6).trans rfl
      have hcz52_7 : w44.cell? ⟨gb269, 7, none⟩ = some (.int .i64 a0_7) := (blk_cell BK269.out 7).trans rfl
      have hfz52_0 := blk_frozen BK269.out 0
      have hfz52_1 := blk_frozen BK269.out 1
      have hfz52_2 := blk_frozen BK269.out 2
      have hfz52_3 := blk_frozen BK269.out 3
      have hfz52_4 := blk_frozen BK269.out 4
      have hfz52_5 := blk_frozen BK269.out 5
      have hfz52_6 := blk_frozen BK269.out 6
      have hfz52_7 := blk_frozen BK269.out 7
      go_wp2_with (first | ((with_reducible refine gate_callee (f := 37) rfl ?_); refine goesL_ (some 21) rfl rfl Tryd.func37 (by kernel_rfl) rfl #[.agg #[.int .i64 a0_0, .int .i64 a0_1, .slice A0_2 l0_2.length c0_2, .slice A0_3 l0_3.length c0_3, .slice A0_4 l0_4.length c0_4, .int .i64 a0_5, .int .i64 a0_6, .int .i64 a0_7]] rfl (by (try simp only [List.map_toArray, List.map_cons, List.map_nil]); first | done | rfl | (simp only [List.length_drop, List.length_take]; rfl)) ?_; (with_reducible refine (shibbolethref05_Right.calls k a0_0 a0_1 _ _ l0_2 _ _ l0_3 _ _ l0_4 a0_5 a0_6 a0_7 true _ ?side1 ?side2 ?side3 ?side4 ?side5 ?side6 A45.out).mono ?_); (case side1 => repeat (first | exact (Kd.C_below HR0_2.out HB.out) | exact HR0_2.out | (with_reducible refine Kd.C_alloc ?_ _) | (with_reducible refine Kd.C_drewN ?_ _) | (with_reducible refine Kd.C_drew ?_))); (case side2 => exact HC0_2.out); (case side3 => repeat (first | exact (Kd.C_below HR0_3.out HB.out) | exact HR0_3.out | (with_reducible refine Kd.C_alloc ?_ _) | (with_reducible refine Kd.C_drewN ?_ _) | (with_reducible refine Kd.C_drew ?_))); (case side4 => exact HC0_3.out); (case side5 => repeat (first | exact (Kd.C_below HR0_4.out HB.out) | exact HR0_4.out | (with_reducible refine Kd.C_alloc ?_ _) | (with_reducible refine Kd.C_drewN ?_ _) | (with_reducible refine Kd.C_drew ?_))); (case side6 => exact HC0_4.out); rintro e w53 ⟨rfl, hb⟩; refine ⟨_, rfl, ?_⟩; have n0_ := Aside0.mk (Kd.R_below (by qR_; exact HO275.out) hb); have n1_ := Aside0.mk (Kd.R_below (by qR_; exact HO278.out) hb); have n2_ := Aside0.mk (Kd.R_below (by qR_; exact HO281.out) hb); have n3_ := Aside0.mk (Kd.R_below (by qR_; exact HO288.out) hb); have n4_ := Aside0.mk (blk_below (g := gb269) (o := (on130_)) (by qk_; exact BK269.out) hb); have n5_ := Aside0.mk (blk_below (g := gb285) (o := (on132_)) (by qk_; exact BK285.out) hb); have n6_ := Aside0.mk (below_step (by qb2_ GE269 GE285) hb); clear HO275; clear HO278; clear HO281; clear HO288; clear BK269; clear BK285; clear HB; have HO275 := n0_; have HO278 := n1_; have HO281 := n2_; have HO288 := n3_; have BK269 := n4_; have BK285 := n5_; have HB := n6_; clear n0_ n1_ n2_ n3_ n4_ n5_ n6_; (try clear hb); (try clear hb2); (try clear hk); (try clear hi)))
      go_meet
      case rel => exact ⟨_, (decide (a1 > 16384)), (by first | rfl | (simp; done) | (simp [*]; done)), H', ⟨by first | omega | exact Nat.le_refl _⟩, ⟨by qR_; exact Kd.R_mono HO288.out (fun _ hk => ⟨hk.1.1.2, ⟨hk.1.2, hk.2⟩⟩)⟩, ⟨by qR_; exact Kd.R_mono HO275.out (fun _ hk => ⟨hk.2, ⟨hk.1.1, hk.1.2⟩⟩)⟩, ⟨by qR_; exact Kd.R_mono HO278.out (fun _ hk => ⟨hk.2, ⟨hk.1.1, hk.1.2⟩⟩)⟩, ⟨by qR_; exact Kd.R_mono HO281.out (fun _ hk => ⟨hk.2, ⟨hk.1.1, hk.1.2⟩⟩)⟩, ⟨by qk_; exact BK269.out⟩, ⟨by qk_; exact BK285.out⟩, ⟨by qb2_ GE269 GE285⟩⟩
    ·replace c46 := Bool.eq_false_iff.mpr c46
     subst c46
     have H1 : (shibbolethlaw05_HeaderWrites.j0 k a1 t286 true a0_0 a0_1 l0_2 l0_3 l0_4 a0_5 a0_6 a0_7) = some r := by rw [if_neg (show ¬ (false = true) by decide)] at H; exact H
     clear H
     have H := H1
     clear H1
     have H' := Aside0.mk H
     clear H
     have hnb54 := NB269_285.out
     have hnc54 := NB285_269.out
     have hcz55_0 : w44.cell? ⟨gb269, 0, none⟩ = some (.int .i64 a0_0) := (blk_cell BK269.out 0).trans rfl
     have hcz55_1 : w44.cell? ⟨gb269, 1, none⟩ = some (.int .i64 a0_1) := (blk_cell BK269.out 1).trans rfl
     have hcz55_2 : w44.cell? ⟨gb269, 2, none⟩ = some (.slice A0_2 l0_2.length c0_2) := (blk_cell BK269.out 2).trans rfl
     have hcz55_3 : w44.cell? ⟨gb269, 3, none⟩ = some (.slice A0_3 l0_3.length c0_3) := (blk_cell BK269.out 3).trans rfl
     have hcz55_4 : w44.cell? ⟨gb269, 4, none⟩ = some (.slice A0_4 l0_4.length c0_4) := (blk_cell BK269.out 4).trans rfl
     have hcz55_5 : w44.cell? ⟨gb269, 5, none⟩ = some (.int .i64 a0_5) := (blk_cell BK269.out 5).trans rfl
     have hcz55_6 : w44.cell? ⟨gb269, 6, none⟩ = some (.int .i64 a0_6) := (blk_cell BK269.out 6).trans rfl
     have hcz55_7 : w44.cell? ⟨gb269, 7, none⟩ = some (.int .i64 a0_7) := (blk_cell BK269.out 7).trans rfl
     have hfz55_0 := blk_frozen BK269.out 0
     have hfz55_1 := blk_frozen BK269.out 1
     have hfz55_2 := blk_frozen BK269.out 2
     have hfz55_3 := blk_frozen BK269.out 3
     have hfz55_4 := blk_frozen BK269.out 4
     have hfz55_5 := blk_frozen BK269.out 5
     have hfz55_6 := blk_frozen BK269.out 6
     have hfz55_7 := blk_frozen BK269.out 7
     go_wp2_with (first | ((with_reducible refine gate_callee (f := 37) rfl ?_); refine goesL_ (some 21) rfl rfl Tryd.func37 (by kernel_rfl) rfl #[.agg #[.int .i64 a0_0, .int .i64 a0_1, .slice A0_2 l0_2.length c0_2, .slice A0_3 l0_3.length c0_3, .slice A0_4 l0_4.length c0_4, .int .i64 a0_5, .int .i64 a0_6, .int .i64 a0_7]] rfl (by (try simp only [List.map_toArray, List.map_cons, List.map_nil]); first | done | rfl | (simp only [List.length_drop, List.length_take]; rfl)) ?_; (with_reducible refine (shibbolethref05_Right.calls k a0_0 a0_1 _ _ l0_2 _ _ l0_3 _ _ l0_4 a0_5 a0_6 a0_7 false _ ?side1 ?side2 ?side3 ?side4 ?side5 ?side6 A45.out).mono ?_); (case side1 => repeat (first | exact (Kd.C_below HR0_2.out HB.out) | exact HR0_2.out | (with_reducible refine Kd.C_alloc ?_ _) | (with_reducible refine Kd.C_drewN ?_ _) | (with_reducible refine Kd.C_drew ?_))); (case side2 => exact HC0_2.out); (case side3 => repeat (first | exact (Kd.C_below HR0_3.out HB.out) | exact HR0_3.out | (with_reducible refine Kd.C_alloc ?_ _) | (with_reducible refine Kd.C_drewN ?_ _) | (with_reducible refine Kd.C_drew ?_))); (case side4 => exact HC0_3.out); (case side5 => repeat (first | exact (Kd.C_below HR0_4.out HB.out) | exact HR0_4.out | (with_reducible refine Kd.C_alloc ?_ _) | (with_reducible refine Kd.C_drewN ?_ _) | (with_reducible refine Kd.C_drew ?_))); (case side6 => exact HC0_4.out); rintro e w56 ⟨rfl, hb⟩; refine ⟨_, rfl, ?_⟩; have n0_ := Aside0.mk (Kd.R_below (by qR_; exact HO275.out) hb); have n1_ := Aside0.mk (Kd.R_below (by qR_; exact HO278.out) hb); have n2_ := Aside0.mk (Kd.R_below (by qR_; exact HO281.out) hb); have n3_ := Aside0.mk (Kd.R_below (by qR_; exact HO288.out) hb); have n4_ := Aside0.mk (blk_below (g := gb269) (o := (on130_)) (by qk_; exact BK269.out) hb); have n5_ := Aside0.mk (blk_below (g := gb285) (o := (on132_)) (by qk_; exact BK285.out) hb); have n6_ := Aside0.mk (below_step (by qb2_ GE269 GE285) hb); clear HO275; clear HO278; clear HO281; clear HO288; clear BK269; clear BK285; clear HB; have HO275 := n0_; have HO278 := n1_; have HO281 := n2_; have HO288 := n3_; have BK269 := n4_; have BK285 := n5_; have HB := n6_; clear n0_ n1_ n2_ n3_ n4_ n5_ n6_; (try clear hb); (try clear hb2); (try clear hk); (try clear hi)))
     go_meet
     case rel => exact ⟨_, (true), (by first | rfl | (simp; done) | (simp [*]; done)), H', ⟨by first | omega | exact Nat.le_refl _⟩, ⟨by qR_; exact Kd.R_mono HO288.out (fun _ hk => ⟨hk.1.1.2, ⟨hk.1.2, hk.2⟩⟩)⟩, ⟨by qR_; exact Kd.R_mono HO275.out (fun _ hk => ⟨hk.2, ⟨hk.1.1, hk.1.2⟩⟩)⟩, ⟨by qR_; exact Kd.R_mono HO278.out (fun _ hk => ⟨hk.2, ⟨hk.1.1, hk.1.2⟩⟩)⟩, ⟨by qR_; exact Kd.R_mono HO281.out (fun _ hk => ⟨hk.2, ⟨hk.1.1, hk.1.2⟩⟩)⟩, ⟨by qk_; exact BK269.out⟩, ⟨by qk_; exact BK285.out⟩, ⟨by qb2_ GE269 GE285⟩⟩
   case rest =>
    clear HC27
    try clear c1
    try clear p2
    try clear c3
    try clear c4
    try clear c5
    try clear c9
    try clear c9b0
    try clear c9b1
    try clear c9b2
    try clear c16
    try clear c33
    try clear c34
    try clear c35
    try clear c36
    try clear c37
    try clear c46
    try clear c47
    try clear c47b0
    try clear c48
    try clear c51
    try clear c54
    try clear hcz11_0
    try clear hcz11_1
    try clear hcz11_2
    try clear hcz11_3
    try clear hcz11_4
    try clear hcz11_5
    try clear hcz11_6
    try clear hcz11_7
    try clear hcz13_0
    try clear hcz13_1
    try clear hcz13_2
    try clear hcz13_3
    try clear hcz13_4
    try clear hcz13_5
    try clear hcz13_6
    try clear hcz13_7
    try clear hcz17_0
    try clear hcz17_1
    try clear hcz17_2
    try clear hcz17_3
    try clear hcz17_4
    try clear hcz17_5
    try clear hcz17_6
    try clear hcz17_7
    try clear hcz22_0
    try clear hcz22_1
    try clear hcz22_2
    try clear hcz22_3
    try clear hcz22_4
    try clear hcz22_5
    try clear hcz22_6
    try clear hcz22_7
    try clear hcz29_0
    try clear hcz29_1
    try clear hcz29_2
    try clear hcz29_3
    try clear hcz29_4
    try clear hcz29_5
    try clear hcz29_6
    try clear hcz29_7
    try clear hcz31_0
    try clear hcz31_1
    try clear hcz31_2
    try clear hcz31_3
    try clear hcz31_4
    try clear hcz31_5
    try clear hcz31_6
    try clear hcz31_7
    try clear hcz35_0
    try clear hcz35_1
    try clear hcz35_2
    try clear hcz35_3
    try clear hcz35_4
    try clear hcz35_5
    try clear hcz35_6
    try clear hcz35_7
    try clear hcz40_0
    try clear hcz40_1
    try clear hcz40_2
    try clear hcz40_3
    try clear hcz40_4
    try clear hcz40_5
    try clear hcz40_6
    try clear hcz40_7
    try clear hcz49_0
    try clear hcz49_1
    try clear hcz49_2
    try clear hcz49_3
    try clear hcz49_4
    try clear hcz49_5
    try clear hcz49_6
    try clear hcz49_7
    try clear hcz52_0
    try clear hcz52_1
    try clear hcz52_2
    try clear hcz52_3
    try clear hcz52_4
    try clear hcz52_5
    try clear hcz52_6
    try clear hcz52_7
    try clear hcz55_0
    try clear hcz55_1
    try clear hcz55_2
    try clear hcz55_3
    try clear hcz55_4
    try clear hcz55_5
    try clear hcz55_6
    try clear hcz55_7
    try clear hfz11_0
    try clear hfz11_1
    try clear hfz11_2
    try clear hfz11_3
    try clear hfz11_4
    try clear hfz11_5
    try clear hfz11_6
    try clear hfz11_7
    try clear hfz13_0
    try clear hfz13_1
    try clear hfz13_2
    try clear hfz13_3
    try clear hfz13_4
    try clear hfz13_5
    try clear hfz13_6
    try clear hfz13_7
    try clear hfz17_0
    try clear hfz17_1
    try clear hfz17_2
    try clear hfz17_3
    try clear hfz17_4
    try clear hfz17_5
    try clear hfz17_6
    try clear hfz17_7
    try clear hfz22_0
    try clear hfz22_1
    try clear hfz22_2
    try clear hfz22_3
    try clear hfz22_4
    try clear hfz22_5
    try clear hfz22_6
    try clear hfz22_7
    try clear hfz29_0
    try clear hfz29_1
    try clear hfz29_2
    try clear hfz29_3
    try clear hfz29_4
    try clear hfz29_5
    try clear hfz29_6
    try clear hfz29_7
    try clear hfz31_0
    try clear hfz31_1
    try clear hfz31_2
    try clear hfz31_3
    try clear hfz31_4
    try clear hfz31_5
    try clear hfz31_6
    try clear hfz31_7
    try clear hfz35_0
    try clear hfz35_1
    try clear hfz35_2
    try clear hfz35_3
    try clear hfz35_4
    try clear hfz35_5
    try clear hfz35_6
    try clear hfz35_7
    try clear hfz40_0
    try clear hfz40_1
    try clear hfz40_2
    try clear hfz40_3
    try clear hfz40_4
    try clear hfz40_5
    try clear hfz40_6
    try clear hfz40_7
    try clear hfz49_0
    try clear hfz49_1
    try clear hfz49_2
    try clear hfz49_3
    try clear hfz49_4
    try clear hfz49_5
    try clear hfz49_6
    try clear hfz49_7
    try clear hfz52_0
    try clear hfz52_1
    try clear hfz52_2
    try clear hfz52_3
    try clear hfz52_4
    try clear hfz52_5
    try clear hfz52_6
    try clear hfz52_7
    try clear hfz55_0
    try clear hfz55_1
    try clear hfz55_2
    try clear hfz55_3
    try clear hfz55_4
    try clear hfz55_5
    try clear hfz55_6
    try clear hfz55_7
    obtain ⟨kq, x30_26, rfl, HA, HJ26, HO_6, HO_286002, HO_286003, HO_286004, BK269, BK285, HB⟩ := hcut
    cases kq with
    | zero => exact absurd HA.out (by simp [shibbolethlaw05_HeaderWrites.j0])
    | succ kj26 =>
     have H := HA.out
     clear HA
     simp only [shibbolethlaw05_HeaderWrites.j0] at H
     by_cases c57 : x30_26 = true
     ·subst c57
      have H1 : (if (t286.length : Int) = 0 then ((shibbolethlaw05_awake.f kj26).bind fun t292 => (some t292)) else (some false)) = some r := by rw [if_pos rfl] at H; exact H
      clear H
      have H := H1
      clear H1
      by_cases c58 : (t286.length : Int) = 0
      ·rw [if_pos c58] at H
       have c58b0 : ((t286.length : Int) == 0) = true := beq_iff_eq.mpr c58
       have c58b1 : ((t286.length : Int) != 0) = false := bne_eq_false_iff_eq.mpr c58
       clear c58
       replace H := Option.bind_eq_some_iff.mp H
       obtain ⟨t292, A590, H⟩ := H
       replace H : (some t292) = some r := H
       have A59 := Aside0.mk A590
       clear A590
       obtain rfl := Option.some.inj H
       obtain ⟨Ao60, co60, eo60⟩ := Kd.R_slice HO_6.out
       subst eo60
       go_wp2_with (first | (go_at_call 38; (with_reducible refine (shibbolethlaw05_awake.calls kj26  t292 _ ?sideT A59.out).mono ?_); (case sideT => repeat (first | exact HT.out | exact TB.below HT.out HB.out | exact TB.below HT.out HBW.out | (with_reducible refine TB.alloc ?_ _) | (with_reducible refine TB.drewN ?_ _) | (with_reducible refine TB.drew ?_))); rintro e w61 ⟨rfl, hb⟩; have n0_ := Aside0.mk (Kd.R_below (by qR_; exact HO_6.out) hb); have n1_ := Aside0.mk (Kd.R_below (by qR_; exact HO_286002.out) hb); have n2_ := Aside0.mk (Kd.R_below (by qR_; exact HO_286003.out) hb); have n3_ := Aside0.mk (Kd.R_below (by qR_; exact HO_286004.out) hb); have n4_ := Aside0.mk (blk_below (g := gb269) (o := (on130_)) (by qk_; exact BK269.out) hb); have n5_ := Aside0.mk (blk_below (g := gb285) (o := (on132_)) (by qk_; exact BK285.out) hb); have n6_ := Aside0.mk (below_step (by qb2_ GE269 GE285) hb); clear HO_6; clear HO_286002; clear HO_286003; clear HO_286004; clear BK269; clear BK285; clear HB; have HO_6 := n0_; have HO_286002 := n1_; have HO_286003 := n2_; have HO_286004 := n3_; have BK269 := n4_; have BK285 := n5_; have HB := n6_; clear n0_ n1_ n2_ n3_ n4_ n5_ n6_; (try clear hb); (try clear hb2); (try clear hk); (try clear hi)))
       go_ret
       ln133_
      ·rw [if_neg c58] at H
       have c58b0 : ((t286.length : Int) == 0) = false := beq_eq_false_iff_ne.mpr c58
       have c58b1 : ((t286.length : Int) != 0) = true := bne_iff_ne.mpr c58
       have c58b2 : ¬ (t286 = []) := fun h_ => c58 (by rw [h_]; rfl)
       obtain rfl := Option.some.inj H
       obtain ⟨Ao62, co62, eo62⟩ := Kd.R_slice HO_6.out
       subst eo62
       go_wp2
       go_ret
       ln133_
     ·replace c57 := Bool.eq_false_iff.mpr c57
      subst c57
      have H1 : ((shibbolethref05_Write.f kj26 a0_0 a0_1 l0_2 l0_3 l0_4 a0_5 a0_6 a0_7 a1).bind fun t293 => ((shibbolethlaw05_same.f kj26 t286 t293).bind fun t296 => (if t296 = true then ((shibbolethlaw05_awake.f kj26).bind fun t297 => (some t297)) else (some false)))) = some r := by rw [if_neg (show ¬ (false = true) by decide)] at H; exact H
      clear H
      have H := H1
      clear H1
      replace H := Option.bind_eq_some_iff.mp H
      obtain ⟨t293, A630, H⟩ := H
      replace H : ((shibbolethlaw05_same.f kj26 t286 t293).bind fun t296 => (if t296 = true then ((shibbolethlaw05_awake.f kj26).bind fun t297 => (some t297)) else (some false))) = some r := H
      have A63 := Aside0.mk A630
      clear A630
      replace H := Option.bind_eq_some_iff.mp H
      obtain ⟨t296, A640, H⟩ := H
      replace H : (if t296 = true then ((shibbolethlaw05_awake.f kj26).bind fun t297 => (some t297)) else (some false)) = some r := H
      have A64 := Aside0.mk A640
      clear A640
      by_cases c65 : t296 = true
      ·subst c65
       have H1 : ((shibbolethlaw05_awake.f kj26).bind fun t297 => (some t297)) = some r := by rw [if_pos rfl] at H; exact H
       clear H
       have H := H1
       clear H1
       replace H := Option.bind_eq_some_iff.mp H
       obtain ⟨t297, A660, H⟩ := H
       replace H : (some t297) = some r := H
       have A66 := Aside0.mk A660
       clear A660
       obtain rfl := Option.some.inj H
       have hnb67 := NB269_285.out
       have hnc67 := NB285_269.out
       have hcz68_0 : wc.cell? ⟨gb269, 0, none⟩ = some (.int .i64 a0_0) := (blk_cell BK269.out 0).trans rfl
       have hcz68_1 : wc.cell? ⟨gb269, 1, none⟩ = some (.int .i64 a0_1) := (blk_cell BK269.out 1).trans rfl
       have hcz68_2 : wc.cell? ⟨gb269, 2, none⟩ = some (.slice A0_2 l0_2.length c0_2) := (blk_cell BK269.out 2).trans rfl
       have hcz68_3 : wc.cell? ⟨gb269, 3, none⟩ = some (.slice A0_3 l0_3.length c0_3) := (blk_cell BK269.out 3).trans rfl
       have hcz68_4 : wc.cell? ⟨gb269, 4, none⟩ = some (.slice A0_4 l0_4.length c0_4) := (blk_cell BK269.out 4).trans rfl
       have hcz68_5 : wc.cell? ⟨gb269, 5, none⟩ = some (.int .i64 a0_5) := (blk_cell BK269.out 5).trans rfl
       have hcz68_6 : wc.cell? ⟨gb269, 6, none⟩ = some (.int .i64 a0_6) := (blk_cell BK269.out 6).trans rfl
       have hcz68_7 : wc.cell? ⟨gb269, 7, none⟩ = some (.int .i64 a0_7) := (blk_cell BK269.out 7).trans rfl
       have hfz68_0 := blk_frozen BK269.out 0
       have hfz68_1 := blk_frozen BK269.out 1
       have hfz68_2 := blk_frozen BK269.out 2
       have hfz68_3 := blk_frozen BK269.out 3
       have hfz68_4 := blk_frozen BK269.out 4
       have hfz68_5 := blk_frozen BK269.out 5
       have hfz68_6 := blk_frozen BK269.out 6
       have hfz68_7 := blk_frozen BK269.out 7
       go_wp2_with (first | ((with_reducible refine gate_callee (f := 40) rfl ?_); refine goesL_ (some 40) rfl rfl Tryd.func40 (by kernel_rfl) rfl #[.agg #[.int .i64 a0_0, .int .i64 a0_1, .slice A0_2 l0_2.length c0_2, .slice A0_3 l0_3.length c0_3, .slice A0_4 l0_4.length c0_4, .int .i64 a0_5, .int .i64 a0_6, .int .i64 a0_7], .int .i64 a1] rfl (by (try simp only [List.map_toArray, List.map_cons, List.map_nil]); first | done | rfl | (simp only [List.length_drop, List.length_take]; rfl)) ?_; (with_reducible refine (shibbolethref05_Write.calls kj26 a0_0 a0_1 _ _ l0_2 _ _ l0_3 _ _ l0_4 a0_5 a0_6 a0_7 a1 t293 _ ?side1 ?side2 ?side3 ?side4 ?side5 ?side6 A63.out).mono ?_); (case side1 => repeat (first | exact (Kd.C_below HR0_2.out HB.out) | exact HR0_2.out | (with_reducible refine Kd.C_alloc ?_ _) | (with_reducible refine Kd.C_drewN ?_ _) | (with_reducible refine Kd.C_drew ?_))); (case side2 => exact HC0_2.out); (case side3 => repeat (first | exact (Kd.C_below HR0_3.out HB.out) | exact HR0_3.out | (with_reducible refine Kd.C_alloc ?_ _) | (with_reducible refine Kd.C_drewN ?_ _) | (with_reducible refine Kd.C_drew ?_))); (case side4 => exact HC0_3.out); (case side5 => repeat (first | exact (Kd.C_below HR0_4.out HB.out) | exact HR0_4.out | (with_reducible refine Kd.C_alloc ?_ _) | (with_reducible refine Kd.C_drewN ?_ _) | (with_reducible refine Kd.C_drew ?_))); (case side6 => exact HC0_4.out); rintro e w69 ⟨v294, rfl, ho0, hb⟩; refine ⟨_, rfl, ?_⟩; have n0_ := Aside0.mk (Kd.R_elder' (by qR_; exact HO_6.out) (Kd.R_base ho0) hb); have n1_ := Aside0.mk (Kd.R_elder' (by qR_; exact HO_286002.out) (Kd.R_base ho0) hb); have n2_ := Aside0.mk (Kd.R_elder' (by qR_; exact HO_286003.out) (Kd.R_base ho0) hb); have n3_ := Aside0.mk (Kd.R_elder' (by qR_; exact HO_286004.out) (Kd.R_base ho0) hb); have n4_ := Aside0.mk (Kd.R_lower (Kd.R_new' (Kd.R_new' (Kd.R_new' (Kd.R_new' ho0 (Kd.R_lt (by qR_; exact HO_6.out))) (Kd.R_lt (by qR_; exact HO_286002.out))) (Kd.R_lt (by qR_; exact HO_286003.out))) (Kd.R_lt (by qR_; exact HO_286004.out))) (below_size (by qb2_ GE269 GE285))); have n5_ := Aside0.mk (blk_below (g := gb269) (o := (on130_)) (by qk_; exact BK269.out) hb); have n6_ := Aside0.mk (blk_below (g := gb285) (o := (on132_)) (by qk_; exact BK285.out) hb); have n7_ := Aside0.mk (below_step (by qb2_ GE269 GE285) hb); clear HO_6; clear HO_286002; clear HO_286003; clear HO_286004; clear BK269; clear BK285; clear HB; have HO_6 := n0_; have HO_286002 := n1_; have HO_286003 := n2_; have HO_286004 := n3_; have HO295 := n4_; have BK269 := n5_; have BK285 := n6_; have HB := n7_; clear n0_ n1_ n2_ n3_ n4_ n5_ n6_ n7_; (try clear hb); (try clear hb2); (try clear hk); (try clear hi); (try clear ho0); obtain ⟨Ao70, co70, eo70⟩ := Kd.R_slice HO_6.out; subst eo70; obtain ⟨Ao71, co71, eo71⟩ := Kd.R_slice HO295.out; subst eo71) | ((with_reducible refine gate_callee (f := 39) rfl ?_); refine goesL_ (some 41) rfl rfl Tryd.func39 (by kernel_rfl) rfl #[.slice Ao70 t286.length co70, .slice Ao71 t293.length co71] rfl (by (try simp only [List.map_toArray, List.map_cons, List.map_nil]); first | done | rfl | (simp only [List.length_drop, List.length_take]; rfl)) ?_; (with_reducible refine (shibbolethlaw05_same.calls kj26 _ _ t286 _ _ t293 true _ ?side1 ?side2 ?side3 ?side4 A64.out).mono ?_); (case side1 => repeat (first | exact (Kd.R_reads' HO_6.out).2.2 | (with_reducible refine Kd.C_alloc ?_ _) | (with_reducible refine Kd.C_drewN ?_ _) | (with_reducible refine Kd.C_drew ?_))); (case side2 => exact (Kd.R_reads' HO_6.out).2.1); (case side3 => repeat (first | exact (Kd.R_reads' HO295.out).2.2 | (with_reducible refine Kd.C_alloc ?_ _) | (with_reducible refine Kd.C_drewN ?_ _) | (with_reducible refine Kd.C_drew ?_))); (case side4 => exact (Kd.R_reads' HO295.out).2.1); rintro e w' ⟨rfl, ⟨nd, rfl⟩⟩; refine ⟨_, rfl, ?_⟩) | (go_at_call 38; (with_reducible refine (shibbolethlaw05_awake.calls kj26  t297 _ ?sideT A66.out).mono ?_); (case sideT => repeat (first | exact HT.out | exact TB.below HT.out HB.out | exact TB.below HT.out HBW.out | (with_reducible refine TB.alloc ?_ _) | (with_reducible refine TB.drewN ?_ _) | (with_reducible refine TB.drew ?_))); rintro e w72 ⟨rfl, hb⟩; have n0_ := Aside0.mk (Kd.R_below (by qR_; exact HO_6.out) hb); have n1_ := Aside0.mk (Kd.R_below (by qR_; exact HO_286002.out) hb); have n2_ := Aside0.mk (Kd.R_below (by qR_; exact HO_286003.out) hb); have n3_ := Aside0.mk (Kd.R_below (by qR_; exact HO_286004.out) hb); have n4_ := Aside0.mk (Kd.R_below (by qR_; exact HO295.out) hb); have n5_ := Aside0.mk (blk_below (g := gb269) (o := (on130_)) (by qk_; exact BK269.out) hb); have n6_ := Aside0.mk (blk_below (g := gb285) (o := (on132_)) (by qk_; exact BK285.out) hb); have n7_ := Aside0.mk (below_step (by qb2_ GE269 GE285) hb); clear HO_6; clear HO_286002; clear HO_286003; clear HO_286004; clear HO295; clear BK269; clear BK285; clear HB; have HO_6 := n0_; have HO_286002 := n1_; have HO_286003 := n2_; have HO_286004 := n3_; have HO295 := n4_; have BK269 := n5_; have BK285 := n6_; have HB := n7_; clear n0_ n1_ n2_ n3_ n4_ n5_ n6_ n7_; (try clear hb); (try clear hb2); (try clear hk); (try clear hi)))
       go_ret
       ln133_
      ·replace c65 := Bool.eq_false_iff.mpr c65
       subst c65
       have H1 : (some false) = some r := by rw [if_neg (show ¬ (false = true) by decide)] at H; exact H
       clear H
       have H := H1
       clear H1
       obtain rfl := Option.some.inj H
       have hnb73 := NB269_285.out
       have hnc73 := NB285_269.out
       have hcz74_0 : wc.cell? ⟨gb269, 0, none⟩ = some (.int .i64 a0_0) := (blk_cell BK269.out 0).trans rfl
       have hcz74_1 : wc.cell? ⟨gb269, 1, none⟩ = some (.int .i64 a0_1) := (blk_cell BK269.out 1).trans rfl
       have hcz74_2 : wc.cell? ⟨gb269, 2, none⟩ = some (.slice A0_2 l0_2.length c0_2) := (blk_cell BK269.out 2).trans rfl
       have hcz74_3 : wc.cell? ⟨gb269, 3, none⟩ = some (.slice A0_3 l0_3.length c0_3) := (blk_cell BK269.out 3).trans rfl
       have hcz74_4 : wc.cell? ⟨gb269, 4, none⟩ = some (.slice A0_4 l0_4.length c0_4) := (blk_cell BK269.out 4).trans rfl
       have hcz74_5 : wc.cell? ⟨gb269, 5, none⟩ = some (.int .i64 a0_5) := (blk_cell BK269.out 5).trans rfl
       have hcz74_6 : wc.cell? ⟨gb269, 6, none⟩ = some (.int .i64 a0_6) := (blk_cell BK269.out 6).trans rfl
       have hcz74_7 : wc.cell? ⟨gb269, 7, none⟩ = some (.int .i64 a0_7) := (blk_cell BK269.out 7).trans rfl
       have hfz74_0 := blk_frozen BK269.out 0
       have hfz74_1 := blk_frozen BK269.out 1
       have hfz74_2 := blk_frozen BK269.out 2
       have hfz74_3 := blk_frozen BK269.out 3
       have hfz74_4 := blk_frozen BK269.out 4
       have hfz74_5 := blk_frozen BK269.out 5
       have hfz74_6 := blk_frozen BK269.out 6
       have hfz74_7 := blk_frozen BK269.out 7
       go_wp2_with (first | ((with_reducible refine gate_callee (f := 40) rfl ?_); refine goesL_ (some 40) rfl rfl Tryd.func40 (by kernel_rfl) rfl #[.agg #[.int .i64 a0_0, .int .i64 a0_1, .slice A0_2 l0_2.length c0_2, .slice A0_3 l0_3.length c0_3, .slice A0_4 l0_4.length c0_4, .int .i64 a0_5, .int .i64 a0_6, .int .i64 a0_7], .int .i64 a1] rfl (by (try simp only [List.map_toArray, List.map_cons, List.map_nil]); first | done | rfl | (simp only [List.length_drop, List.length_take]; rfl)) ?_; (with_reducible refine (shibbolethref05_Write.calls kj26 a0_0 a0_1 _ _ l0_2 _ _ l0_3 _ _ l0_4 a0_5 a0_6 a0_7 a1 t293 _ ?side1 ?side2 ?side3 ?side4 ?side5 ?side6 A63.out).mono ?_); (case side1 => repeat (first | exact (Kd.C_below HR0_2.out HB.out) | exact HR0_2.out | (with_reducible refine Kd.C_alloc ?_ _) | (with_reducible refine Kd.C_drewN ?_ _) | (with_reducible refine Kd.C_drew ?_))); (case side2 => exact HC0_2.out); (case side3 => repeat (first | exact (Kd.C_below HR0_3.out HB.out) | exact HR0_3.out | (with_reducible refine Kd.C_alloc ?_ _) | (with_reducible refine Kd.C_drewN ?_ _) | (with_reducible refine Kd.C_drew ?_))); (case side4 => exact HC0_3.out); (case side5 => repeat (first | exact (Kd.C_below HR0_4.out HB.out) | exact HR0_4.out | (with_reducible refine Kd.C_alloc ?_ _) | (with_reducible refine Kd.C_drewN ?_ _) | (with_reducible refine Kd.C_drew ?_))); (case side6 => exact HC0_4.out); rintro e w75 ⟨v294, rfl, ho0, hb⟩; refine ⟨_, rfl, ?_⟩; have n0_ := Aside0.mk (Kd.R_elder' (by qR_; exact HO_6.out) (Kd.R_base ho0) hb); have n1_ := Aside0.mk (Kd.R_elder' (by qR_; exact HO_286002.out) (Kd.R_base ho0) hb); have n2_ := Aside0.mk (Kd.R_elder' (by qR_; exact HO_286003.out) (Kd.R_base ho0) hb); have n3_ := Aside0.mk (Kd.R_elder' (by qR_; exact HO_286004.out) (Kd.R_base ho0) hb); have n4_ := Aside0.mk (Kd.R_lower (Kd.R_new' (Kd.R_new' (Kd.R_new' (Kd.R_new' ho0 (Kd.R_lt (by qR_; exact HO_6.out))) (Kd.R_lt (by qR_; exact HO_286002.out))) (Kd.R_lt (by qR_; exact HO_286003.out))) (Kd.R_lt (by qR_; exact HO_286004.out))) (below_size (by qb2_ GE269 GE285))); have n5_ := Aside0.mk (blk_below (g := gb269) (o := (on130_)) (by qk_; exact BK269.out) hb); have n6_ := Aside0.mk (blk_below (g := gb285) (o := (on132_)) (by qk_; exact BK285.out) hb); have n7_ := Aside0.mk (below_step (by qb2_ GE269 GE285) hb); clear HO_6; clear HO_286002; clear HO_286003; clear HO_286004; clear BK269; clear BK285; clear HB; have HO_6 := n0_; have HO_286002 := n1_; have HO_286003 := n2_; have HO_286004 := n3_; have HO295 := n4_; have BK269 := n5_; have BK285 := n6_; have HB := n7_; clear n0_ n1_ n2_ n3_ n4_ n5_ n6_ n7_; (try clear hb); (try clear hb2); (try clear hk); (try clear hi); (try clear ho0); obtain ⟨Ao76, co76, eo76⟩ := Kd.R_slice HO_6.out; subst eo76; obtain ⟨Ao77, co77, eo77⟩ := Kd.R_slice HO295.out; subst eo77) | ((with_reducible refine gate_callee (f := 39) rfl ?_); refine goesL_ (some 41) rfl rfl Tryd.func39 (by kernel_rfl) rfl #[.slice Ao76 t286.length co76, .slice Ao77 t293.length co77] rfl (by (try simp only [List.map_toArray, List.map_cons, List.map_nil]); first | done | rfl | (simp only [List.length_drop, List.length_take]; rfl)) ?_; (with_reducible refine (shibbolethlaw05_same.calls kj26 _ _ t286 _ _ t293 false _ ?side1 ?side2 ?side3 ?side4 A64.out).mono ?_); (case side1 => repeat (first | exact (Kd.R_reads' HO_6.out).2.2 | (with_reducible refine Kd.C_alloc ?_ _) | (with_reducible refine Kd.C_drewN ?_ _) | (with_reducible refine Kd.C_drew ?_))); (case side2 => exact (Kd.R_reads' HO_6.out).2.1); (case side3 => repeat (first | exact (Kd.R_reads' HO295.out).2.2 | (with_reducible refine Kd.C_alloc ?_ _) | (with_reducible refine Kd.C_drewN ?_ _) | (with_reducible refine Kd.C_drew ?_))); (case side4 => exact (Kd.R_reads' HO295.out).2.1); rintro e w' ⟨rfl, ⟨nd, rfl⟩⟩; refine ⟨_, rfl, ?_⟩))
       go_ret
       ln133_
 ·replace c4 := Bool.eq_false_iff.mpr c4
  subst c4
  have H1 : (some true) = some r := by rw [if_neg (show ¬ (false = true) by decide)] at H; exact H
  clear H
  have H := H1
  clear H1
  obtain rfl := Option.some.inj H
  go_enter Tryd.func9, Tryd.ntmps9
  go_wp2_with (first | ((with_reducible refine gate_dst (N := 2) rfl ?_); refine box_event ?hg (N := 2) ?hd (cs := #[.int .i64 a0_0, .int .i64 a0_1, .slice A0_2 l0_2.length c0_2, .slice A0_3 l0_3.length c0_3, .slice A0_4 l0_4.length c0_4, .int .i64 a0_5, .int .i64 a0_6, .int .i64 a0_7]) (t := 44) ?hr ?_; (case hd => rfl); (case hg => rfl); (case hr => first | (go_simp; done) | (go_simp; rfl)); intro gb269 hg w78 hbox hb; have n0_ := Aside0.mk (below_step (by qc0_) hb); have n1_ := Aside0.mk (hbox); have n2_ := Aside0.mk ((by rw [hg]; exact (below_size (by qc0_)) : w.heap.size ≤ gb269)); have n3_ := Aside0.mk ((by rw [hg]; exact (below_size (by qc0_)) : w.heap.size ≤ gb269)); clear HB; have HB := n0_; have BK269 := n1_; have GW269 := n2_; have GE269 := n3_; clear n0_ n1_ n2_ n3_; clear hb hbox hg; have hcz79_0 : w78.cell? ⟨gb269, 0, none⟩ = some (.int .i64 a0_0) := (blk_cell BK269.out 0).trans rfl; have hcz79_1 : w78.cell? ⟨gb269, 1, none⟩ = some (.int .i64 a0_1) := (blk_cell BK269.out 1).trans rfl; have hcz79_2 : w78.cell? ⟨gb269, 2, none⟩ = some (.slice A0_2 l0_2.length c0_2) := (blk_cell BK269.out 2).trans rfl; have hcz79_3 : w78.cell? ⟨gb269, 3, none⟩ = some (.slice A0_3 l0_3.length c0_3) := (blk_cell BK269.out 3).trans rfl; have hcz79_4 : w78.cell? ⟨gb269, 4, none⟩ = some (.slice A0_4 l0_4.length c0_4) := (blk_cell BK269.out 4).trans rfl; have hcz79_5 : w78.cell? ⟨gb269, 5, none⟩ = some (.int .i64 a0_5) := (blk_cell BK269.out 5).trans rfl; have hcz79_6 : w78.cell? ⟨gb269, 6, none⟩ = some (.int .i64 a0_6) := (blk_cell BK269.out 6).trans rfl; have hcz79_7 : w78.cell? ⟨gb269, 7, none⟩ = some (.int .i64 a0_7) := (blk_cell BK269.out 7).trans rfl; have hfz79_0 := blk_frozen BK269.out 0; have hfz79_1 := blk_frozen BK269.out 1; have hfz79_2 := blk_frozen BK269.out 2; have hfz79_3 := blk_frozen BK269.out 3; have hfz79_4 := blk_frozen BK269.out 4; have hfz79_5 := blk_frozen BK269.out 5; have hfz79_6 := blk_frozen BK269.out 6; have hfz79_7 := blk_frozen BK269.out 7) | ((with_reducible refine gate_callee (f := 33) rfl ?_); refine goesL_ (some 8) rfl rfl Tryd.func33 (by kernel_rfl) rfl #[.agg #[.int .i64 a0_0, .int .i64 a0_1, .slice A0_2 l0_2.length c0_2, .slice A0_3 l0_3.length c0_3, .slice A0_4 l0_4.length c0_4, .int .i64 a0_5, .int .i64 a0_6, .int .i64 a0_7]] rfl (by (try simp only [List.map_toArray, List.map_cons, List.map_nil]); first | done | rfl | (simp only [List.length_drop, List.length_take]; rfl)) ?_; (with_reducible refine (shibbolethlaw05_light.calls a0_0 a0_1 _ _ l0_2 _ _ l0_3 _ _ l0_4 a0_5 a0_6 a0_7 false _ ?side1 ?side2 ?side3 ?side4 ?side5 ?side6 A3.out).mono ?_); (case side1 => repeat (first | exact (Kd.C_below HR0_2.out HB.out) | exact HR0_2.out | (with_reducible refine Kd.C_alloc ?_ _) | (with_reducible refine Kd.C_drewN ?_ _) | (with_reducible refine Kd.C_drew ?_))); (case side2 => exact HC0_2.out); (case side3 => repeat (first | exact (Kd.C_below HR0_3.out HB.out) | exact HR0_3.out | (with_reducible refine Kd.C_alloc ?_ _) | (with_reducible refine Kd.C_drewN ?_ _) | (with_reducible refine Kd.C_drew ?_))); (case side4 => exact HC0_3.out); (case side5 => repeat (first | exact (Kd.C_below HR0_4.out HB.out) | exact HR0_4.out | (with_reducible refine Kd.C_alloc ?_ _) | (with_reducible refine Kd.C_drewN ?_ _) | (with_reducible refine Kd.C_drew ?_))); (case side6 => exact HC0_4.out); rintro e w80 ⟨rfl, hb⟩; refine ⟨_, rfl, ?_⟩; have n0_ := Aside0.mk (blk_below (g := gb269) (o := (on130_)) (by qk_; exact BK269.out) hb); have n1_ := Aside0.mk (below_step (by qb1_ GE269) hb); clear BK269; clear HB; have BK269 := n0_; have HB := n1_; clear n0_ n1_; (try clear hb); (try clear hb2); (try clear hk); (try clear hi)))
  go_ret
  exact ⟨by first | rfl | (simp [errW_none, errW_some] <;> rfl) | (simp [*, errW_none, errW_some] <;> rfl), by qb1_ GE269⟩
end Go.Proofs.YtbcleckapamicaaDoor.QHe
