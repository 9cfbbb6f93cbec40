/- A part of the proof of the law FrameWrites: QFrx5. -/
import Derived.Test.YtbcleckapamicaaDoorZFw02
namespace Go.Proofs.YtbcleckapamicaaDoor.QFr
open Go.RowKit Go.Proofs.YtbcleckapamicaaDoorW.PrintWords Go.Proofs.YtbcleckapamicaaDoorW.PrintLast Go.Proofs.YtbcleckapamicaaDoorW.PrintMore
attribute [local go_sem] max2_int min2_int max_two min_two max_three min_three max_four min_four
set_option linter.unusedVariables false
set_option linter.unusedSimpArgs false
open Go.Proofs.YtbcleckapamicaaDoor.QVa (shibbolethref01_Size.f shibbolethref01_Size.mono)
set_option hygiene false
local macro "pj90_" : term => `((if x136000 = 7 then (if x136000 = 0 then (shibbolethref06_Right.j1 k x3 (decide (t136 > 0)) false x136000 x136001 x136002 x136003 x136004 x136005) else (if x136000 = 8 then (shibbolethref06_Right.j1 k x3 (decide (t136 > 0)) false x136000 x136001 x136002 x136003 x136004 x136005) else (if x136000 = 28 then (shibbolethref06_Right.j1 k x3 (decide (t136 > 0)) false x136000 x136001 x136002 x136003 x136004 x136005) else (shibbolethref06_Right.j1 k x3 (decide (t136 > 0)) (x136001 != 0) x136000 x136001 x136002 x136003 x136004 x136005)))) else (if x136000 = 8 then (if x136000 = 0 then (shibbolethref06_Right.j1 k x3 (decide (t136 > 0)) false x136000 x136001 x136002 x136003 x136004 x136005) else (shibbolethref06_Right.j1 k x3 (decide (t136 > 0)) false x136000 x136001 x136002 x136003 x136004 x136005)) else (if x136005 = 0 then (if x136000 = 0 then (shibbolethref06_Right.j1 k x3 (decide (t136 > 0)) false x136000 x136001 x136002 x136003 x136004 x136005) else (if x136000 = 28 then (shibbolethref06_Right.j1 k x3 (decide (t136 > 0)) false x136000 x136001 x136002 x136003 x136004 x136005) else (shibbolethref06_Right.j1 k x3 (decide (t136 > 0)) (x136001 != 0) x136000 x136001 x136002 x136003 x136004 x136005))) else (shibbolethref06_Right.j1 k x3 (decide (t136 > 0)) true x136000 x136001 x136002 x136003 x136004 x136005)))))
local macro "pj91_" : term => `((shibbolethref06_Right.j1 k x3 (decide (t136 > 0)) true x136000 x136001 x136002 x136003 x136004 x136005))
set_option hygiene true
mutual
def shibbolethref06_Right.j0 : Nat → Bool → Int → Int → List (S102) → Int → List Int → Int → Option (Bool)
 | 0, _, _, _, _, _, _, _ => none
 | k + 1, x3, x136000, x136001, x136002, x136003, x136004, x136005 => (shibbolethref01_Size.f k x136001).bind fun t136 => (if x136000 = 2 then (if x136000 = 6 then (pj90_) else (if x136003 = 0 then (if (x136004.length : Int) > 0 then (pj91_) else (pj90_)) else (pj91_))) else (if (x136002.length : Int) > 0 then (pj91_) else (if x136000 = 6 then (pj90_) else (if x136003 = 0 then (if (x136004.length : Int) > 0 then (pj91_) else (pj90_)) else (pj91_)))))
def shibbolethref06_Right.j1 : Nat → Bool → Bool → Bool → Int → Int → List (S102) → Int → List Int → Int → Option (Bool)
 | 0, _, _, _, _, _, _, _, _, _ => none
 | k + 1, x3, x4, x78, x136000, x136001, x136002, x136003, x136004, x136005 => if x78 = true then (some false) else (if x136000 = 0 then (if x136001 ≥ 1 then (some (decide (x136001 ≤ 1200))) else (some false)) else (if x136000 = 1 then (shibbolethref06_Right.j2 k x3 x4 x136000 (x136000 == 1) x136000 x136001 x136002 x136003 x136004 x136005) else (shibbolethref06_Right.j2 k x3 x4 x136000 (x136000 == 30) x136000 x136001 x136002 x136003 x136004 x136005)))
def shibbolethref06_Right.j2 : Nat → Bool → Bool → Int → Bool → Int → Int → List (S102) → Int → List Int → Int → Option (Bool)
 | 0, _, _, _, _, _, _, _, _, _, _ => none
 | k + 1, x3, x4, x80, x91, x136000, x136001, x136002, x136003, x136004, x136005 => if x91 = true then (some true) else (if x80 = 2 then (shibbolethref06_Right.l0 k 0 x136000 x136001 x136002 x136003 x136004 x136005) else (if x80 = 6 then (if x136003 ≥ 0 then (if x136003 ≤ 1048576 then (if (x136004.length : Int) ≥ 1 then (some (decide ((x136004.length : Int) ≤ 1000))) else (some false)) else (some false)) else (some false)) else (if x80 = 7 then (some x3) else (if x80 = 8 then (if x3 = true then (some x4) else (some false)) else (if x80 = 28 then (some x4) else (some false))))))
def shibbolethref06_Right.l0 : Nat → Int → Int → Int → List (S102) → Int → List Int → Int → Option (Bool)
 | 0, _, _, _, _, _, _, _ => none
 | k + 1, x5, x136000, x136001, x136002, x136003, x136004, x136005 => if x5 < (x136002.length : Int) then (if 0 ≤ x5 then (if ((rd_T102 x136002 x5).f0) < 0 then (shibbolethref06_Right.j4 k x5 true x136000 x136001 x136002 x136003 x136004 x136005 ((rd_T102 x136002 x5).f0) ((rd_T102 x136002 x5).f1)) else (if ((rd_T102 x136002 x5).f1) < ((rd_T102 x136002 x5).f0) then (shibbolethref06_Right.j4 k x5 true x136000 x136001 x136002 x136003 x136004 x136005 ((rd_T102 x136002 x5).f0) ((rd_T102 x136002 x5).f1)) else ((shibbolethref01_Size.f k ((rd_T102 x136002 x5).f1)).bind fun t139 => (shibbolethref06_Right.j4 k x5 (t139 == 0) x136000 x136001 x136002 x136003 x136004 x136005 ((rd_T102 x136002 x5).f0) ((rd_T102 x136002 x5).f1))))) else (none)) else (if (x136002.length : Int) ≥ 1 then (some (decide ((x136002.length : Int) ≤ 32))) else (some false))
def shibbolethref06_Right.j4 : Nat → Int → Bool → Int → Int → List (S102) → Int → List Int → Int → Int → Int → Option (Bool)
 | 0, _, _, _, _, _, _, _, _, _, _ => none
 | k + 1, x5, x123, x136000, x136001, x136002, x136003, x136004, x136005, x139000, x139001 => if x123 = true then (some false) else (if x5 > 0 then (if 0 ≤ (wrap64 (x5 - 1)) then (if (wrap64 (x5 - 1)) < (x136002.length : Int) then (if ((rd_T102 x136002 (wrap64 (x5 - 1))).f0) < 2 then (some false) else (if x139001 > (wrap64 (((rd_T102 x136002 (wrap64 (x5 - 1))).f0) - 2)) then (some false) else (shibbolethref06_Right.l0 k (wrap64 (x5 + 1)) x136000 x136001 x136002 x136003 x136004 x136005))) else (none)) else (none)) else (shibbolethref06_Right.l0 k (wrap64 (x5 + 1)) x136000 x136001 x136002 x136003 x136004 x136005))
end
def shibbolethref06_Right.f (k : Nat) (a0_0 : Int) (a0_1 : Int) (l0_2 : List (S102)) (a0_3 : Int) (l0_4 : List Int) (a0_5 : Int) : Option (Bool) := if a0_5 ≥ 1 then (shibbolethref06_Right.j0 k (decide (a0_5 ≤ 65536)) a0_0 a0_1 l0_2 a0_3 l0_4 a0_5) else (shibbolethref06_Right.j0 k false a0_0 a0_1 l0_2 a0_3 l0_4 a0_5)
theorem shibbolethref06_Right.mono_l : ∀ k, (∀ y0 y1 y2 y3 y4 y5 y6, LeO (shibbolethref06_Right.j0 k y0 y1 y2 y3 y4 y5 y6) (shibbolethref06_Right.j0 (k + 1) y0 y1 y2 y3 y4 y5 y6)) ∧ (∀ y0 y1 y2 y3 y4 y5 y6 y7 y8, LeO (shibbolethref06_Right.j1 k y0 y1 y2 y3 y4 y5 y6 y7 y8) (shibbolethref06_Right.j1 (k + 1) y0 y1 y2 y3 y4 y5 y6 y7 y8)) ∧ (∀ y0 y1 y2 y3 y4 y5 y6 y7 y8 y9, LeO (shibbolethref06_Right.j2 k y0 y1 y2 y3 y4 y5 y6 y7 y8 y9) (shibbolethref06_Right.j2 (k + 1) y0 y1 y2 y3 y4 y5 y6 y7 y8 y9)) ∧ (∀ y0 y1 y2 y3 y4 y5 y6, LeO (shibbolethref06_Right.l0 k y0 y1 y2 y3 y4 y5 y6) (shibbolethref06_Right.l0 (k + 1) y0 y1 y2 y3 y4 y5 y6)) ∧ (∀ y0 y1 y2 y3 y4 y5 y6 y7 y8 y9, LeO (shibbolethref06_Right.j4 k y0 y1 y2 y3 y4 y5 y6 y7 y8 y9) (shibbolethref06_Right.j4 (k + 1) y0 y1 y2 y3 y4 y5 y6 y7 y8 y9))
 | 0 => ⟨fun _ _ _ _ _ _ _ r h => by simp [shibbolethref06_Right.j0] at h, fun _ _ _ _ _ _ _ _ _ r h => by simp [shibbolethref06_Right.j1] at h, fun _ _ _ _ _ _ _ _ _ _ r h => by simp [shibbolethref06_Right.j2] at h, fun _ _ _ _ _ _ _ r h => by simp [shibbolethref06_Right.l0] at h, fun _ _ _ _ _ _ _ _ _ _ r h => by simp [shibbolethref06_Right.j4] at h⟩
 | k + 1 => by
  obtain ⟨ih0, ih1, ih2, ih3, ih4⟩ := shibbolethref06_Right.mono_l k
  refine ⟨?_, ?_, ?_, ?_, ?_⟩
  ·intro y0 y1 y2 y3 y4 y5 y6
   unfold shibbolethref06_Right.j0
   repeat' first
   | (with_reducible exact ih0 _ _ _ _ _ _ _)
   | (with_reducible exact ih1 _ _ _ _ _ _ _ _ _)
   | (with_reducible exact ih2 _ _ _ _ _ _ _ _ _ _)
   | (with_reducible exact ih3 _ _ _ _ _ _ _)
   | (with_reducible exact ih4 _ _ _ _ _ _ _ _ _ _)
   | (with_reducible exact shibbolethref01_Size.mono _ _)
   | (with_reducible exact LeO.refl _)
   | (with_reducible exact LeO.none _)
   | (with_reducible refine LeO.ite ?_ ?_)
   | (with_reducible refine LeO.bind ?_ (fun _ => ?_))
   | exact ih0 _ _ _ _ _ _ _
   | exact ih1 _ _ _ _ _ _ _ _ _
   | exact ih2 _ _ _ _ _ _ _ _ _ _
   | exact ih3 _ _ _ _ _ _ _
   | exact ih4 _ _ _ _ _ _ _ _ _ _
   | exact shibbolethref01_Size.mono _ _
   | exact LeO.none _
   | refine LeO.ite ?_ ?_
   | refine LeO.bind ?_ (fun _ => ?_)
  ·intro y0 y1 y2 y3 y4 y5 y6 y7 y8
   unfold shibbolethref06_Right.j1
   repeat' first
   | (with_reducible exact ih0 _ _ _ _ _ _ _)
   | (with_reducible exact ih1 _ _ _ _ _ _ _ _ _)
   | (with_reducible exact ih2 _ _ _ _ _ _ _ _ _ _)
   | (with_reducible exact ih3 _ _ _ _ _ _ _)
   | (with_reducible exact ih4 _ _ _ _ _ _ _ _ _ _)
   | (with_reducible exact shibbolethref01_Size.mono _ _)
   | (with_reducible exact LeO.refl _)
   | (with_reducible exact LeO.none _)
   | (with_reducible refine LeO.ite ?_ ?_)
   | (with_reducible refine LeO.bind ?_ (fun _ => ?_))
   | exact ih0 _ _ _ _ _ _ _
   | exact ih1 _ _ _ _ _ _ _ _ _
   | exact ih2 _ _ _ _ _ _ _ _ _ _
   | exact ih3 _ _ _ _ _ _ _
   | exact ih4 _ _ _ _ _ _ _ _ _ _
   | exact shibbolethref01_Size.mono _ _
   | exact LeO.none _
   | refine LeO.ite ?_ ?_
   | refine LeO.bind ?_ (fun _ => ?_)
  ·intro y0 y1 y2 y3 y4 y5 y6 y7 y8 y9
   unfold shibbolethref06_Right.j2
   repeat' first
   | (with_reducible exact ih0 _ _ _ _ _ _ _)
   | (with_reducible exact ih1 _ _ _ _ _ _ _ _ _)
   | (with_reducible exact ih2 _ _ _ _ _ _ _ _ _ _)
   | (with_reducible exact ih3 _ _ _ _ _ _ _)
   | (with_reducible exact ih4 _ _ _ _ _ _ _ _ _ _)
   | (with_reducible exact shibbolethref01_Size.mono _ _)
   | (with_reducible exact LeO.refl _)
   | (with_reducible exact LeO.none _)
   | (with_reducible refine LeO.ite ?_ ?_)
   | (with_reducible refine LeO.bind ?_ (fun _ => ?_))
   | exact ih0 _ _ _ _ _ _ _
   | exact ih1 _ _ _ _ _ _ _ _ _
   | exact ih2 _ _ _ _ _ _ _ _ _ _
   | exact ih3 _ _ _ _ _ _ _
   | exact ih4 _ _ _ _ _ _ _ _ _ _
   | exact shibbolethref01_Size.mono _ _
   | exact LeO.none _
   | refine LeO.ite ?_ ?_
   | refine LeO.bind ?_ (fun _ => ?_)
  ·intro y0 y1 y2 y3 y4 y5 y6
   unfold shibbolethref06_Right.l0
   repeat' first
   | (with_reducible exact ih0 _ _ _ _ _ _ _)
   | (with_reducible exact ih1 _ _ _ _ _ _ _ _ _)
   | (with_reducible exact ih2 _ _ _ _ _ _ _ _ _ _)
   | (with_reducible exact ih3 _ _ _ _ _ _ _)
   | (with_reducible exact ih4 _ _ _ _ _ _ _ _ _ _)
   | (with_reducible exact shibbolethref01_Size.mono _ _)
   | (with_reducible exact LeO.refl _)
   | (with_reducible exact LeO.none _)
   | (with_reducible refine LeO.ite ?_ ?_)
   | (with_reducible refine LeO.bind ?_ (fun _ => ?_))
   | exact ih0 _ _ _ _ _ _ _
   | exact ih1 _ _ _ _ _ _ _ _ _
   | exact ih2 _ _ _ _ _ _ _ _ _ _
   | exact ih3 _ _ _ _ _ _ _
   | exact ih4 _ _ _ _ _ _ _ _ _ _
   | exact shibbolethref01_Size.mono _ _
   | exact LeO.none _
   | refine LeO.ite ?_ ?_
   | refine LeO.bind ?_ (fun _ => ?_)
  ·intro y0 y1 y2 y3 y4 y5 y6 y7 y8 y9
   unfold shibbolethref06_Right.j4
   repeat' first
   | (with_reducible exact ih0 _ _ _ _ _ _ _)
   | (with_reducible exact ih1 _ _ _ _ _ _ _ _ _)
   | (with_reducible exact ih2 _ _ _ _ _ _ _ _ _ _)
   | (with_reducible exact ih3 _ _ _ _ _ _ _)
   | (with_reducible exact ih4 _ _ _ _ _ _ _ _ _ _)
   | (with_reducible exact shibbolethref01_Size.mono _ _)
   | (with_reducible exact LeO.refl _)
   | (with_reducible exact LeO.none _)
   | (with_reducible refine LeO.ite ?_ ?_)
   | (with_reducible refine LeO.bind ?_ (fun _ => ?_))
   | exact ih0 _ _ _ _ _ _ _
   | exact ih1 _ _ _ _ _ _ _ _ _
   | exact ih2 _ _ _ _ _ _ _ _ _ _
   | exact ih3 _ _ _ _ _ _ _
   | exact ih4 _ _ _ _ _ _ _ _ _ _
   | exact shibbolethref01_Size.mono _ _
   | exact LeO.none _
   | refine LeO.ite ?_ ?_
   | refine LeO.bind ?_ (fun _ => ?_)
theorem shibbolethref06_Right.mono : ∀ a0 a1 a2 a3 a4 a5 k, LeO (shibbolethref06_Right.f k a0 a1 a2 a3 a4 a5) (shibbolethref06_Right.f (k + 1) a0 a1 a2 a3 a4 a5) := by
 intro a0 a1 a2 a3 a4 a5 k
 obtain ⟨ih0, ih1, ih2, ih3, ih4⟩ := shibbolethref06_Right.mono_l k
 unfold shibbolethref06_Right.f
 repeat' first
   | (with_reducible exact ih0 _ _ _ _ _ _ _)
   | (with_reducible exact ih1 _ _ _ _ _ _ _ _ _)
   | (with_reducible exact ih2 _ _ _ _ _ _ _ _ _ _)
   | (with_reducible exact ih3 _ _ _ _ _ _ _)
   | (with_reducible exact ih4 _ _ _ _ _ _ _ _ _ _)
   | (with_reducible exact shibbolethref01_Size.mono _ _)
   | (with_reducible exact LeO.refl _)
   | (with_reducible exact LeO.none _)
   | (with_reducible refine LeO.ite ?_ ?_)
   | (with_reducible refine LeO.bind ?_ (fun _ => ?_))
   | exact ih0 _ _ _ _ _ _ _
   | exact ih1 _ _ _ _ _ _ _ _ _
   | exact ih2 _ _ _ _ _ _ _ _ _ _
   | exact ih3 _ _ _ _ _ _ _
   | exact ih4 _ _ _ _ _ _ _ _ _ _
   | exact shibbolethref01_Size.mono _ _
   | exact LeO.none _
   | refine LeO.ite ?_ ?_
   | refine LeO.bind ?_ (fun _ => ?_)
end Go.Proofs.YtbcleckapamicaaDoor.QFr
