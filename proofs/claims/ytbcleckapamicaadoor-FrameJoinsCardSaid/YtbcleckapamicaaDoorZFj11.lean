/- A part of the proof of the law FrameJoins: QFdx4, Opn, PrmFrameJoins, FrP2, FrP3, Tk0, TkP, FdP, FdQ, PureFrameJoins, Tab. -/
import Derived.Test.YtbcleckapamicaaDoorZFj02
import Derived.Test.YtbcleckapamicaaDoorZFj08
import Derived.Test.YtbcleckapamicaaDoorZFj10
import Derived.Test.YtbcleckapamicaaDoorZFj00
import Derived.Deep.Slices
import Derived.WideShapes
import Derived.ProofKit
import Derived.Test.YtbcleckapamicaaDoorZFj09
import Derived.Test.YtbcleckapamicaaDoorRows
import Derived.LaidLaws
import Derived.Lib.LaidTab
import Derived.Stop.LaidErr
namespace Go.Proofs.YtbcleckapamicaaDoor.QFd
open Go.Proofs.YtbcleckapamicaaDoor.QFr (S58 at_T58 k103 k58 k58_openM rd_T58 z58)
open Go.RowKit Go.Proofs.YtbcleckapamicaaDoorW.PrintWords Go.Proofs.YtbcleckapamicaaDoorW.PrintLast Go.Proofs.YtbcleckapamicaaDoorW.PrintMore
attribute [local go_sem] max2_int min2_int max_two min_two max_three min_three max_four min_four
set_option linter.unusedVariables false
set_option linter.unusedSimpArgs false
open Go.Proofs.YtbcleckapamicaaDoor.Gv (TB TB.below TB.alloc TB.drew TB.drewN)
open Go.Proofs.YtbcleckapamicaaDoor.QFr (shibbolethlaw06_awake.f shibbolethlaw06_awake.calls shibbolethlaw06_awake.mono)
open Go.Proofs.YtbcleckapamicaaDoor.Fd (frame_Read.f frame_Read.calls)
set_option hygiene false
local macro "pz250_" : term => `((if t137 = 0 then (if t141 = 0 then (if (t136.length : Int) = 0 then (shibbolethlaw06_FrameJoins.j1 kj2 t136 t140 bt153.1 bt153.2 true) else (if (t140.length : Int) = 0 then (shibbolethlaw06_FrameJoins.j1 kj2 t136 t140 bt153.1 bt153.2 true) else (if 0 ≤ (wrap64 ((t136.length : Int) - 1)) then (if (wrap64 ((t136.length : Int) - 1)) < (t136.length : Int) then (if ((rd_T58 t136 (wrap64 ((t136.length : Int) - 1))).f0) = 0 then (if 0 < (t140.length : Int) then (shibbolethlaw06_FrameJoins.j1 kj2 t136 t140 bt153.1 bt153.2 (((rd_T58 t140 0).f0) == 0)) else (none)) else (shibbolethlaw06_FrameJoins.j1 kj2 t136 t140 bt153.1 bt153.2 false)) else (none)) else (none)))) else (shibbolethlaw06_FrameJoins.j1 kj2 t136 t140 bt153.1 bt153.2 true)) else (shibbolethlaw06_FrameJoins.j1 kj2 t136 t140 bt153.1 bt153.2 true)))
local macro "pz251_" : term => `((by (with_reducible repeat (first | apply Kd.S_alloc | apply Kd.S_drewN | apply Kd.S_drew)); exact HO139.out))
local macro "pz252_" : term => `((by (try simp only [List.map_toArray, List.map_cons, List.map_nil]); first | done | rfl | (simp only [List.length_drop, List.length_take]; rfl)))
local macro "pz253_" : term => `((by (with_reducible repeat (first | apply Kd.S_alloc | apply Kd.S_drewN | apply Kd.S_drew)); exact HO143.out))
local macro "pz254_" : term => `((by first | (with_reducible assumption) | assumption))
local macro "pz255_" : term => `((by first | rfl | (simp; done) | (simp [*]; done)))
local macro "pz256_" : term => `((if y147.length + l1.length < 140737488355328 then ((frame_Read.f (y147 ++ l1)).bind fun bt153 => (pz250_)) else (none)))
local macro "pz257_" : term => `((shibbolethlaw06_FrameJoins.j1 kj2 bt136.1 bt140.1 bt153.1 bt153.2 true))
local macro "pz258_" : term => `((shibbolethlaw06_FrameJoins.j1 k bt136.1 bt140.1 bt153.1 bt153.2 true))
local macro "pz259_" : term => `((shibbolethlaw06_FrameJoins.j1 kj2 t136 bt140.1 bt153.1 bt153.2 true))
local macro "lz250_" : tactic => `(tactic| (exact ⟨by first | rfl | (simp [errW_none, errW_some] <;> rfl) | (simp [*, errW_none, errW_some] <;> rfl), by qc0_⟩))
local macro "lz251_" : tactic => `(tactic| (replace H := Option.bind_eq_some_iff.mp H))
local macro "lz252_" : tactic => `(tactic| (obtain ⟨ad157, A157_2, c157_2, A157_4, c157_4, e157, hx157_0, hx157_1, hx157_2, hx157_3, hx157_4, hx157_5, hl157_2, hi157_2, hl157_4, hi157_4⟩ := at_T58 (Kd.S_reads' HO139.out).2.2 (ji27) p157 q157))
local macro "lz253_" : tactic => `(tactic| (obtain ⟨ce157, hce157, hMe157, hcc157⟩ := Kd.S_get HO139.out z58 (ji27) p157 (by first | exact q157 | exact of_decide_eq_true (pz254_) | (have e_ := (Kd.S_reads' HO139.out).1; omega))))
set_option hygiene true
mutual
def shibbolethlaw06_FrameJoins.j0 : Nat → List Int → List Int → Bool → Option (Bool)
 | 0, _, _, _ => none
 | k + 1, x0, x1, x18 => if x18 = true then (some true) else ((frame_Read.f x0).bind fun bt136 => ((frame_Read.f x1).bind fun bt140 => ((some (([] : List Int) : List Int)).bind fun y144 => (if y144.length + x0.length < 140737488355328 then ((some (y144 ++ x0 : List Int)).bind fun y147 => (if y147.length + x1.length < 140737488355328 then ((frame_Read.f (y147 ++ x1)).bind fun bt153 => (if bt136.2 = 0 then (if bt140.2 = 0 then (if (bt136.1.length : Int) = 0 then (pz258_) else (if (bt140.1.length : Int) = 0 then (pz258_) else (if 0 ≤ (wrap64 ((bt136.1.length : Int) - 1)) then (if (wrap64 ((bt136.1.length : Int) - 1)) < (bt136.1.length : Int) then (if ((rd_T58 bt136.1 (wrap64 ((bt136.1.length : Int) - 1))).f0) = 0 then (if 0 < (bt140.1.length : Int) then (shibbolethlaw06_FrameJoins.j1 k bt136.1 bt140.1 bt153.1 bt153.2 (((rd_T58 bt140.1 0).f0) == 0)) else (none)) else (shibbolethlaw06_FrameJoins.j1 k bt136.1 bt140.1 bt153.1 bt153.2 false)) else (none)) else (none)))) else (pz258_)) else (pz258_))) else (none))) else (none)))))
def shibbolethlaw06_FrameJoins.j1 : Nat → List (S58) → List (S58) → List (S58) → Int → Bool → Option (Bool)
 | 0, _, _, _, _, _ => none
 | k + 1, x5, x7, x9, x10, x70 => if x70 = true then ((shibbolethlaw06_awake.f k).bind fun t159 => (some t159)) else (if x10 = 0 then (if (x9.length : Int) = (wrap64 ((x5.length : Int) + (x7.length : Int))) then ((shibbolethlaw06_awake.f k).bind fun t160 => (some t160)) else (some false)) else (some false))
end
def shibbolethlaw06_FrameJoins.f (k : Nat) (l0 : List Int) (l1 : List Int) : Option (Bool) := if (l0.length : Int) > 600 then (shibbolethlaw06_FrameJoins.j0 k l0 l1 true) else (shibbolethlaw06_FrameJoins.j0 k l0 l1 (decide ((l1.length : Int) > 600)))
theorem shibbolethlaw06_FrameJoins.mono_l : ∀ k, (∀ y0 y1 y2, LeO (shibbolethlaw06_FrameJoins.j0 k y0 y1 y2) (shibbolethlaw06_FrameJoins.j0 (k + 1) y0 y1 y2)) ∧ (∀ y0 y1 y2 y3 y4, LeO (shibbolethlaw06_FrameJoins.j1 k y0 y1 y2 y3 y4) (shibbolethlaw06_FrameJoins.j1 (k + 1) y0 y1 y2 y3 y4))
 | 0 => ⟨fun _ _ _ r h => by simp [shibbolethlaw06_FrameJoins.j0] at h, fun _ _ _ _ _ r h => by simp [shibbolethlaw06_FrameJoins.j1] at h⟩
 | k + 1 => by
  obtain ⟨ih0, ih1⟩ := shibbolethlaw06_FrameJoins.mono_l k
  refine ⟨?_, ?_⟩
  ·intro y0 y1 y2
   unfold shibbolethlaw06_FrameJoins.j0
   repeat' first
   | (with_reducible exact ih0 _ _ _)
   | (with_reducible exact ih1 _ _ _ _ _)
   | (with_reducible exact shibbolethlaw06_awake.mono _)
   | (with_reducible exact LeO.refl _)
   | (with_reducible exact LeO.none _)
   | (with_reducible refine LeO.ite ?_ ?_)
   | (with_reducible refine LeO.bind ?_ (fun _ => ?_))
   | exact ih0 _ _ _
   | exact ih1 _ _ _ _ _
   | exact shibbolethlaw06_awake.mono _
   | exact LeO.none _
   | refine LeO.ite ?_ ?_
   | refine LeO.bind ?_ (fun _ => ?_)
  ·intro y0 y1 y2 y3 y4
   unfold shibbolethlaw06_FrameJoins.j1
   repeat' first
   | (with_reducible exact ih0 _ _ _)
   | (with_reducible exact ih1 _ _ _ _ _)
   | (with_reducible exact shibbolethlaw06_awake.mono _)
   | (with_reducible exact LeO.refl _)
   | (with_reducible exact LeO.none _)
   | (with_reducible refine LeO.ite ?_ ?_)
   | (with_reducible refine LeO.bind ?_ (fun _ => ?_))
   | exact ih0 _ _ _
   | exact ih1 _ _ _ _ _
   | exact shibbolethlaw06_awake.mono _
   | exact LeO.none _
   | refine LeO.ite ?_ ?_
   | refine LeO.bind ?_ (fun _ => ?_)
theorem shibbolethlaw06_FrameJoins.mono : ∀ a0 a1 k, LeO (shibbolethlaw06_FrameJoins.f k a0 a1) (shibbolethlaw06_FrameJoins.f (k + 1) a0 a1) := by
 intro a0 a1 k
 obtain ⟨ih0, ih1⟩ := shibbolethlaw06_FrameJoins.mono_l k
 unfold shibbolethlaw06_FrameJoins.f
 repeat' first
   | (with_reducible exact ih0 _ _ _)
   | (with_reducible exact ih1 _ _ _ _ _)
   | (with_reducible exact shibbolethlaw06_awake.mono _)
   | (with_reducible exact LeO.refl _)
   | (with_reducible exact LeO.none _)
   | (with_reducible refine LeO.ite ?_ ?_)
   | (with_reducible refine LeO.bind ?_ (fun _ => ?_))
   | exact ih0 _ _ _
   | exact ih1 _ _ _ _ _
   | exact shibbolethlaw06_awake.mono _
   | exact LeO.none _
   | refine LeO.ite ?_ ?_
   | refine LeO.bind ?_ (fun _ => ?_)
set_option maxHeartbeats 8000000 in
set_option maxRecDepth 100000 in
theorem shibbolethlaw06_FrameJoins.calls (k : Nat) (A0 : Option Addr) (c0 : Nat) (l0 : List Int) (A1 : Option Addr) (c1 : Nat) (l1 : List Int) (r : Bool) (w : World) (hr0 : Kd.C (Kd.int .u8) w A0 l0.length l0) (hc0 : l0.length ≤ c0) (hr1 : Kd.C (Kd.int .u8) w A1 l1.length l1) (hc1 : l1.length ≤ c1) (ht : TB w) (h : shibbolethlaw06_FrameJoins.f k l0 l1 = some r) :
  Calls Tryd.prog 19 #[.slice A0 l0.length c0, .slice A1 l1.length c1] w fun e w' => e = .returned (.bool r) ∧ Below w.heap.size w w' := by
 have HT := Aside0.mk ht
 clear ht
 have HR0 := Aside0.mk hr0
 have HC0 := Aside0.mk hc0
 clear hr0 hc0
 have HR1 := Aside0.mk hr1
 have HC1 := Aside0.mk hc1
 clear hr1 hc1
 have HB := Aside0.mk (Below.refl w.heap.size w)
 have H : (if (l0.length : Int) > 600 then (shibbolethlaw06_FrameJoins.j0 k l0 l1 true) else (shibbolethlaw06_FrameJoins.j0 k l0 l1 (decide ((l1.length : Int) > 600)))) = some r := h
 clear h
 have HC3 := Aside0.mk H
 clear H
 go_enter Tryd.func19, Tryd.ntmps19
 go_upto_region 1 with (fail)
 go_cut [18] (fun v18 wc => ∃ (kq : Nat) (x18_2 : Bool), v18 = .bool x18_2 ∧ Aside0 (shibbolethlaw06_FrameJoins.j0 kq l0 l1 x18_2 = some r) ∧ Aside0 (kq ≤ k) ∧ Aside0 (Below w.heap.size w wc))
 case first =>
  have H := HC3.out
  clear HC3
  by_cases c4 : (l0.length : Int) > 600
  ·rw [if_pos c4] at H
   have c4b0 : decide (600 < (l0.length : Int)) = true := decide_eq_true c4
   have c4b1 : decide (600 < l0.length) = true := decide_eq_true (by omega)
   clear c4
   (first | rw [c4b0] | (simp only [i64_w, i32_w]; rw [c4b0]) | skip)
   have H' := Aside0.mk H
   clear H
   go_wp2
   go_meet
   case rel => exact ⟨_, (true), (pz255_), H', ⟨by first | omega | exact Nat.le_refl _⟩, ⟨by qc0_⟩⟩
  ·rw [if_neg c4] at H
   have c4b0 : decide (600 < (l0.length : Int)) = false := decide_eq_false c4
   have c4b1 : decide (600 < l0.length) = false := decide_eq_false (by omega)
   clear c4
   (first | rw [c4b0] | (simp only [i64_w, i32_w]; rw [c4b0]) | skip)
   have H' := Aside0.mk H
   clear H
   go_wp2
   go_meet
   case rel => exact ⟨_, (decide ((l1.length : Int) > 600)), (pz255_), H', ⟨by first | omega | exact Nat.le_refl _⟩, ⟨by qc0_⟩⟩
 case rest =>
  clear HC3
  try clear c1
  try clear p2
  try clear c4
  try clear c4b0
  try clear c4b1
  obtain ⟨kq, x18_2, rfl, HA, HJ2, HB⟩ := hcut
  cases kq with
  | zero => exact absurd HA.out (by simp [shibbolethlaw06_FrameJoins.j0])
  | succ kj2 =>
   have H := HA.out
   clear HA
   simp only [shibbolethlaw06_FrameJoins.j0] at H
   by_cases c5 : x18_2 = true
   ·subst c5
    have H1 : (some true) = some r := by rw [if_pos rfl] at H; exact H
    clear H
    have H := H1
    clear H1
    obtain rfl := Option.some.inj H
    go_wp2
    go_ret
    lz250_
   ·replace c5 := Bool.eq_false_iff.mpr c5
    subst c5
    have H1 : ((frame_Read.f l0).bind fun bt136 => ((frame_Read.f l1).bind fun bt140 => ((some (([] : List Int) : List Int)).bind fun y144 => (if y144.length + l0.length < 140737488355328 then ((some (y144 ++ l0 : List Int)).bind fun y147 => (if y147.length + l1.length < 140737488355328 then ((frame_Read.f (y147 ++ l1)).bind fun bt153 => (if bt136.2 = 0 then (if bt140.2 = 0 then (if (bt136.1.length : Int) = 0 then (pz257_) else (if (bt140.1.length : Int) = 0 then (pz257_) else (if 0 ≤ (wrap64 ((bt136.1.length : Int) - 1)) then (if (wrap64 ((bt136.1.length : Int) - 1)) < (bt136.1.length : Int) then (if ((rd_T58 bt136.1 (wrap64 ((bt136.1.length : Int) - 1))).f0) = 0 then (if 0 < (bt140.1.length : Int) then (shibbolethlaw06_FrameJoins.j1 kj2 bt136.1 bt140.1 bt153.1 bt153.2 (((rd_T58 bt140.1 0).f0) == 0)) else (none)) else (shibbolethlaw06_FrameJoins.j1 kj2 bt136.1 bt140.1 bt153.1 bt153.2 false)) else (none)) else (none)))) else (pz257_)) else (pz257_))) else (none))) else (none))))) = some r := by rw [if_neg (show ¬ (false = true) by decide)] at H; exact H
    clear H
    have H := H1
    clear H1
    lz251_
    obtain ⟨⟨t136, t137⟩, A60, H⟩ := H
    replace H : ((frame_Read.f l1).bind fun bt140 => ((some (([] : List Int) : List Int)).bind fun y144 => (if y144.length + l0.length < 140737488355328 then ((some (y144 ++ l0 : List Int)).bind fun y147 => (if y147.length + l1.length < 140737488355328 then ((frame_Read.f (y147 ++ l1)).bind fun bt153 => (if t137 = 0 then (if bt140.2 = 0 then (if (t136.length : Int) = 0 then (pz259_) else (if (bt140.1.length : Int) = 0 then (pz259_) else (if 0 ≤ (wrap64 ((t136.length : Int) - 1)) then (if (wrap64 ((t136.length : Int) - 1)) < (t136.length : Int) then (if ((rd_T58 t136 (wrap64 ((t136.length : Int) - 1))).f0) = 0 then (if 0 < (bt140.1.length : Int) then (shibbolethlaw06_FrameJoins.j1 kj2 t136 bt140.1 bt153.1 bt153.2 (((rd_T58 bt140.1 0).f0) == 0)) else (none)) else (shibbolethlaw06_FrameJoins.j1 kj2 t136 bt140.1 bt153.1 bt153.2 false)) else (none)) else (none)))) else (pz259_)) else (pz259_))) else (none))) else (none)))) = some r := H
    have A6 := Aside0.mk A60
    clear A60
    lz251_
    obtain ⟨⟨t140, t141⟩, A70, H⟩ := H
    replace H : ((some (([] : List Int) : List Int)).bind fun y144 => (if y144.length + l0.length < 140737488355328 then ((some (y144 ++ l0 : List Int)).bind fun y147 => (pz256_)) else (none))) = some r := H
    have A7 := Aside0.mk A70
    clear A70
    obtain ⟨y144, hy144⟩ : ∃ y_ : List Int, y_ = (([] : List Int)) := ⟨_, rfl⟩
    replace H : (if y144.length + l0.length < 140737488355328 then ((some (y144 ++ l0 : List Int)).bind fun y147 => (pz256_)) else (none)) = some r := by first | (rw [hy144]; with_reducible exact H) | (have H2_ := (Option.bind_some _ _).symm.trans H; rw [hy144]; with_reducible exact H2_) | (have H2_ := (Option.bind_some _ _).symm.trans H; with_reducible exact H2_) | with_reducible exact H | (rw [hy144]; exact H) | exact H
    have Ny144 := Aside0.mk hy144
    clear hy144
    by_cases c8 : y144.length + l0.length < 140737488355328
    ·rw [if_pos c8] at H
     have LMc8 := Aside0.mk c8
     clear c8
     obtain ⟨y147, hy147⟩ : ∃ y_ : List Int, y_ = (y144 ++ l0) := ⟨_, rfl⟩
     replace H : (pz256_) = some r := by first | (rw [hy147]; with_reducible exact H) | (have H2_ := (Option.bind_some _ _).symm.trans H; rw [hy147]; with_reducible exact H2_) | (have H2_ := (Option.bind_some _ _).symm.trans H; with_reducible exact H2_) | with_reducible exact H | (rw [hy147]; exact H) | exact H
     have Ny147 := Aside0.mk hy147
     clear hy147
     by_cases c9 : y147.length + l1.length < 140737488355328
     ·rw [if_pos c9] at H
      have LMc9 := Aside0.mk c9
      clear c9
      obtain ⟨y150, hy150⟩ : ∃ y_ : List Int, y_ = (y147 ++ l1) := ⟨_, rfl⟩
      replace H : ((frame_Read.f y150).bind fun bt153 => (pz250_)) = some r := by first | (rw [hy150]; with_reducible exact H) | (have H2_ := (Option.bind_some _ _).symm.trans H; rw [hy150]; with_reducible exact H2_) | (have H2_ := (Option.bind_some _ _).symm.trans H; with_reducible exact H2_) | with_reducible exact H | (rw [hy150]; exact H) | exact H
      have Ny150 := Aside0.mk hy150
      clear hy150
      lz251_
      obtain ⟨⟨t153, t154⟩, A100, H⟩ := H
      replace H : (if t137 = 0 then (if t141 = 0 then (if (t136.length : Int) = 0 then (shibbolethlaw06_FrameJoins.j1 kj2 t136 t140 t153 t154 true) else (if (t140.length : Int) = 0 then (shibbolethlaw06_FrameJoins.j1 kj2 t136 t140 t153 t154 true) else (if 0 ≤ (wrap64 ((t136.length : Int) - 1)) then (if (wrap64 ((t136.length : Int) - 1)) < (t136.length : Int) then (if ((rd_T58 t136 (wrap64 ((t136.length : Int) - 1))).f0) = 0 then (if 0 < (t140.length : Int) then (shibbolethlaw06_FrameJoins.j1 kj2 t136 t140 t153 t154 (((rd_T58 t140 0).f0) == 0)) else (none)) else (shibbolethlaw06_FrameJoins.j1 kj2 t136 t140 t153 t154 false)) else (none)) else (none)))) else (shibbolethlaw06_FrameJoins.j1 kj2 t136 t140 t153 t154 true)) else (shibbolethlaw06_FrameJoins.j1 kj2 t136 t140 t153 t154 true)) = some r := H
      have A10 := Aside0.mk A100
      clear A100
      have HC11 := Aside0.mk H
      clear H
      go_upto_region 6 with (first | ((with_reducible refine gate_callee (f := 54) rfl ?_); refine goesL_ (some 21) rfl rfl Tryd.func54 (by kernel_rfl) rfl #[.slice A0 l0.length c0] rfl (pz252_) ?_; (with_reducible refine (frame_Read.calls _ _ l0 t136 t137 _ ?side1 ?side2 A6.out).mono ?_); (case side1 => repeat (first | exact (Kd.C_below HR0.out HB.out) | exact HR0.out | (with_reducible refine Kd.C_alloc ?_ _) | (with_reducible refine Kd.C_drewN ?_ _) | (with_reducible refine Kd.C_drew ?_))); (case side2 => exact HC0.out); rintro e w12 ⟨v138, rfl, ho0, hb⟩; refine ⟨_, rfl, ?_⟩; have n0_ := Aside0.mk (Kd.S_lower ho0 (below_size (by qc0_))); have n1_ := Aside0.mk (below_step (by qc0_) hb); clear HB; have HO139 := n0_; have HB := n1_; clear n0_ n1_; (try clear hb); (try clear hb2); (try clear hk); (try clear hi); (try clear ho0)) | ((with_reducible refine gate_callee (f := 54) rfl ?_); refine goesL_ (some 26) rfl rfl Tryd.func54 (by kernel_rfl) rfl #[.slice A1 l1.length c1] rfl (pz252_) ?_; (with_reducible refine (frame_Read.calls _ _ l1 t140 t141 _ ?side1 ?side2 A7.out).mono ?_); (case side1 => repeat (first | exact (Kd.C_below HR1.out HB.out) | exact HR1.out | (with_reducible refine Kd.C_alloc ?_ _) | (with_reducible refine Kd.C_drewN ?_ _) | (with_reducible refine Kd.C_drew ?_))); (case side2 => exact HC1.out); rintro e w13 ⟨v142, rfl, ho0, hb⟩; refine ⟨_, rfl, ?_⟩; have n0_ := Aside0.mk (Kd.S_elder' (pz251_) (Kd.S_base ho0) hb); have n1_ := Aside0.mk (Kd.S_lower (Kd.S_new' ho0 (Kd.S_lt (pz251_))) (below_size (by qc0_))); have n2_ := Aside0.mk (below_step (by qc0_) hb); clear HO139; clear HB; have HO139 := n0_; have HO143 := n1_; have HB := n2_; clear n0_ n1_ n2_; (try clear hb); (try clear hb2); (try clear hk); (try clear hi); (try clear ho0)) | ((with_reducible refine gate_dst (N := 30) rfl ?_); (try (refine gate_guard (by rfl) ?_; dsimp only)); refine Kd.R_lit (Kd.int .u8) _ 5 ?hg (N := 30) ?hd (xs := ([] : List Int)) (inner := []) (ok := fun _ => True) (okp := fun _ => True) ?hr ?hp (fun _ hk => hk) trivial (Below.refl _ _) (Nat.le_refl _) (by simp) ?_; (case hd => rfl); (case hg => rfl); (case hr => first | (go_simp; done) | (go_simp; rfl)); (case hp => exact (Reps.none _ _)); intro v145 w14 ho15 hb hg_ hnew_; clear hg_ hnew_; (first | rw [← Ny144.out] at ho15 | (simp only [Int.reduceToNat] at ho15; rw [← Ny144.out] at ho15)); have n0_ := Aside0.mk (Kd.S_elder' (pz251_) (Kd.R_base ho15) hb); have n1_ := Aside0.mk (Kd.S_elder' (pz253_) (Kd.R_base ho15) hb); have n2_ := Aside0.mk (Kd.R_lower ho15 (below_size (by qc0_))); have n3_ := Aside0.mk (below_step (by qc0_) hb); clear HO139; clear HO143; clear HB; have HO139 := n0_; have HO143 := n1_; have HO146 := n2_; have HB := n3_; clear n0_ n1_ n2_ n3_; clear hb ho15) | ((with_reducible refine gate_builtin (b := .append) (xs := #[.tmp 30, .tmp 31]) rfl ?_); (try (refine gate_guard (by rfl) ?_; dsimp only)); at_builtin; refine Kd.R_append_rows (Kd.int .u8) (w0 := w) w.heap.size rfl (.tmp 30) (.tmp 31) 22 5 (.int .u8 0) 1 rfl Tryd.underlying22 info5 rfl (by decide) (by omega) v145 y144 l0 _ _ _ (fun _ => True) (fun _ => False) rfl rfl ?aO ?aR (fun _ _ h => h) (fun _ h => h.elim) ?aF ?aB ?aS ?aL ?_; (case aR => repeat (first | exact (Kd.C_below HR0.out HB.out) | exact HR0.out | (with_reducible refine Kd.C_alloc ?_ _) | (with_reducible refine Kd.C_drewN ?_ _) | (with_reducible refine Kd.C_drew ?_))); (case aB => exact (by qc0_)); (case aF => exact (fun _ _ => trivial)); (case aO => exact (by qR_; exact HO146.out)); (case aS => exact (below_size (by qc0_))); (case aL => have := LMc8.out; omega); intro v148 w16 ho hb hg hat; rw [← Ny147.out] at ho; have n0_ := Aside0.mk (Kd.S_after (ok := (fun k_ => some k_ ≠ (v142 : Value).ownBlock)) (by (with_reducible repeat (first | apply Kd.S_alloc | apply Kd.S_drewN | apply Kd.S_drew)); exact Kd.S_mono HO139.out (fun _ hk => ⟨hk.1.2, hk.2⟩)) hg hat); have n1_ := Aside0.mk (Kd.S_after (ok := (fun k_ => some k_ ≠ (v138 : Value).ownBlock)) (by (with_reducible repeat (first | apply Kd.S_alloc | apply Kd.S_drewN | apply Kd.S_drew)); exact Kd.S_mono HO143.out (fun _ hk => ⟨hk.1.2, hk.2⟩)) hg hat); have n2_ := Aside0.mk (hb); have n3_ := Aside0.mk (ho); clear HO139; clear HO143; clear HB; clear HO146; have HO139 := n0_; have HO143 := n1_; have HB := n2_; have HO149 := n3_; clear n0_ n1_ n2_ n3_; clear ho hb hg hat) | ((with_reducible refine gate_builtin (b := .append) (xs := #[.tmp 32, .tmp 33]) rfl ?_); (try (refine gate_guard (by rfl) ?_; dsimp only)); at_builtin; refine Kd.R_append_rows (Kd.int .u8) (w0 := w) w.heap.size rfl (.tmp 32) (.tmp 33) 22 5 (.int .u8 0) 1 rfl Tryd.underlying22 info5 rfl (by decide) (by omega) v148 y147 l1 _ _ _ (fun _ => True) (fun _ => False) rfl rfl ?aO ?aR (fun _ _ h => h) (fun _ h => h.elim) ?aF ?aB ?aS ?aL ?_; (case aR => repeat (first | exact (Kd.C_below HR1.out HB.out) | exact HR1.out | (with_reducible refine Kd.C_alloc ?_ _) | (with_reducible refine Kd.C_drewN ?_ _) | (with_reducible refine Kd.C_drew ?_))); (case aB => exact (by qc0_)); (case aF => exact (fun _ _ => trivial)); (case aO => exact (by qR_; exact HO149.out)); (case aS => exact (below_size (by qc0_))); (case aL => have := LMc9.out; omega); intro v151 w17 ho hb hg hat; rw [← Ny150.out] at ho; have n0_ := Aside0.mk (Kd.S_after (ok := (fun k_ => some k_ ≠ (v142 : Value).ownBlock)) (pz251_) hg hat); have n1_ := Aside0.mk (Kd.S_after (ok := (fun k_ => some k_ ≠ (v138 : Value).ownBlock)) (pz253_) hg hat); have n2_ := Aside0.mk (hb); have n3_ := Aside0.mk (ho); clear HO139; clear HO143; clear HB; clear HO149; have HO139 := n0_; have HO143 := n1_; have HB := n2_; have HO152 := n3_; clear n0_ n1_ n2_ n3_; clear ho hb hg hat; obtain ⟨Ao18, co18, eo18⟩ := Kd.R_slice HO152.out; subst eo18) | ((with_reducible refine gate_callee (f := 54) rfl ?_); refine goesL_ (some 35) rfl rfl Tryd.func54 (by kernel_rfl) rfl #[.slice Ao18 y150.length co18] rfl (pz252_) ?_; (with_reducible refine (frame_Read.calls _ _ y150 t153 t154 _ ?side1 ?side2 A10.out).mono ?_); (case side1 => repeat (first | exact (Kd.R_reads' HO152.out).2.2 | (with_reducible refine Kd.C_alloc ?_ _) | (with_reducible refine Kd.C_drewN ?_ _) | (with_reducible refine Kd.C_drew ?_))); (case side2 => exact (Kd.R_reads' HO152.out).2.1); rintro e w19 ⟨v155, rfl, ho0, hb⟩; refine ⟨_, rfl, ?_⟩; have n0_ := Aside0.mk (Kd.S_elder' (pz251_) (Kd.S_base ho0) hb); have n1_ := Aside0.mk (Kd.S_elder' (pz253_) (Kd.S_base ho0) hb); have n2_ := Aside0.mk (Kd.R_below (by qR_; exact HO152.out) hb); have n3_ := Aside0.mk (Kd.S_lower (Kd.S_new' (Kd.S_new' (Kd.S_new' ho0 (Kd.S_lt (pz251_))) (Kd.S_lt (pz253_))) (Kd.R_lt (by qR_; exact HO152.out))) (below_size (by qc0_))); have n4_ := Aside0.mk (below_step (by qc0_) hb); clear HO139; clear HO143; clear HO152; clear HB; have HO139 := n0_; have HO143 := n1_; have HO152 := n2_; have HO156 := n3_; have HB := n4_; clear n0_ n1_ n2_ n3_ n4_; (try clear hb); (try clear hb2); (try clear hk); (try clear hi); (try clear ho0)))
      (try simp only [Act.put, List.setIfInBounds_toArray, List.set_cons_zero, List.set_cons_succ])
      go_cut [70] (fun v70 wc => ∃ (kq : Nat) (x70_10 : Bool), v70 = .bool x70_10 ∧ Aside0 (shibbolethlaw06_FrameJoins.j1 kq t136 t140 t153 t154 x70_10 = some r) ∧ Aside0 (kq ≤ kj2) ∧ Aside0 (Kd.S k58 58 wc w.heap.size (fun k_ => some k_ ≠ (v142 : Value).ownBlock ∧ some k_ ≠ (v155 : Value).ownBlock) v138 t136) ∧ Aside0 (Kd.S k58 58 wc w.heap.size (fun k_ => some k_ ≠ (v138 : Value).ownBlock ∧ some k_ ≠ (v155 : Value).ownBlock) v142 t140) ∧ Aside0 (Kd.S k58 58 wc w.heap.size (fun k_ => some k_ ≠ (v138 : Value).ownBlock ∧ some k_ ≠ (v142 : Value).ownBlock) v155 t153) ∧ Aside0 (Below w.heap.size w wc))
      case first =>
       have H := HC11.out
       clear HC11
       by_cases c20 : t137 = 0
       ·rw [if_pos c20] at H
        have c20b0 : (t137 == 0) = true := beq_iff_eq.mpr c20
        have c20b1 : (t137 != 0) = false := bne_eq_false_iff_eq.mpr c20
        clear c20
        (first | rw [c20b0] | (simp only [i64_w, i32_w]; rw [c20b0]) | skip)
        by_cases c21 : t141 = 0
        ·rw [if_pos c21] at H
         have c21b0 : (t141 == 0) = true := beq_iff_eq.mpr c21
         have c21b1 : (t141 != 0) = false := bne_eq_false_iff_eq.mpr c21
         clear c21
         by_cases c22 : (t136.length : Int) = 0
         ·rw [if_pos c22] at H
          have c22b0 : ((t136.length : Int) == 0) = true := beq_iff_eq.mpr c22
          have c22b1 : ((t136.length : Int) != 0) = false := bne_eq_false_iff_eq.mpr c22
          clear c22
          have H' := Aside0.mk H
          clear H
          obtain ⟨Ao23, co23, eo23⟩ := Kd.S_slice HO139.out
          subst eo23
          go_wp2
          go_meet
          case rel => exact ⟨_, (true), (pz255_), H', ⟨by have := HJ2.out; first | omega | exact Nat.le_refl _⟩, ⟨by (with_reducible repeat (first | apply Kd.S_alloc | apply Kd.S_drewN | apply Kd.S_drew)); exact Kd.S_mono HO139.out (fun _ hk => ⟨hk.1.1, hk.2⟩)⟩, ⟨by (with_reducible repeat (first | apply Kd.S_alloc | apply Kd.S_drewN | apply Kd.S_drew)); exact Kd.S_mono HO143.out (fun _ hk => ⟨hk.1.1, hk.2⟩)⟩, ⟨by (with_reducible repeat (first | apply Kd.S_alloc | apply Kd.S_drewN | apply Kd.S_drew)); exact Kd.S_mono HO156.out (fun _ hk => ⟨hk.1.1.2, hk.1.2⟩)⟩, ⟨by qc0_⟩⟩
         ·rw [if_neg c22] at H
          have c22b0 : ((t136.length : Int) == 0) = false := beq_eq_false_iff_ne.mpr c22
          have c22b1 : ((t136.length : Int) != 0) = true := bne_iff_ne.mpr c22
          have c22b2 : ¬ (t136 = []) := fun h_ => c22 (by rw [h_]; rfl)
          by_cases c24 : (t140.length : Int) = 0
          ·rw [if_pos c24] at H
           have c24b0 : ((t140.length : Int) == 0) = true := beq_iff_eq.mpr c24
           have c24b1 : ((t140.length : Int) != 0) = false := bne_eq_false_iff_eq.mpr c24
           clear c24
           have H' := Aside0.mk H
           clear H
           obtain ⟨Ao25, co25, eo25⟩ := Kd.S_slice HO139.out
           subst eo25
           obtain ⟨Ao26, co26, eo26⟩ := Kd.S_slice HO143.out
           subst eo26
           go_wp2
           go_meet
           case rel => exact ⟨_, (true), (pz255_), H', ⟨by have := HJ2.out; first | omega | exact Nat.le_refl _⟩, ⟨by (with_reducible repeat (first | apply Kd.S_alloc | apply Kd.S_drewN | apply Kd.S_drew)); exact Kd.S_mono HO139.out (fun _ hk => ⟨hk.1.1, hk.2⟩)⟩, ⟨by (with_reducible repeat (first | apply Kd.S_alloc | apply Kd.S_drewN | apply Kd.S_drew)); exact Kd.S_mono HO143.out (fun _ hk => ⟨hk.1.1, hk.2⟩)⟩, ⟨by (with_reducible repeat (first | apply Kd.S_alloc | apply Kd.S_drewN | apply Kd.S_drew)); exact Kd.S_mono HO156.out (fun _ hk => ⟨hk.1.1.2, hk.1.2⟩)⟩, ⟨by qc0_⟩⟩
          ·rw [if_neg c24] at H
           have c24b0 : ((t140.length : Int) == 0) = false := beq_eq_false_iff_ne.mpr c24
           have c24b1 : ((t140.length : Int) != 0) = true := bne_iff_ne.mpr c24
           have c24b2 : ¬ (t140 = []) := fun h_ => c24 (by rw [h_]; rfl)
           obtain ⟨ji27, hji27⟩ : ∃ j_ : Int, (wrap64 ((t136.length : Int) - 1)) = j_ := ⟨_, rfl⟩
           replace H : (if 0 ≤ (ji27) then (if (ji27) < (t136.length : Int) then (if ((rd_T58 t136 (ji27)).f0) = 0 then (if 0 < (t140.length : Int) then (shibbolethlaw06_FrameJoins.j1 kj2 t136 t140 t153 t154 (((rd_T58 t140 0).f0) == 0)) else (none)) else (shibbolethlaw06_FrameJoins.j1 kj2 t136 t140 t153 t154 false)) else (none)) else (none)) = some r := by first | (rw [hji27] at H; exact H) | (simp only [hji27] at H ⊢; exact H)
           have hji27w : (IntKind.i64.wrap ((t136.length : Int) - 1)) = ji27 := (i64_w _).trans hji27
           by_cases c28 : 0 ≤ (ji27)
           ·rw [if_pos c28] at H
            have c28b0 : decide (0 ≤ (ji27)) = true := decide_eq_true c28
            clear c28
            by_cases c29 : (ji27) < (t136.length : Int)
            ·rw [if_pos c29] at H
             have c29b0 : decide ((ji27) < (t136.length : Int)) = true := decide_eq_true c29
             clear c29
             by_cases c30 : ((rd_T58 t136 (ji27)).f0) = 0
             ·rw [if_pos c30] at H
              have c30b0 : (((rd_T58 t136 (ji27)).f0) == 0) = true := beq_iff_eq.mpr c30
              have c30b1 : (((rd_T58 t136 (ji27)).f0) != 0) = false := bne_eq_false_iff_eq.mpr c30
              clear c30
              by_cases c31 : 0 < (t140.length : Int)
              ·rw [if_pos c31] at H
               have c31b0 : decide (0 < (t140.length : Int)) = true := decide_eq_true c31
               have c31b1 : decide (0 < t140.length) = true := decide_eq_true (by omega)
               clear c31
               have H' := Aside0.mk H
               clear H
               obtain ⟨Ao32, co32, eo32⟩ := Kd.S_slice HO139.out
               subst eo32
               obtain ⟨Ao33, co33, eo33⟩ := Kd.S_slice HO143.out
               subst eo33
               have p157 : 0 ≤ ((ji27) : Int) := of_decide_eq_true (pz254_)
               have q157 : (ji27) < (t136.length : Int) := of_decide_eq_true (pz254_)
               lz252_
               cases e157
               lz253_
               obtain ⟨ve157_2, ve157_4, rfl, ge157_2, ge157_4⟩ := k58_openM hMe157
               have hv157_2 := hcc157 2 _ rfl
               rw [add_field _ _ 2 (by omega)] at hv157_2
               replace hv157_2 := Option.some.inj (hv157_2.symm.trans hx157_2)
               rw [hv157_2] at ge157_2
               have HL157_2 := Aside0.mk (show Kd.R k103 103 _ _ _ _ ((rd_T58 t136 (ji27)).f2) from ge157_2)
               clear hv157_2 ge157_2
               have hv157_4 := hcc157 4 _ rfl
               rw [add_field _ _ 4 (by omega)] at hv157_4
               replace hv157_4 := Option.some.inj (hv157_4.symm.trans hx157_4)
               rw [hv157_4] at ge157_4
               have HL157_4 := Aside0.mk (show Kd.R (Kd.int .u8) 5 _ _ _ _ ((rd_T58 t136 (ji27)).f4) from ge157_4)
               clear hv157_4 ge157_4
               clear hcc157 hce157
               have HR157_2 := Aside0.mk hi157_2
               have HC157_2 := Aside0.mk hl157_2
               clear hi157_2 hl157_2
               have HR157_4 := Aside0.mk hi157_4
               have HC157_4 := Aside0.mk hl157_4
               clear hi157_4 hl157_4
               replace p157 := eq_true p157
               replace q157 := eq_true q157
               have p158 : 0 ≤ (0 : Int) := (by omega)
               have q158 : 0 < (t140.length : Int) := of_decide_eq_true (pz254_)
               obtain ⟨ad158, A158_2, c158_2, A158_4, c158_4, e158, hx158_0, hx158_1, hx158_2, hx158_3, hx158_4, hx158_5, hl158_2, hi158_2, hl158_4, hi158_4⟩ := at_T58 (Kd.S_reads' HO143.out).2.2 0 p158 q158
               cases e158
               obtain ⟨ce158, hce158, hMe158, hcc158⟩ := Kd.S_get HO143.out z58 0 p158 (by first | exact q158 | exact of_decide_eq_true (pz254_) | (have e_ := (Kd.S_reads' HO143.out).1; omega))
               obtain ⟨ve158_2, ve158_4, rfl, ge158_2, ge158_4⟩ := k58_openM hMe158
               have hv158_2 := hcc158 2 _ rfl
               rw [add_field _ _ 2 (by omega)] at hv158_2
               replace hv158_2 := Option.some.inj (hv158_2.symm.trans hx158_2)
               rw [hv158_2] at ge158_2
               have HL158_2 := Aside0.mk (show Kd.R k103 103 _ _ _ _ ((rd_T58 t140 0).f2) from ge158_2)
               clear hv158_2 ge158_2
               have hv158_4 := hcc158 4 _ rfl
               rw [add_field _ _ 4 (by omega)] at hv158_4
               replace hv158_4 := Option.some.inj (hv158_4.symm.trans hx158_4)
               rw [hv158_4] at ge158_4
               have HL158_4 := Aside0.mk (show Kd.R (Kd.int .u8) 5 _ _ _ _ ((rd_T58 t140 0).f4) from ge158_4)
               clear hv158_4 ge158_4
               clear hcc158 hce158
               have qi158 : (0 < t140.length) = True := eq_true (by omega)
               (try rw [show ((0 : Int)).toNat = 0 from rfl] at hx158_0)
               (try rw [show 0 * 6 = 0 from rfl] at hx158_0)
               (try rw [Addr.add_zero'] at hx158_0)
               (try rw [show ((0 : Int)).toNat = 0 from rfl] at hx158_1)
               (try rw [show 0 * 6 = 0 from rfl] at hx158_1)
               (try rw [Addr.add_zero'] at hx158_1)
               (try rw [show ((0 : Int)).toNat = 0 from rfl] at hx158_2)
               (try rw [show 0 * 6 = 0 from rfl] at hx158_2)
               (try rw [Addr.add_zero'] at hx158_2)
               (try rw [show ((0 : Int)).toNat = 0 from rfl] at hx158_3)
               (try rw [show 0 * 6 = 0 from rfl] at hx158_3)
               (try rw [Addr.add_zero'] at hx158_3)
               (try rw [show ((0 : Int)).toNat = 0 from rfl] at hx158_4)
               (try rw [show 0 * 6 = 0 from rfl] at hx158_4)
               (try rw [Addr.add_zero'] at hx158_4)
               (try rw [show ((0 : Int)).toNat = 0 from rfl] at hx158_5)
               (try rw [show 0 * 6 = 0 from rfl] at hx158_5)
               (try rw [Addr.add_zero'] at hx158_5)
               have HR158_2 := Aside0.mk hi158_2
               have HC158_2 := Aside0.mk hl158_2
               clear hi158_2 hl158_2
               have HR158_4 := Aside0.mk hi158_4
               have HC158_4 := Aside0.mk hl158_4
               clear hi158_4 hl158_4
               replace p158 := eq_true p158
               replace q158 := eq_true q158
               go_wp2
               go_meet
               case rel => exact ⟨_, ((((rd_T58 t140 0).f0) == 0)), (pz255_), H', ⟨by have := HJ2.out; first | omega | exact Nat.le_refl _⟩, ⟨by (with_reducible repeat (first | apply Kd.S_alloc | apply Kd.S_drewN | apply Kd.S_drew)); exact Kd.S_mono HO139.out (fun _ hk => ⟨hk.1.1, hk.2⟩)⟩, ⟨by (with_reducible repeat (first | apply Kd.S_alloc | apply Kd.S_drewN | apply Kd.S_drew)); exact Kd.S_mono HO143.out (fun _ hk => ⟨hk.1.1, hk.2⟩)⟩, ⟨by (with_reducible repeat (first | apply Kd.S_alloc | apply Kd.S_drewN | apply Kd.S_drew)); exact Kd.S_mono HO156.out (fun _ hk => ⟨hk.1.1.2, hk.1.2⟩)⟩, ⟨by qc0_⟩⟩
              ·rw [if_neg c31] at H
               exact absurd H (by simp)
             ·rw [if_neg c30] at H
              have c30b0 : (((rd_T58 t136 (ji27)).f0) == 0) = false := beq_eq_false_iff_ne.mpr c30
              have c30b1 : (((rd_T58 t136 (ji27)).f0) != 0) = true := bne_iff_ne.mpr c30
              have H' := Aside0.mk H
              clear H
              obtain ⟨Ao34, co34, eo34⟩ := Kd.S_slice HO139.out
              subst eo34
              obtain ⟨Ao35, co35, eo35⟩ := Kd.S_slice HO143.out
              subst eo35
              have p157 : 0 ≤ ((ji27) : Int) := of_decide_eq_true (pz254_)
              have q157 : (ji27) < (t136.length : Int) := of_decide_eq_true (pz254_)
              lz252_
              cases e157
              lz253_
              obtain ⟨ve157_2, ve157_4, rfl, ge157_2, ge157_4⟩ := k58_openM hMe157
              have hv157_2 := hcc157 2 _ rfl
              rw [add_field _ _ 2 (by omega)] at hv157_2
              replace hv157_2 := Option.some.inj (hv157_2.symm.trans hx157_2)
              rw [hv157_2] at ge157_2
              have HL157_2 := Aside0.mk (show Kd.R k103 103 _ _ _ _ ((rd_T58 t136 (ji27)).f2) from ge157_2)
              clear hv157_2 ge157_2
              have hv157_4 := hcc157 4 _ rfl
              rw [add_field _ _ 4 (by omega)] at hv157_4
              replace hv157_4 := Option.some.inj (hv157_4.symm.trans hx157_4)
              rw [hv157_4] at ge157_4
              have HL157_4 := Aside0.mk (show Kd.R (Kd.int .u8) 5 _ _ _ _ ((rd_T58 t136 (ji27)).f4) from ge157_4)
              clear hv157_4 ge157_4
              clear hcc157 hce157
              have HR157_2 := Aside0.mk hi157_2
              have HC157_2 := Aside0.mk hl157_2
              clear hi157_2 hl157_2
              have HR157_4 := Aside0.mk hi157_4
              have HC157_4 := Aside0.mk hl157_4
              clear hi157_4 hl157_4
              replace p157 := eq_true p157
              replace q157 := eq_true q157
              go_wp2
              go_meet
              case rel => exact ⟨_, (false), (pz255_), H', ⟨by have := HJ2.out; first | omega | exact Nat.le_refl _⟩, ⟨by (with_reducible repeat (first | apply Kd.S_alloc | apply Kd.S_drewN | apply Kd.S_drew)); exact Kd.S_mono HO139.out (fun _ hk => ⟨hk.1.1, hk.2⟩)⟩, ⟨by (with_reducible repeat (first | apply Kd.S_alloc | apply Kd.S_drewN | apply Kd.S_drew)); exact Kd.S_mono HO143.out (fun _ hk => ⟨hk.1.1, hk.2⟩)⟩, ⟨by (with_reducible repeat (first | apply Kd.S_alloc | apply Kd.S_drewN | apply Kd.S_drew)); exact Kd.S_mono HO156.out (fun _ hk => ⟨hk.1.1.2, hk.1.2⟩)⟩, ⟨by qc0_⟩⟩
            ·rw [if_neg c29] at H
             exact absurd H (by simp)
           ·rw [if_neg c28] at H
            exact absurd H (by simp)
        ·rw [if_neg c21] at H
         have c21b0 : (t141 == 0) = false := beq_eq_false_iff_ne.mpr c21
         have c21b1 : (t141 != 0) = true := bne_iff_ne.mpr c21
         have H' := Aside0.mk H
         clear H
         go_wp2
         go_meet
         case rel => exact ⟨_, (true), (pz255_), H', ⟨by have := HJ2.out; first | omega | exact Nat.le_refl _⟩, ⟨by (with_reducible repeat (first | apply Kd.S_alloc | apply Kd.S_drewN | apply Kd.S_drew)); exact Kd.S_mono HO139.out (fun _ hk => ⟨hk.1.1, hk.2⟩)⟩, ⟨by (with_reducible repeat (first | apply Kd.S_alloc | apply Kd.S_drewN | apply Kd.S_drew)); exact Kd.S_mono HO143.out (fun _ hk => ⟨hk.1.1, hk.2⟩)⟩, ⟨by (with_reducible repeat (first | apply Kd.S_alloc | apply Kd.S_drewN | apply Kd.S_drew)); exact Kd.S_mono HO156.out (fun _ hk => ⟨hk.1.1.2, hk.1.2⟩)⟩, ⟨by qc0_⟩⟩
       ·rw [if_neg c20] at H
        have c20b0 : (t137 == 0) = false := beq_eq_false_iff_ne.mpr c20
        have c20b1 : (t137 != 0) = true := bne_iff_ne.mpr c20
        (first | rw [c20b0] | (simp only [i64_w, i32_w]; rw [c20b0]) | skip)
        have H' := Aside0.mk H
        clear H
        go_wp2
        go_meet
        case rel => exact ⟨_, (true), (pz255_), H', ⟨by have := HJ2.out; first | omega | exact Nat.le_refl _⟩, ⟨by (with_reducible repeat (first | apply Kd.S_alloc | apply Kd.S_drewN | apply Kd.S_drew)); exact Kd.S_mono HO139.out (fun _ hk => ⟨hk.1.1, hk.2⟩)⟩, ⟨by (with_reducible repeat (first | apply Kd.S_alloc | apply Kd.S_drewN | apply Kd.S_drew)); exact Kd.S_mono HO143.out (fun _ hk => ⟨hk.1.1, hk.2⟩)⟩, ⟨by (with_reducible repeat (first | apply Kd.S_alloc | apply Kd.S_drewN | apply Kd.S_drew)); exact Kd.S_mono HO156.out (fun _ hk => ⟨hk.1.1.2, hk.1.2⟩)⟩, ⟨by qc0_⟩⟩
      case rest =>
       clear HC11
       try clear c1
       try clear p1
       try clear q1
       try clear hx1
       try clear qi1
       try clear c2
       try clear p2
       try clear c3
       try clear c4
       try clear c4b0
       try clear c4b1
       try clear c5
       try clear p6
       try clear c8
       try clear c9
       try clear c15
       try clear p15
       try clear q15
       try clear hx15
       try clear qi15
       try clear c19
       try clear c20
       try clear c20b0
       try clear c20b1
       try clear c21
       try clear c21b0
       try clear c21b1
       try clear c22
       try clear c22b0
       try clear c22b1
       try clear c22b2
       try clear c24
       try clear c24b0
       try clear c24b1
       try clear c24b2
       try clear c28
       try clear c28b0
       try clear c29
       try clear c29b0
       try clear c30
       try clear c30b0
       try clear c30b1
       try clear c31
       try clear c31b0
       try clear c31b1
       try clear hx157_0
       try clear hx157_1
       try clear hx157_2
       try clear hx157_3
       try clear hx157_4
       try clear hx157_5
       try clear hx158_0
       try clear hx158_1
       try clear hx158_2
       try clear hx158_3
       try clear hx158_4
       try clear hx158_5
       try clear p157
       try clear p158
       try clear p2
       try clear q157
       try clear q158
       obtain ⟨kq, x70_10, rfl, HA, HJ10, HO_5, HO_7, HO_9, HB⟩ := hcut
       cases kq with
       | zero => exact absurd HA.out (by simp [shibbolethlaw06_FrameJoins.j1])
       | succ kj10 =>
        have H := HA.out
        clear HA
        simp only [shibbolethlaw06_FrameJoins.j1] at H
        by_cases c36 : x70_10 = true
        ·subst c36
         have H1 : ((shibbolethlaw06_awake.f kj10).bind fun t159 => (some t159)) = some r := by rw [if_pos rfl] at H; exact H
         clear H
         have H := H1
         clear H1
         lz251_
         obtain ⟨t159, A370, H⟩ := H
         replace H : (some t159) = some r := H
         have A37 := Aside0.mk A370
         clear A370
         obtain rfl := Option.some.inj H
         go_wp2_with (first | ((with_reducible refine gate_callee (f := 49) rfl ?_); refine goesL_ (some 71) rfl rfl Tryd.func49 (by kernel_rfl) rfl #[] rfl (pz252_) ?_; (with_reducible refine (shibbolethlaw06_awake.calls kj10  t159 _ ?sideT A37.out).mono ?_); (case sideT => repeat (first | exact HT.out | exact TB.below HT.out HB.out | exact TB.below HT.out HBW.out | (with_reducible refine TB.alloc ?_ _) | (with_reducible refine TB.drewN ?_ _) | (with_reducible refine TB.drew ?_))); rintro e w38 ⟨rfl, hb⟩; refine ⟨_, rfl, ?_⟩; have n0_ := Aside0.mk (Kd.S_below (by (with_reducible repeat (first | apply Kd.S_alloc | apply Kd.S_drewN | apply Kd.S_drew)); exact HO_5.out) hb); have n1_ := Aside0.mk (Kd.S_below (by (with_reducible repeat (first | apply Kd.S_alloc | apply Kd.S_drewN | apply Kd.S_drew)); exact HO_7.out) hb); have n2_ := Aside0.mk (Kd.S_below (by (with_reducible repeat (first | apply Kd.S_alloc | apply Kd.S_drewN | apply Kd.S_drew)); exact HO_9.out) hb); have n3_ := Aside0.mk (below_step (by qc0_) hb); clear HO_5; clear HO_7; clear HO_9; clear HB; have HO_5 := n0_; have HO_7 := n1_; have HO_9 := n2_; have HB := n3_; clear n0_ n1_ n2_ n3_; (try clear hb); (try clear hb2); (try clear hk); (try clear hi)))
         go_ret
         lz250_
        ·replace c36 := Bool.eq_false_iff.mpr c36
         subst c36
         have H1 : (if t154 = 0 then (if (t153.length : Int) = (wrap64 ((t136.length : Int) + (t140.length : Int))) then ((shibbolethlaw06_awake.f kj10).bind fun t160 => (some t160)) else (some false)) else (some false)) = some r := by rw [if_neg (show ¬ (false = true) by decide)] at H; exact H
         clear H
         have H := H1
         clear H1
         by_cases c39 : t154 = 0
         ·rw [if_pos c39] at H
          have c39b0 : (t154 == 0) = true := beq_iff_eq.mpr c39
          have c39b1 : (t154 != 0) = false := bne_eq_false_iff_eq.mpr c39
          clear c39
          by_cases c40 : (t153.length : Int) = (wrap64 ((t136.length : Int) + (t140.length : Int)))
          ·rw [if_pos c40] at H
           have c40b0 : ((t153.length : Int) == (wrap64 ((t136.length : Int) + (t140.length : Int)))) = true := beq_iff_eq.mpr c40
           have c40b1 : ((t153.length : Int) != (wrap64 ((t136.length : Int) + (t140.length : Int)))) = false := bne_eq_false_iff_eq.mpr c40
           clear c40
           lz251_
           obtain ⟨t160, A410, H⟩ := H
           replace H : (some t160) = some r := H
           have A41 := Aside0.mk A410
           clear A410
           obtain rfl := Option.some.inj H
           obtain ⟨Ao42, co42, eo42⟩ := Kd.S_slice HO_9.out
           subst eo42
           obtain ⟨Ao43, co43, eo43⟩ := Kd.S_slice HO_5.out
           subst eo43
           obtain ⟨Ao44, co44, eo44⟩ := Kd.S_slice HO_7.out
           subst eo44
           go_wp2_with (first | (go_at_call 49; (with_reducible refine (shibbolethlaw06_awake.calls kj10  t160 _ ?sideT A41.out).mono ?_); (case sideT => repeat (first | exact HT.out | exact TB.below HT.out HB.out | exact TB.below HT.out HBW.out | (with_reducible refine TB.alloc ?_ _) | (with_reducible refine TB.drewN ?_ _) | (with_reducible refine TB.drew ?_))); rintro e w45 ⟨rfl, hb⟩; have n0_ := Aside0.mk (Kd.S_below (by (with_reducible repeat (first | apply Kd.S_alloc | apply Kd.S_drewN | apply Kd.S_drew)); exact HO_5.out) hb); have n1_ := Aside0.mk (Kd.S_below (by (with_reducible repeat (first | apply Kd.S_alloc | apply Kd.S_drewN | apply Kd.S_drew)); exact HO_7.out) hb); have n2_ := Aside0.mk (Kd.S_below (by (with_reducible repeat (first | apply Kd.S_alloc | apply Kd.S_drewN | apply Kd.S_drew)); exact HO_9.out) hb); have n3_ := Aside0.mk (below_step (by qc0_) hb); clear HO_5; clear HO_7; clear HO_9; clear HB; have HO_5 := n0_; have HO_7 := n1_; have HO_9 := n2_; have HB := n3_; clear n0_ n1_ n2_ n3_; (try clear hb); (try clear hb2); (try clear hk); (try clear hi)))
           go_ret
           lz250_
          ·rw [if_neg c40] at H
           have c40b0 : ((t153.length : Int) == (wrap64 ((t136.length : Int) + (t140.length : Int)))) = false := beq_eq_false_iff_ne.mpr c40
           have c40b1 : ((t153.length : Int) != (wrap64 ((t136.length : Int) + (t140.length : Int)))) = true := bne_iff_ne.mpr c40
           obtain rfl := Option.some.inj H
           obtain ⟨Ao46, co46, eo46⟩ := Kd.S_slice HO_9.out
           subst eo46
           obtain ⟨Ao47, co47, eo47⟩ := Kd.S_slice HO_5.out
           subst eo47
           obtain ⟨Ao48, co48, eo48⟩ := Kd.S_slice HO_7.out
           subst eo48
           go_wp2
           go_ret
           lz250_
         ·rw [if_neg c39] at H
          have c39b0 : (t154 == 0) = false := beq_eq_false_iff_ne.mpr c39
          have c39b1 : (t154 != 0) = true := bne_iff_ne.mpr c39
          obtain rfl := Option.some.inj H
          go_wp2
          go_ret
          lz250_
     ·rw [if_neg c9] at H
      exact absurd H (by simp)
    ·rw [if_neg c8] at H
     exact absurd H (by simp)
def shibbolethlaw06_FrameJoins.Pure : Prop := ∀ (l0 : List Int) (l1 : List Int), l0.length ≤ maxLen → l0.length * 1 ≤ 140737488351232 → (∀ x ∈ l0, (Lit.int .u8 x).wf = true) → l1.length ≤ maxLen → l1.length * 1 ≤ 140737488351232 → (∀ x ∈ l1, (Lit.int .u8 x).wf = true) → ∃ k, shibbolethlaw06_FrameJoins.f k l0 l1 = some true
end Go.Proofs.YtbcleckapamicaaDoor.QFd
namespace Go.Proofs.YtbcleckapamicaaDoor.Opn
open Go.RowKit Go.Proofs.YtbcleckapamicaaDoorW.PrintWords
set_option linter.unusedVariables false
variable {P : Program}
def Opens (P : Program) (t : TypeId) {α : Type} (d : Kd α) (ok : α → Prop) : Prop :=
  ∀ (H : Type) (enc : TypeId × Value → H) (w : World) (base : Nat) (spare : Nat → Bool) (held : Bool) (fuel : Nat) (cs : List Value) (x : DataW H × List MemPlace),
    DataW.trod enc P w base spare held fuel t cs = some x → ∃ a, d.K w a cs ∧ ok a
theorem Opens.int {t : TypeId} {k : IntKind} (ht : P.underlying t = some (.int k)) : Opens P t (Kd.int k) (fun n => (Lit.int k n).wf = true) := by
  intro H enc w base spare held fuel cs x h
  obtain ⟨n, rfl, _, hw⟩ := DataW.trod_int ht h
  exact ⟨n, rfl, hw⟩
theorem Opens.bool {t : TypeId} (ht : P.underlying t = some .bool) : Opens P t Kd.bool (fun _ => True) := by
  intro H enc w base spare held fuel cs x h
  obtain ⟨b, rfl, _⟩ := DataW.trod_bool ht h
  exact ⟨b, rfl, trivial⟩
theorem Opens.slice {t e : TypeId} {α : Type} {d : Kd α} {ok : α → Prop} (ht : P.underlying t = some (.slice e)) (hs : P.cellsOf e = d.sz) (he : Opens P e d ok) :
    Opens P t (Kd.slice e d) (fun xs => xs.length ≤ 9223372036854775807 ∧ ∀ x ∈ xs, ok x) := by
  classical
  intro H enc w base spare held fuel cs x h
  rcases Go.Deep.open_slice ht h with ⟨rfl, _⟩ | ⟨a, len, cap, m, n, D, Pl, rfl, hb, hl, hm, hmm, _, hx⟩
  · exact ⟨[], ⟨none, 0, rfl, by simp, Kd.C_nil d w⟩, by simp, by simp⟩
  · have hlm : len ≤ m := by rw [hmm]; split <;> omega
    have hex : ∀ i, i < len → ∃ p : α, (∃ c, c.length = d.sz ∧ d.K w p c ∧ ∀ j u, c[j]? = some u → w.cell? (a.add (i * d.sz + j)) = some u) ∧ ok p := by
      intro i hi
      obtain ⟨c, hc1, hc2⟩ := hx i (by omega)
      obtain ⟨_, hlen, hcell⟩ := World.cells?_some hc1
      obtain ⟨p, hK, ho⟩ := he H enc w base spare held n c _ hc2
      rw [hs] at hlen hcell
      refine ⟨p, ⟨c, hlen, hK, fun j u hj => ?_⟩, ho⟩
      have hjl : j < d.sz := by
        rcases Nat.lt_or_ge j c.length with h1 | h1
        · omega
        · rw [List.getElem?_eq_none h1] at hj; cases hj
      have := hcell j hjl
      rw [Addr.add_add] at this
      rw [this, hj]
    have hmax : len ≤ 9223372036854775807 := by have := hm; simp only [maxLen] at this; omega
    have hL : ∃ l : List α, l.length = len ∧ ∀ (i : Nat) (p : α), l[i]? = some p → (∃ c, c.length = d.sz ∧ d.K w p c ∧ ∀ j u, c[j]? = some u → w.cell? (a.add (i * d.sz + j)) = some u) ∧ ok p := by
      refine ⟨List.ofFn (fun i : Fin len => Classical.choose (hex i.1 i.2)), by simp, fun i p hp => ?_⟩
      rw [List.getElem?_ofFn] at hp
      split at hp
      · rename_i hi
        obtain rfl := Option.some.inj hp
        exact Classical.choose_spec (hex i hi)
      · cases hp
    obtain ⟨l, hlen, hall⟩ := hL
    refine ⟨l, ⟨some a, cap, by rw [hlen], by omega, hlen ▸ rfl, by omega, fun _ => ⟨a, rfl, fun j p hp => (hall j p hp).1⟩⟩, by omega, fun p hp => ?_⟩
    obtain ⟨i, hi, rfl⟩ := List.mem_iff_getElem.1 hp
    exact (hall i _ (List.getElem?_eq_getElem hi)).2
def OpensF (P : Program) (fs : List Field) (off : Nat) {α : Type} (d : Kd α) (ok : α → Prop) : Prop :=
  ∀ (H : Type) (enc : TypeId × Value → H) (w : World) (base : Nat) (spare : Nat → Bool) (held : Bool) (n : Nat) (cs : List Value), cs.length = off + d.sz →
    (∀ f, f ∈ fs → ∃ y, DataW.trod enc P w base spare held n f.type ((cs.drop f.offset).take (P.cellsOf f.type)) = some y) → ∃ a, d.K w a (cs.drop off) ∧ ok a
theorem OpensF.last {f : Field} {off : Nat} {α : Type} {d : Kd α} {ok : α → Prop} (ho : f.offset = off) (hc : P.cellsOf f.type = d.sz) (h : Opens P f.type d ok) : OpensF P [f] off d ok := by
  intro H enc w base spare held n cs hl hf
  obtain ⟨y, hy⟩ := hf f (List.mem_singleton.2 rfl)
  rw [ho, hc, List.take_of_length_le (by simp; omega)] at hy
  exact h H enc w base spare held n _ _ hy
theorem OpensF.cons {f : Field} {fs : List Field} {off : Nat} {α β : Type} {d : Kd α} {d' : Kd β} {ok : α → Prop} {ok' : β → Prop} (ho : f.offset = off) (hc : P.cellsOf f.type = d.sz) (h : Opens P f.type d ok) (h' : OpensF P fs (off + d.sz) d' ok') :
    OpensF P (f :: fs) off (Kd.pair d d') (fun p => ok p.1 ∧ ok' p.2) := by
  intro H enc w base spare held n cs hl hf
  have hl' : cs.length = off + (d.sz + d'.sz) := hl
  obtain ⟨y, hy⟩ := hf f (List.mem_cons_self ..)
  rw [ho, hc] at hy
  obtain ⟨a, hK, hok⟩ := h H enc w base spare held n _ _ hy
  obtain ⟨b, hK', hok'⟩ := h' H enc w base spare held n cs (by omega) (fun g hg => hf g (List.mem_cons_of_mem _ hg))
  refine ⟨(a, b), ⟨_, _, ?_, hK, hK'⟩, hok, hok'⟩
  rw [← List.drop_drop, List.take_append_drop]
theorem OpensF.iso {fs : List Field} {off : Nat} {α β : Type} {d : Kd α} {ok : α → Prop} {f : β → α} (g : α → β) (hg : ∀ a, f (g a) = a) (h : OpensF P fs off d ok) : OpensF P fs off (Kd.iso d f) (fun b => ok (f b)) := by
  intro H enc w base spare held n cs hl hf
  obtain ⟨a, hK, hok⟩ := h H enc w base spare held n cs hl hf
  exact ⟨g a, by show d.K w (f (g a)) _; rw [hg]; exact hK, by show ok (f (g a)); rw [hg]; exact hok⟩
theorem Opens.struct {t : TypeId} {fs : Array Field} {α : Type} {d : Kd α} {ok : α → Prop} (ht : P.underlying t = some (.struct fs)) (hs : P.cellsOf t = d.sz) (h : OpensF P fs.toList 0 d ok) : Opens P t d ok := by
  intro H enc w base spare held fuel cs x hx
  obtain ⟨xs, n, _, _, hl, hlen, hf⟩ := DataW.trod_struct ht hx
  have := h H enc w base spare held n cs (by rw [hl, hs]; omega) (fun f hm => ?_)
  · rwa [List.drop_zero] at this
  · obtain ⟨i, hi, rfl⟩ := List.mem_iff_getElem.1 hm
    have hi' : i < fs.size := by simpa using hi
    have := hf i fs[i] (by simp [hi'])
    refine ⟨xs[i]'(by omega), ?_⟩
    rw [List.getElem?_eq_getElem (show i < xs.length by omega)] at this
    simpa using this
theorem Opens.value {t : TypeId} {α : Type} {d : Kd α} {ok : α → Prop} (h : Opens P t d ok) {H : Type} {enc : TypeId × Value → H} {w : World} {base : Nat} {spare : Nat → Bool} {held : Bool} {v : Value} {x : DataW H} {ps : List MemPlace} (hv : DataW.Trod enc P w base spare held t v x ps) :
    ∃ a, d.K w a v.cells.toList ∧ ok a := by
  obtain ⟨fuel, hf⟩ := hv
  exact h H enc w base spare held fuel _ _ hf
theorem Opens.sliceValue {t e : TypeId} {α : Type} {d : Kd α} {ok : List α → Prop} (h : Opens P t (Kd.slice e d) ok) {H : Type} {enc : TypeId × Value → H} {w : World} {base : Nat} {spare : Nat → Bool} {held : Bool} {a : Option Addr} {len cap : Nat} {x : DataW H} {ps : List MemPlace} (hv : DataW.Trod enc P w base spare held t (.slice a len cap) x ps) :
    ∃ l : List α, len = l.length ∧ l.length ≤ cap ∧ d.C w a l.length l ∧ ok l := by
  obtain ⟨l, ⟨A, c, hcs, hl, hC⟩, ho⟩ := h.value hv
  simp [Value.cells] at hcs
  obtain ⟨rfl, rfl, rfl⟩ := hcs
  exact ⟨l, rfl, hl, hC, ho⟩
end Go.Proofs.YtbcleckapamicaaDoor.Opn
namespace Go.Proofs.YtbcleckapamicaaDoor.frameJoinsPrm
open Go.RowKit Go.Proofs.YtbcleckapamicaaDoorW.PrintWords Go.Proofs.YtbcleckapamicaaDoor.QFd Go.Proofs.YtbcleckapamicaaDoor.Opn Go.Proofs.YtbcleckapamicaaDoor.QFr
set_option linter.unusedVariables false
def ok5 : Int → Prop := fun n => (Lit.int .u8 n).wf = true
theorem opens_ok5 : Opens Tryd.prog 5 (Kd.int .u8) ok5 := Opens.int Tryd.underlying5
def ok22 : List (Int) → Prop := fun xs => xs.length ≤ 9223372036854775807 ∧ ∀ x ∈ xs, ok5 x
theorem opens_ok22 : Opens Tryd.prog 22 (Kd.slice 5 (Kd.int .u8)) ok22 := Opens.slice Tryd.underlying22 (by kernel_rfl) opens_ok5
def Pure : Prop := ∀ (x0 : List (Int)) (x1 : List (Int)), ok22 x0 → ok22 x1 → ∃ k, shibbolethlaw06_FrameJoins.f k x0 x1 = some true
end Go.Proofs.YtbcleckapamicaaDoor.frameJoinsPrm
namespace Go.Proofs.YtbcleckapamicaaDoor.FrP
open Go.RowKit Go.Proofs.YtbcleckapamicaaDoorW.PrintWords Go.Proofs.YtbcleckapamicaaDoorW.PrintLast Go.Proofs.YtbcleckapamicaaDoorW.PrintMore Go.Proofs.YtbcleckapamicaaDoor.QFr Go.Proofs.YtbcleckapamicaaDoor.Vn
open Go.Proofs.YtbcleckapamicaaDoor.Gv (varint_Size.f)
open Go.Proofs.YtbcleckapamicaaDoor.Gf (ideal_Number.f tbytes)
open Go.Proofs.YtbcleckapamicaaDoor.QVa (varint_Append.f varint_Give.f shibbolethref01_Size.f)
open Go.Proofs.YtbcleckapamicaaDoor.VaP (append_f size_f)
set_option linter.unusedVariables false
set_option linter.unusedSimpArgs false
def ackFrom (l : List S103) : Nat → Nat → List Int
  | _, 0 => []
  | i, d + 1 => (if 0 < i then vbytes ((rd_T103 l ((i - 1 : Nat) : Int)).f0 - (rd_T103 l (i : Int)).f1 - 2) else []) ++ vbytes ((rd_T103 l (i : Int)).f1 - (rd_T103 l (i : Int)).f0) ++ ackFrom l (i + 1) d
theorem ackFrom_len (l : List S103) : ∀ d i, (ackFrom l i d).length ≤ 16 * d := by
  intro d
  induction d with
  | zero => intro i; simp [ackFrom]
  | succ d ih =>
    intro i
    have h1 := ih (i + 1)
    have h2 := vbytes_le ((rd_T103 l ((i - 1 : Nat) : Int)).f0 - (rd_T103 l (i : Int)).f1 - 2)
    have h3 := vbytes_le ((rd_T103 l (i : Int)).f1 - (rd_T103 l (i : Int)).f0)
    simp only [ackFrom, List.length_append]
    split <;> simp <;> omega
theorem acked_l (l : List S103) (hl : l.length ≤ 100) (hok : ∀ j, j < l.length → okAt l j) : ∀ (d i k : Nat) (x : List Int), i + d = l.length → d + 20 < k → x.length + 16 * d ≤ 100000 → frame_acked.l0 k l x l (l.length : Int) (i : Int) = some (x ++ ackFrom l i d) := by
  intro d
  induction d with
  | zero =>
    intro i k x hi hk hx
    obtain ⟨k, rfl⟩ : ∃ m, k = m + 1 := ⟨k - 1, by omega⟩
    simp only [frame_acked.l0, ackFrom]
    rw [if_neg (by omega)]
    simp
  | succ d ih =>
    intro i k x hi hk hx
    obtain ⟨k, rfl⟩ : ∃ m, k = m + 1 := ⟨k - 1, by omega⟩
    have ho := hok i (by omega)
    have ho1 := ho.1
    have ho2 := ho.2.1
    have ho3 := ho.2.2.1
    have h2 := vbytes_le ((rd_T103 l ((i - 1 : Nat) : Int)).f0 - (rd_T103 l (i : Int)).f1 - 2)
    have h3 := vbytes_le ((rd_T103 l (i : Int)).f1 - (rd_T103 l (i : Int)).f0)
    have e2 : wrap64 ((rd_T103 l (i : Int)).f1 - (rd_T103 l (i : Int)).f0) = (rd_T103 l (i : Int)).f1 - (rd_T103 l (i : Int)).f0 := by unfold wrap64; omega
    simp only [frame_acked.l0, ackFrom]
    rw [if_pos (by omega), if_pos (by omega), if_pos (by omega), e2, w1 i (by omega)]
    by_cases h0 : (i : Int) > 0
    · have hp := hok (i - 1) (by omega)
      have hp1 := hp.1
      have hp2 := hp.2.1
      have hp3 := hp.2.2.1
      have ho4 := ho.2.2.2 (by omega)
      rw [if_pos h0, wm1 i (by omega) (by omega), if_pos (by omega), if_pos (by omega), if_pos (by omega)]
      have e3 : wrap64 ((wrap64 ((rd_T103 l ((i - 1 : Nat) : Int)).f0 - (rd_T103 l (i : Int)).f1)) - 2) = (rd_T103 l ((i - 1 : Nat) : Int)).f0 - (rd_T103 l (i : Int)).f1 - 2 := by unfold wrap64; omega
      rw [e3, append_f x _ (by omega) k (by omega)]
      simp only [Option.bind_some]
      rw [append_f _ _ (by simp; omega) k (by omega)]
      simp only [Option.bind_some]
      rw [ih (i + 1) k _ (by omega) (by omega) (by simp; omega)]
      simp
    · rw [if_neg h0, if_neg (by omega), append_f x _ (by omega) k (by omega)]
      simp only [Option.bind_some]
      rw [ih (i + 1) k _ (by omega) (by omega) (by simp; omega)]
      simp
def fbytes (a0 a1 : Int) (l2 : List S103) (a3 : Int) (l4 : List Int) (a5 : Int) : List Int :=
  if a0 = 0 then List.replicate a1.toNat 0 else
  if a0 = 2 then [2] ++ vbytes (rd_T103 l2 0).f1 ++ vbytes ((l2.length : Int) - 1) ++ ackFrom l2 0 l2.length else
  if a0 = 6 then [6] ++ vbytes a3 ++ vbytes l4.length ++ l4 else
  if a0 = 7 then [7] ++ tbytes a5 else
  if a0 = 8 then [8] ++ vbytes a1 ++ tbytes a5 else
  if a0 = 28 then [28] ++ vbytes a1 else [a0 % 256]
theorem tbytes_le (h : Int) : (tbytes h).length ≤ 4 := by unfold tbytes; split <;> simp
theorem fbytes_len (a0 a1 : Int) (l2 : List S103) (a3 : Int) (l4 : List Int) (a5 : Int) (h : fright a0 a1 l2 a3 l4 a5) : (fbytes a0 a1 l2 a3 l4 a5).length ≤ 1300 := by
  unfold fright at h
  unfold fbytes
  have t := tbytes_le a5
  have v1 := vbytes_le a1
  have v3 := vbytes_le a3
  have v4 := vbytes_le (l4.length : Int)
  have v5 := vbytes_le (rd_T103 l2 0).f1
  have v6 := vbytes_le ((l2.length : Int) - 1)
  have v7 := ackFrom_len l2 l2.length 0
  rcases h with h | h | h | h | h | h | h
  · rw [if_pos h.1]; simp; omega
  · rw [if_neg (by omega), if_neg (by omega), if_neg (by omega), if_neg (by omega), if_neg (by omega), if_neg (by omega)]; simp
  · have hs := h.2.1.2.2
    rw [if_neg (by omega), if_pos h.1]; simp; omega
  · rw [if_neg (by omega), if_neg (by omega), if_pos h.1]; simp; omega
  · rw [if_neg (by omega), if_neg (by omega), if_neg (by omega), if_pos h.1]; simp; omega
  · rw [if_neg (by omega), if_neg (by omega), if_neg (by omega), if_neg (by omega), if_pos h.1]; simp; omega
  · rw [if_neg (by omega), if_neg (by omega), if_neg (by omega), if_neg (by omega), if_neg (by omega), if_pos h.1]; simp; omega
theorem give_f (l p : List Int) (hl : l.length ≤ 100000) (hp : p.length ≤ 100000) (k : Nat) (hk : 9 < k) : varint_Give.f k l p = some (l ++ vbytes p.length ++ p) := by
  have h8 := vbytes_le (p.length : Int)
  unfold varint_Give.f
  rw [append_f l _ (by omega) k hk]
  simp only [Option.bind_some]
  rw [if_pos (by rw [List.length_append]; omega)]
theorem bytes_frame (a0 a1 : Int) (l2 : List S103) (a3 : Int) (l4 : List Int) (a5 : Int) (hf : fright a0 a1 l2 a3 l4 a5) (k : Nat) (hk : 200 < k) : frame_bytes.f k a0 a1 l2 a3 l4 a5 = some (fbytes a0 a1 l2 a3 l4 a5) := by
  have h := hf
  unfold fright at h
  unfold frame_bytes.f fbytes ideal_Number.f
  simp only [Option.bind_some]
  have t := tbytes_le a5
  have v1 := vbytes_le a1
  have v3 := vbytes_le a3
  have v4 := vbytes_le (l4.length : Int)
  have v5 := vbytes_le (rd_T103 l2 0).f1
  have v6 := vbytes_le ((l2.length : Int) - 1)
  have v7 := ackFrom_len l2 l2.length 0
  rcases h with h | h | h | h | h | h | h
  · rw [if_pos h.1, if_pos h.1, if_pos (by omega), if_pos (by omega)]
  · have n : a0 ≠ 0 ∧ a0 ≠ 2 ∧ a0 ≠ 6 ∧ a0 ≠ 7 ∧ a0 ≠ 8 ∧ a0 ≠ 28 := by omega
    simp [n.1, n.2.1, n.2.2.1, n.2.2.2.1, n.2.2.2.2.1, n.2.2.2.2.2]
  · obtain ⟨rfl, hS, _⟩ := h
    have hs := hS.2.2
    have hs0 := hS.2.1
    simp only [Int.reduceEq, if_false, if_true]
    unfold frame_acked.f
    have e : wrap64 ((l2.length : Int) - 1) = (l2.length : Int) - 1 := by unfold wrap64; omega
    have ha := acked_l l2 (by omega) hS.1 l2.length 0 k (vbytes (rd_T103 l2 0).f1 ++ vbytes ((l2.length : Int) - 1)) (by omega) (by omega) (by simp; omega)
    rw [if_pos (by omega), e, append_f [] _ (by simp) k (by omega)]
    simp only [Option.bind_some, List.nil_append]
    rw [append_f _ _ (by omega) k (by omega)]
    simp only [Option.bind_some]
    have ha' : frame_acked.l0 k l2 (vbytes (rd_T103 l2 0).f1 ++ vbytes ((l2.length : Int) - 1)) l2 (l2.length : Int) 0 = _ := ha
    rw [ha']
    simp only [Option.bind_some]
    rw [if_pos (by simp; omega)]
    simp
  · obtain ⟨rfl, _⟩ := h
    simp only [Int.reduceEq, if_false, if_true]
    rw [append_f _ _ (by simp) k (by omega)]
    simp only [Option.bind_some]
    rw [give_f _ _ (by simp; omega) (by omega) k (by omega)]
    simp
  · obtain ⟨rfl, _⟩ := h
    simp only [Int.reduceEq, if_false, if_true]
    rw [if_pos (by simp; omega)]
    simp
  · obtain ⟨rfl, _⟩ := h
    simp only [Int.reduceEq, if_false, if_true]
    rw [append_f _ _ (by simp) k (by omega)]
    simp only [Option.bind_some]
    rw [if_pos (by simp; omega)]
    simp
  · obtain ⟨rfl, _⟩ := h
    simp only [Int.reduceEq, if_false, if_true]
    rw [append_f _ _ (by simp) k (by omega)]
    simp
end Go.Proofs.YtbcleckapamicaaDoor.FrP
namespace Go.Proofs.YtbcleckapamicaaDoor.FrP
open Go.RowKit Go.Proofs.YtbcleckapamicaaDoorW.PrintWords Go.Proofs.YtbcleckapamicaaDoorW.PrintLast Go.Proofs.YtbcleckapamicaaDoorW.PrintMore Go.Proofs.YtbcleckapamicaaDoor.QFr Go.Proofs.YtbcleckapamicaaDoor.Vn
set_option linter.unusedVariables false
set_option linter.unusedSimpArgs false
def told (x : List Int) : List Int × Int := if (x.length : Int) > 1200 then ([], 4) else (x, 0)
end Go.Proofs.YtbcleckapamicaaDoor.FrP
namespace Go.Proofs.YtbcleckapamicaaDoor.Tk
open Go.RowKit Go.Proofs.YtbcleckapamicaaDoorW.PrintWords Go.Proofs.YtbcleckapamicaaDoorW.PrintLast Go.Proofs.YtbcleckapamicaaDoorW.PrintMore
open Go.Proofs.YtbcleckapamicaaDoor.QVa (shibbolethref01_Read.f shibbolethref01_Read.calls shibbolethref01_Read.mono)
set_option linter.unusedVariables false
set_option linter.unusedSimpArgs false
theorem info5 : (Tryd.prog.info? 5).map (fun i => (i.zero, i.size, i.bytes)) = some (some (.int .u8 0), 1, 1) := by kernel_rfl
end Go.Proofs.YtbcleckapamicaaDoor.Tk
namespace Go.Proofs.YtbcleckapamicaaDoor.TkP
open Go.RowKit Go.Proofs.YtbcleckapamicaaDoor.QVa Go.Proofs.YtbcleckapamicaaDoor.Vn Go.Proofs.YtbcleckapamicaaDoor.VaP Go.Proofs.YtbcleckapamicaaDoorW.PrintWords
open Go.Proofs.YtbcleckapamicaaDoor.Gv (bits_TrailingZeros.f slices_Clone_byte_byte.f varint_Size.f varint_Read.f)
set_option linter.unusedVariables false
set_option linter.unusedSimpArgs false
theorem vread_ok (l : List Int) (n s : Int) (h : vread l = (n, s, 0)) : 0 ≤ n ∧ n ≤ 4611686018427387903 ∧ 1 ≤ s ∧ s ≤ l.length ∧ s ≤ 8 := by
  unfold vread at h
  by_cases h0 : l.length = 0
  · rw [if_pos h0] at h; simp at h
  · rw [if_neg h0] at h
    by_cases h1 : l.length < 2 ^ (rd l 0 / 64).toNat
    · rw [if_pos h1] at h; simp at h
    · rw [if_neg h1] at h
      have hq : 1 ≤ (2 ^ (rd l 0 / 64).toNat : Nat) := Nat.one_le_two_pow
      generalize (2 ^ (rd l 0 / 64).toNat : Nat) = q at h h1 hq
      generalize num (rd l 0 % 64) ((l.take q).drop 1) = m at h
      by_cases h2 : vsize m = (q : Int)
      · rw [if_pos h2] at h
        simp only [Prod.mk.injEq, and_true] at h
        obtain ⟨rfl, rfl⟩ := h
        have hv := vsize_cases m
        omega
      · rw [if_neg h2] at h; simp at h
end Go.Proofs.YtbcleckapamicaaDoor.TkP
namespace Go.Proofs.YtbcleckapamicaaDoor.FdP
open Go.RowKit Go.Proofs.YtbcleckapamicaaDoorW.PrintWords Go.Proofs.YtbcleckapamicaaDoorW.PrintLast Go.Proofs.YtbcleckapamicaaDoorW.PrintMore Go.Proofs.YtbcleckapamicaaDoor.QFr Go.Proofs.YtbcleckapamicaaDoor.Vn Go.Proofs.YtbcleckapamicaaDoor.FrP
open Go.Proofs.YtbcleckapamicaaDoor.Gf (tbytes)
open Go.Proofs.YtbcleckapamicaaDoor.Fd (num4 rnum rbyt rtrm padF gapF spanF ackF ackR body fr58 next frames)
set_option linter.unusedVariables false
set_option linter.unusedSimpArgs false
def fb58 (f : S58) : List Int := fbytes f.f0 f.f1 f.f2 f.f3 f.f4 f.f5
theorem rnum_vbytes (n : Int) (hn : 0 ≤ n) (hn' : n ≤ 4611686018427387903) (r : List Int) : rnum (vbytes n ++ r) = some (n, r) := by
  unfold rnum
  rw [vread_vbytes n hn hn' r, if_pos rfl]
  simp
theorem vread_canon {l : List Int} (hB : Bytes l) {n s : Int} (h : vread l = (n, s, 0)) : l = vbytes n ++ l.drop s.toNat := by
  unfold vread at h
  by_cases h0 : l.length = 0
  · rw [if_pos h0] at h; simp at h
  rw [if_neg h0] at h
  have hb0 := bytes_rd hB 0 (by omega)
  by_cases h1 : l.length < 2 ^ (rd l 0 / 64).toNat
  · rw [if_pos h1] at h; simp at h
  rw [if_neg h1] at h
  obtain ⟨q, hq⟩ : ∃ q : Nat, (rd l 0 / 64).toNat = q := ⟨_, rfl⟩
  rw [hq] at h h1
  have hz : ((0 : Nat) : Int) = 0 := rfl
  rw [hz] at hb0
  have hq4 : q < 4 := by omega
  by_cases h2 : vsize (num (rd l 0 % 64) ((l.take (2 ^ q)).drop 1)) = ((2 ^ q : Nat) : Int)
  rotate_left
  · rw [if_neg h2] at h; simp at h
  rw [if_pos h2] at h
  simp only [Prod.mk.injEq, and_true] at h
  obtain ⟨rfl, rfl⟩ := h
  have hs := vsize_cases (num (rd l 0 % 64) ((l.take (2 ^ q)).drop 1))
  rw [h2] at hs
  match q, hq4 with
  | 0, _ =>
    match l, h0 with
    | a :: t, _ =>
      have ha : rd (a :: t) 0 = a := rfl
      rw [ha] at hs hb0 hq ⊢
      simp only [num, Nat.pow_zero, List.take_succ_cons, List.take_zero, List.drop_succ_cons, List.drop_zero, List.foldl_nil, Int.cast_ofNat_Int, Int.toNat_one] at hs ⊢
      rcases hs with ⟨x, y, z⟩ | ⟨x, y, z⟩ | ⟨x, y, z⟩ | ⟨x, y, z⟩ | ⟨x, y, z⟩ <;> first | (exfalso; omega) | skip
      rw [z]
      simp
      omega
  | 1, _ =>
    match l, h1 with
    | [], h1 => simp at h0
    | [a], h1 => simp at h1
    | a :: b :: t, _ =>
      have ha : rd (a :: b :: t) 0 = a := rfl
      rw [ha] at hs hb0 hq ⊢
      have hb := hB b (by simp)
      simp only [num, Nat.reducePow, List.take_succ_cons, List.take_zero, List.drop_succ_cons, List.drop_zero, List.foldl_nil, List.foldl_cons, Int.toNat_natCast] at hs ⊢
      rcases hs with ⟨x, y, z⟩ | ⟨x, y, z⟩ | ⟨x, y, z⟩ | ⟨x, y, z⟩ | ⟨x, y, z⟩ <;> first | (exfalso; omega) | skip
      rw [z]
      simp
      omega
  | 2, _ =>
    match l, h1 with
    | [], h1 => simp at h0
    | [a], h1 => simp at h1
    | [a, b], h1 => simp at h1
    | [a, b, c], h1 => simp at h1
    | a :: b :: c :: d :: t, _ =>
      have ha : rd (a :: b :: c :: d :: t) 0 = a := rfl
      rw [ha] at hs hb0 hq ⊢
      have hb := hB b (by simp)
      have hc := hB c (by simp)
      have hd := hB d (by simp)
      simp only [num, Nat.reducePow, List.take_succ_cons, List.take_zero, List.drop_succ_cons, List.drop_zero, List.foldl_nil, List.foldl_cons, Int.toNat_natCast] at hs ⊢
      rcases hs with ⟨x, y, z⟩ | ⟨x, y, z⟩ | ⟨x, y, z⟩ | ⟨x, y, z⟩ | ⟨x, y, z⟩ <;> first | (exfalso; omega) | skip
      rw [z]
      simp
      omega
  | 3, _ =>
    match l, h1 with
    | [], h1 => simp at h0
    | [a], h1 => simp at h1
    | [a, b], h1 => simp at h1
    | [a, b, c], h1 => simp at h1
    | [a, b, c, d], h1 => simp at h1
    | [a, b, c, d, e], h1 => simp at h1
    | [a, b, c, d, e, f], h1 => simp at h1
    | [a, b, c, d, e, f, g], h1 => simp at h1
    | a :: b :: c :: d :: e :: f :: g :: i :: t, _ =>
      have ha : rd (a :: b :: c :: d :: e :: f :: g :: i :: t) 0 = a := rfl
      rw [ha] at hs hb0 hq ⊢
      have hb := hB b (by simp)
      have hc := hB c (by simp)
      have hd := hB d (by simp)
      have he := hB e (by simp)
      have hf := hB f (by simp)
      have hg := hB g (by simp)
      have hi := hB i (by simp)
      simp only [num, Nat.reducePow, List.take_succ_cons, List.take_zero, List.drop_succ_cons, List.drop_zero, List.foldl_nil, List.foldl_cons, Int.toNat_natCast] at hs ⊢
      rcases hs with ⟨x, y, z⟩ | ⟨x, y, z⟩ | ⟨x, y, z⟩ | ⟨x, y, z⟩ | ⟨x, y, z⟩ <;> first | (exfalso; omega) | skip
      rw [z]
      simp
      omega
theorem rnum_inv {l r : List Int} (hB : Bytes l) {n : Int} (h : rnum l = some (n, r)) : 0 ≤ n ∧ n ≤ 4611686018427387903 ∧ l = vbytes n ++ r := by
  unfold rnum at h
  split at h
  · rename_i h0
    injection h with h
    injection h with h1 h2
    have hv : vread l = (n, (vread l).2.1, 0) := by rw [← h1, ← h0]
    have a := TkP.vread_ok l _ _ hv
    refine ⟨a.1, a.2.1, ?_⟩
    rw [← h2]
    exact vread_canon hB hv
  · cases h
theorem rnum_len {l r : List Int} {n : Int} (h : rnum l = some (n, r)) : r.length ≤ l.length ∧ (∀ x ∈ r, x ∈ l) := by
  unfold rnum at h
  split at h
  · injection h with h
    injection h with h1 h2
    rw [← h2]
    exact ⟨by simp, fun x hx => List.mem_of_mem_drop hx⟩
  · cases h
theorem rbyt_self (d r : List Int) : rbyt (d ++ r) (d.length : Int) = some (d, r) := by
  unfold rbyt
  rw [if_pos (by simp; omega)]
  simp
theorem rbyt_inv {l d r : List Int} {n : Int} (h0 : 0 ≤ n) (h : rbyt l n = some (d, r)) : l = d ++ r ∧ (d.length : Int) = n := by
  unfold rbyt at h
  split at h
  · injection h with h
    injection h with h1 h2
    rw [← h1, ← h2]
    refine ⟨(List.take_append_drop _ _).symm, ?_⟩
    simp
    omega
  · cases h
theorem rtrm_self (h : Int) (h1 : 1 ≤ h) (h2 : h ≤ 65536) (r : List Int) : rtrm (tbytes h ++ r) = some (h, r) := by
  have ht : tbytes h = [h / 16777216 % 256, h / 65536 % 256, h / 256 % 256, h % 256] := by unfold tbytes; exact if_neg (by omega)
  rw [ht]
  unfold rtrm
  have e : num 0 (([h / 16777216 % 256, h / 65536 % 256, h / 256 % 256, h % 256] ++ r).take 4) = h := by
    simp only [List.cons_append, List.nil_append, List.take_succ_cons, List.take_zero, num4, Fd.upto]
    omega
  rw [e, if_pos ⟨by simp, h1, h2⟩]
  simp
theorem rtrm_inv {l r : List Int} (hB : Bytes l) {h : Int} (hh : rtrm l = some (h, r)) : 1 ≤ h ∧ h ≤ 65536 ∧ l = tbytes h ++ r := by
  unfold rtrm at hh
  split at hh
  · rename_i q
    injection hh with hh
    injection hh with e1 e2
    match l, q.1 with
    | a :: b :: c :: d :: t, _ =>
      have ha := hB a (by simp)
      have hb := hB b (by simp)
      have hc := hB c (by simp)
      have hd := hB d (by simp)
      have q2 := q.2
      simp only [List.take_succ_cons, List.take_zero, num4, Fd.upto] at e1 q2
      simp only [List.drop_succ_cons, List.drop_zero] at e2
      subst e2
      refine ⟨by omega, by omega, ?_⟩
      unfold tbytes
      rw [if_neg (by omega)]
      have x1 : h / 16777216 % 256 = a := by omega
      have x2 : h / 65536 % 256 = b := by omega
      have x3 : h / 256 % 256 = c := by omega
      have x4 : h % 256 = d := by omega
      rw [x1, x2, x3, x4]
      rfl
  · cases hh
theorem padF_self (n : Nat) (r : List Int) (hr : r.head? ≠ some 0) : padF (List.replicate n 0 ++ r) = (n, r) := by
  induction n with
  | zero =>
    cases r with
    | nil => rfl
    | cons x t =>
      have hx : x ≠ 0 := fun e => hr (by rw [e]; rfl)
      show padF (x :: t) = _
      rw [padF, if_neg hx]
  | succ n ih =>
    rw [List.replicate_succ, List.cons_append, padF, if_pos rfl, ih]
theorem padF_inv : ∀ l : List Int, l = List.replicate (padF l).1 0 ++ (padF l).2 ∧ (padF l).2.head? ≠ some 0 := by
  intro l
  induction l with
  | nil => exact ⟨rfl, by simp [padF]⟩
  | cons x t ih =>
    rw [padF]
    by_cases hx : x = 0
    · rw [if_pos hx]
      refine ⟨?_, ih.2⟩
      rw [List.replicate_succ, List.cons_append, ← ih.1, hx]
    · rw [if_neg hx]
      refine ⟨rfl, ?_⟩
      simp
      exact hx
def ackB : Int → List S103 → List Int
  | _, [] => []
  | p, s :: t => vbytes (p - s.f1 - 2) ++ vbytes (s.f1 - s.f0) ++ ackB s.f0 t
def okB : Int → List S103 → Prop
  | _, [] => True
  | p, s :: t => 0 ≤ s.f0 ∧ s.f0 ≤ s.f1 ∧ s.f1 ≤ 4611686018427387903 ∧ s.f1 ≤ p - 2 ∧ okB s.f0 t
theorem ackF_self : ∀ (s : List S103) (p : Int) (hp : p ≤ 4611686018427387903) (h : okB p s) (r : List Int), ackF s.length p (ackB p s ++ r) = some (s, r) := by
  intro s
  induction s with
  | nil => intro p _ _ r; rfl
  | cons s t ih =>
    intro p hp h r
    obtain ⟨h1, h2, h3, h4, h5⟩ := h
    simp only [ackB, List.length_cons, ackF, gapF, spanF, List.append_assoc]
    rw [rnum_vbytes _ (by omega) (by omega)]
    simp only [Option.bind_some]
    rw [if_pos (by omega)]
    simp only [Option.bind_some]
    rw [rnum_vbytes _ (by omega) (by omega)]
    simp only [Option.bind_some]
    have e1 : p - (p - s.f1 - 2 + 2) = s.f1 := by omega
    have e2 : s.f1 - (s.f1 - s.f0) = s.f0 := by omega
    rw [e1, if_pos (by omega), e2]
    simp only [Option.bind_some]
    rw [ih s.f0 (by omega) h5 r]
    rfl
theorem gapF_inv {tp : Int} {l : List Int} (hB : Bytes l) {g : Int × List Int} (h : gapF tp l = some g) : ∃ n, 0 ≤ n ∧ n ≤ 4611686018427387903 ∧ n + 2 ≤ tp ∧ g.1 = tp - (n + 2) ∧ l = vbytes n ++ g.2 := by
  unfold gapF at h
  obtain ⟨⟨n, r⟩, hr, h⟩ := Option.bind_eq_some_iff.1 h
  have a := rnum_inv hB hr
  simp only [] at h
  split at h
  · injection h with h; subst h
    exact ⟨n, a.1, a.2.1, by assumption, rfl, a.2.2⟩
  · cases h
theorem spanF_inv {tp : Int} {l : List Int} (hB : Bytes l) {g : S103 × List Int} (h : spanF tp l = some g) : ∃ n, 0 ≤ n ∧ n ≤ 4611686018427387903 ∧ n ≤ tp ∧ g.1 = ⟨tp - n, tp⟩ ∧ l = vbytes n ++ g.2 := by
  unfold spanF at h
  obtain ⟨⟨n, r⟩, hr, h⟩ := Option.bind_eq_some_iff.1 h
  have a := rnum_inv hB hr
  simp only [] at h
  split at h
  · injection h with h; subst h
    exact ⟨n, a.1, a.2.1, by assumption, rfl, a.2.2⟩
  · cases h
theorem ackF_inv : ∀ (d : Nat) (p : Int) (l : List Int) (s : List S103) (r : List Int), Bytes l → p ≤ 4611686018427387903 → ackF d p l = some (s, r) → s.length = d ∧ okB p s ∧ l = ackB p s ++ r := by
  intro d
  induction d with
  | zero => intro p l s r _ _ h; injection h with h; injection h with h1 h2; subst h1 h2; exact ⟨rfl, trivial, rfl⟩
  | succ d ih =>
    intro p l s r hB hp h
    rw [ackF] at h
    obtain ⟨g, hg, h⟩ := Option.bind_eq_some_iff.1 h
    obtain ⟨sp, hs, h⟩ := Option.bind_eq_some_iff.1 h
    obtain ⟨⟨t, r'⟩, ht, h⟩ := Option.map_eq_some_iff.1 h
    injection h with h1 h2
    subst h1 h2
    obtain ⟨n, n0, n1, n2, n3, e1⟩ := gapF_inv hB hg
    have hB1 : Bytes g.2 := fun x hx => hB x (by rw [e1]; simp [hx])
    obtain ⟨m, m0, m1, m2, m3, e2⟩ := spanF_inv hB1 hs
    have hB2 : Bytes sp.2 := fun x hx => hB1 x (by rw [e2]; simp [hx])
    rw [m3] at ht ⊢
    have a := ih _ _ _ _ hB2 (by simp only []; omega) ht
    refine ⟨by simp [a.1], ⟨by simp only []; omega, by simp only []; omega, by simp only []; omega, by simp only []; omega, a.2.1⟩, ?_⟩
    have x1 : p - g.1 - 2 = n := by omega
    have x2 : g.1 - (g.1 - m) = m := by omega
    simp only [ackB, x1, x2, List.append_assoc, ← a.2.2, ← e2, ← e1]
theorem rd_drop (l : List S103) (i : Nat) {s : S103} {t : List S103} (h : l.drop i = s :: t) : rd_T103 l (i : Int) = s ∧ l.drop (i + 1) = t ∧ i < l.length := by
  have hi : i < l.length := by
    rcases Nat.lt_or_ge i l.length with q | q
    · exact q
    · rw [List.drop_of_length_le q] at h; cases h
  rw [List.drop_eq_getElem_cons hi] at h
  injection h with h1 h2
  exact ⟨by simp [rd_T103, List.getD_eq_getElem?_getD, List.getElem?_eq_getElem hi, h1], h2, hi⟩
theorem ackFrom_list (l : List S103) : ∀ (t : List S103) (i : Nat), l.drop (i + 1) = t → ackFrom l (i + 1) t.length = ackB (rd_T103 l (i : Int)).f0 t := by
  intro t
  induction t with
  | nil => intro i _; rfl
  | cons s t ih =>
    intro i h
    obtain ⟨e1, e2, _⟩ := rd_drop l (i + 1) h
    rw [List.length_cons, ackFrom, if_pos (by omega), show i + 1 - 1 = i from rfl, ih (i + 1) e2, e1]
    rfl
theorem ackFrom_cons (s : S103) (t : List S103) : ackFrom (s :: t) 0 (s :: t).length = vbytes (s.f1 - s.f0) ++ ackB s.f0 t := by
  rw [List.length_cons, ackFrom, if_neg (by omega), ackFrom_list (s :: t) t 0 rfl]
  rfl
theorem okB_iff (l : List S103) : ∀ (t : List S103) (i : Nat), l.drop (i + 1) = t → ((∀ j, i < j → j < l.length → okAt l j) ↔ okB (rd_T103 l (i : Int)).f0 t) := by
  intro t
  induction t with
  | nil =>
    intro i h
    have : l.length ≤ i + 1 := by rcases Nat.lt_or_ge (i + 1) l.length with q | q
                                  · rw [List.drop_eq_getElem_cons q] at h; cases h
                                  · exact q
    exact ⟨fun _ => trivial, fun _ j h1 h2 => by omega⟩
  | cons s t ih =>
    intro i h
    obtain ⟨e1, e2, e3⟩ := rd_drop l (i + 1) h
    have hi := ih (i + 1) e2
    rw [e1] at hi
    constructor
    · intro hh
      have a := hh (i + 1) (by omega) e3
      have b := a.2.2.2 (by omega)
      rw [show i + 1 - 1 = i from rfl] at b
      unfold okAt at a
      rw [e1] at a b
      exact ⟨a.1, a.2.1, a.2.2.1, b, hi.1 (fun j h1 h2 => hh j (by omega) h2)⟩
    · rintro ⟨a1, a2, a3, a4, a5⟩ j h1 h2
      rcases Nat.lt_or_ge (i + 1) j with q | q
      · exact hi.2 a5 j q h2
      · obtain rfl : j = i + 1 := by omega
        unfold okAt
        rw [e1, show i + 1 - 1 = i from rfl]
        exact ⟨a1, a2, a3, fun _ => a4⟩
theorem spansOK_cons (s : S103) (t : List S103) : spansOK (s :: t) ↔ (0 ≤ s.f0 ∧ s.f0 ≤ s.f1 ∧ s.f1 ≤ 4611686018427387903) ∧ okB s.f0 t ∧ t.length < 32 := by
  have h := okB_iff (s :: t) t 0 rfl
  have e : rd_T103 (s :: t) ((0 : Nat) : Int) = s := rfl
  rw [e] at h
  unfold spansOK
  constructor
  · rintro ⟨a, _, c⟩
    have a0 := a 0 (by simp)
    unfold okAt at a0
    rw [e] at a0
    exact ⟨⟨a0.1, a0.2.1, a0.2.2.1⟩, h.1 (fun j _ hj => a j hj), by simp at c; omega⟩
  · rintro ⟨a, b, c⟩
    refine ⟨fun j hj => ?_, by simp, by simp; omega⟩
    rcases Nat.eq_zero_or_pos j with rfl | q
    · unfold okAt; rw [e]; exact ⟨a.1, a.2.1, a.2.2, fun q => by omega⟩
    · exact h.2 b j q hj
def ackW (s : S103) (t : List S103) : List Int := vbytes s.f1 ++ vbytes (t.length : Int) ++ (vbytes (s.f1 - s.f0) ++ ackB s.f0 t)
theorem fb_ack (a1 a3 a5 : Int) (l4 : List Int) (s : S103) (t : List S103) : fbytes 2 a1 (s :: t) a3 l4 a5 = 2 :: ackW s t := by
  unfold fbytes ackW
  rw [if_neg (by decide), if_pos rfl, ackFrom_cons]
  have e : (((s :: t).length : Nat) : Int) - 1 = (t.length : Int) := by simp
  rw [e]
  have e2 : rd_T103 (s :: t) 0 = s := rfl
  rw [e2]
  simp
theorem ackR_self (s : S103) (t : List S103) (h : spansOK (s :: t)) (r : List Int) : ackR (ackW s t ++ r) = some (s :: t, r) := by
  obtain ⟨⟨h1, h2, h3⟩, h4, h5⟩ := (spansOK_cons s t).1 h
  unfold ackR ackW
  simp only [List.append_assoc]
  rw [rnum_vbytes _ (by omega) (by omega)]
  simp only [Option.bind_some]
  rw [rnum_vbytes _ (by omega) (by omega)]
  simp only [Option.bind_some]
  rw [if_pos (by omega)]
  unfold spanF
  rw [rnum_vbytes _ (by omega) (by omega)]
  simp only [Option.bind_some]
  rw [if_pos (by omega), show s.f1 - (s.f1 - s.f0) = s.f0 from by omega]
  simp only [Option.bind_some, Int.toNat_natCast]
  rw [ackF_self t s.f0 (by omega) h4 r]
  rfl
theorem ackR_inv {l r : List Int} {S : List S103} (hB : Bytes l) (h : ackR l = some (S, r)) : ∃ s t, S = s :: t ∧ l = ackW s t ++ r ∧ spansOK (s :: t) := by
  unfold ackR at h
  obtain ⟨⟨a, l1⟩, ha, h⟩ := Option.bind_eq_some_iff.1 h
  obtain ⟨⟨m, l2⟩, hm, h⟩ := Option.bind_eq_some_iff.1 h
  obtain ⟨a0, a1, e1⟩ := rnum_inv hB ha
  have hB1 : Bytes l1 := fun x hx => hB x (by rw [e1]; simp [hx])
  obtain ⟨m0, m1, e2⟩ := rnum_inv hB1 hm
  have hB2 : Bytes l2 := fun x hx => hB1 x (by rw [e2]; simp [hx])
  simp only [] at h
  split at h
  · rename_i m32
    obtain ⟨sp, hs, h⟩ := Option.bind_eq_some_iff.1 h
    obtain ⟨⟨t, r'⟩, ht, h⟩ := Option.map_eq_some_iff.1 h
    injection h with h1 h2
    subst h1 h2
    obtain ⟨n, n0, n1, n2, n3, e3⟩ := spanF_inv hB2 hs
    have hB3 : Bytes sp.2 := fun x hx => hB2 x (by rw [e3]; simp [hx])
    rw [n3] at ht
    have q := ackF_inv _ _ _ _ _ hB3 (by simp only []; omega) ht
    refine ⟨sp.1, t, rfl, ?_, (spansOK_cons _ _).2 ?_⟩
    · unfold ackW
      rw [n3]
      simp only []
      have x : ((t.length : Nat) : Int) = m := by rw [q.1]; omega
      rw [x, show a - (a - n) = n from by omega]
      simp only [List.append_assoc, ← q.2.2, ← e3, ← e2, ← e1]
    · rw [n3]
      exact ⟨⟨by simp only []; omega, by simp only []; omega, by simp only []; omega⟩, q.2.1, by rw [q.1]; omega⟩
  · cases h
theorem nil_of {α : Type} {l : List α} (h : l.length = 0) : l = [] := List.length_eq_zero_iff.1 h
set_option maxHeartbeats 1000000 in
theorem next_self (f : S58) (hf : fr58 f) (r : List Int) (hr : f.f0 = 0 → r.head? ≠ some 0) : next (fb58 f ++ r) = some (f, r) := by
  obtain ⟨a0, a1, l2, a3, l4, a5⟩ := f
  have key : ∃ t, fb58 ⟨a0, a1, l2, a3, l4, a5⟩ ++ r = a0 :: t ∧ body a0 t = some (⟨a0, a1, l2, a3, l4, a5⟩, r) := by
    unfold fr58 fright at hf
    unfold fb58
    simp only [] at hf hr ⊢
    rcases hf with ⟨rfl, h1, h2, h3, rfl, h5, rfl⟩ | ⟨h0, rfl, h3, rfl, h5, rfl⟩ | ⟨rfl, hS, rfl, rfl, h5, rfl⟩ | ⟨rfl, h1, h2, h3, h4, rfl, h5, rfl⟩ | ⟨rfl, h1, h2, rfl, h3, rfl, h5⟩ | ⟨rfl, h1, h2, h3, h4, h5, rfl, h6⟩ | ⟨rfl, h1, h2, h3, rfl, h5, rfl⟩
    · obtain rfl := nil_of h3
      obtain rfl := nil_of h5
      obtain ⟨n, rfl⟩ : ∃ n : Nat, a1 = (n : Int) + 1 := ⟨(a1 - 1).toNat, by omega⟩
      refine ⟨List.replicate n 0 ++ r, ?_, ?_⟩
      · unfold fbytes
        rw [if_pos rfl, show ((n : Int) + 1).toNat = n + 1 from by omega, List.replicate_succ]
        rfl
      · unfold body
        rw [if_pos rfl, padF_self n r (hr rfl)]
    · obtain rfl := nil_of h3
      obtain rfl := nil_of h5
      rcases h0 with rfl | rfl
      · exact ⟨r, rfl, rfl⟩
      · exact ⟨r, rfl, rfl⟩
    · obtain rfl := nil_of h5
      match l2, hS with
      | [], hS => exact absurd hS.2.1 (by simp)
      | s :: t, hS =>
        refine ⟨ackW s t ++ r, by rw [fb_ack]; rfl, ?_⟩
        unfold body
        rw [if_neg (by decide), if_neg (by decide), if_neg (by decide), if_pos rfl, ackR_self s t hS r]
        rfl
    · obtain rfl := nil_of h5
      refine ⟨vbytes a3 ++ (vbytes l4.length ++ (l4 ++ r)), ?_, ?_⟩
      · unfold fbytes
        rw [if_neg (by decide), if_neg (by decide), if_pos rfl]
        simp
      · unfold body
        rw [if_neg (by decide), if_neg (by decide), if_neg (by decide), if_neg (by decide), if_pos rfl, rnum_vbytes _ (by omega) (by omega)]
        simp only [Option.bind_some]
        rw [rnum_vbytes _ (by omega) (by omega)]
        simp only [Option.bind_some]
        rw [rbyt_self]
        rfl
    · obtain rfl := nil_of h3
      obtain rfl := nil_of h5
      refine ⟨tbytes a5 ++ r, ?_, ?_⟩
      · unfold fbytes
        rw [if_neg (by decide), if_neg (by decide), if_neg (by decide), if_pos rfl]
        rfl
      · unfold body
        rw [if_neg (by decide), if_neg (by decide), if_neg (by decide), if_neg (by decide), if_neg (by decide), if_pos rfl, rtrm_self _ h1 h2]
        rfl
    · obtain rfl := nil_of h5
      obtain rfl := nil_of h6
      refine ⟨vbytes a1 ++ (tbytes a5 ++ r), ?_, ?_⟩
      · unfold fbytes
        rw [if_neg (by decide), if_neg (by decide), if_neg (by decide), if_neg (by decide), if_pos rfl]
        simp
      · unfold body
        rw [if_neg (by decide), if_neg (by decide), if_neg (by decide), if_neg (by decide), if_neg (by decide), if_neg (by decide), if_pos rfl, rnum_vbytes _ h3 h4]
        simp only [Option.bind_some]
        rw [rtrm_self _ h1 h2]
        rfl
    · obtain rfl := nil_of h3
      obtain rfl := nil_of h5
      refine ⟨vbytes a1 ++ r, ?_, ?_⟩
      · unfold fbytes
        rw [if_neg (by decide), if_neg (by decide), if_neg (by decide), if_neg (by decide), if_neg (by decide), if_pos rfl]
        rfl
      · unfold body
        rw [if_neg (by decide), if_neg (by decide), if_neg (by decide), if_neg (by decide), if_neg (by decide), if_neg (by decide), if_neg (by decide), if_pos rfl, rnum_vbytes _ h1 h2]
        rfl
  obtain ⟨t, e, hb⟩ := key
  rw [e, next, hb]
  simp only [Option.bind_some]
  rw [if_pos hf]
set_option maxHeartbeats 1000000 in
theorem next_inv {l r : List Int} {f : S58} (hB : Bytes l) (h : next l = some (f, r)) : fr58 f ∧ l = fb58 f ++ r ∧ (f.f0 = 0 → r.head? ≠ some 0) := by
  match l, h with
  | [], h => cases h
  | k :: t, h =>
    rw [next] at h
    obtain ⟨⟨g, q⟩, hb, h⟩ := Option.bind_eq_some_iff.1 h
    simp only [] at h
    split at h
    rotate_left
    · cases h
    rename_i hf
    injection h with h
    injection h with h1 h2
    subst h1 h2
    refine ⟨hf, ?_⟩
    have hBt : Bytes t := fun x hx => hB x (by simp [hx])
    unfold body at hb
    unfold fb58
    by_cases h0 : k = 0
    · rw [if_pos h0] at hb
      injection hb with hb
      injection hb with e1 e2
      subst e1 e2
      have a := padF_inv t
      refine ⟨?_, fun _ => a.2⟩
      unfold fbytes
      rw [if_pos rfl]
      simp only []
      rw [show (((padF t).1 : Int) + 1).toNat = (padF t).1 + 1 from by omega, List.replicate_succ, List.cons_append, ← a.1, h0]
    rw [if_neg h0] at hb
    by_cases h1 : k = 1
    · rw [if_pos h1] at hb
      injection hb with hb
      injection hb with e1 e2
      subst e1 e2
      exact ⟨by rw [h1]; rfl, fun e => by cases e⟩
    rw [if_neg h1] at hb
    by_cases h30 : k = 30
    · rw [if_pos h30] at hb
      injection hb with hb
      injection hb with e1 e2
      subst e1 e2
      exact ⟨by rw [h30]; rfl, fun e => by cases e⟩
    rw [if_neg h30] at hb
    by_cases h2 : k = 2
    · rw [if_pos h2] at hb
      obtain ⟨⟨S, q'⟩, ha, hb⟩ := Option.map_eq_some_iff.1 hb
      injection hb with e1 e2
      subst e1 e2
      obtain ⟨s, u, rfl, e, _⟩ := ackR_inv hBt ha
      exact ⟨by rw [h2, fb_ack, e]; rfl, fun e => by cases e⟩
    rw [if_neg h2] at hb
    by_cases h6 : k = 6
    · rw [if_pos h6] at hb
      obtain ⟨⟨a, l1⟩, ha, hb⟩ := Option.bind_eq_some_iff.1 hb
      obtain ⟨⟨n, l3⟩, hn, hb⟩ := Option.bind_eq_some_iff.1 hb
      obtain ⟨⟨d, q'⟩, hd, hb⟩ := Option.map_eq_some_iff.1 hb
      injection hb with e1 e2
      subst e1 e2
      obtain ⟨a0, a1, x1⟩ := rnum_inv hBt ha
      have hB1 : Bytes l1 := fun x hx => hBt x (by rw [x1]; simp [hx])
      obtain ⟨n0, n1, x2⟩ := rnum_inv hB1 hn
      obtain ⟨x3, x4⟩ := rbyt_inv n0 hd
      simp only [] at x3 x4
      refine ⟨?_, fun e => by cases e⟩
      dsimp only
      unfold fbytes
      rw [if_neg (by decide), if_neg (by decide), if_pos rfl]
      rw [x4, h6, x1, x2, x3]
      simp
    rw [if_neg h6] at hb
    by_cases h7 : k = 7
    · rw [if_pos h7] at hb
      obtain ⟨⟨a, l1⟩, ha, hb⟩ := Option.map_eq_some_iff.1 hb
      injection hb with e1 e2
      subst e1 e2
      obtain ⟨a0, a1, x1⟩ := rtrm_inv hBt ha
      refine ⟨?_, fun e => by cases e⟩
      dsimp only
      unfold fbytes
      rw [if_neg (by decide), if_neg (by decide), if_neg (by decide), if_pos rfl]
      rw [h7, x1]
      simp
    rw [if_neg h7] at hb
    by_cases h8 : k = 8
    · rw [if_pos h8] at hb
      obtain ⟨⟨c, l1⟩, hc, hb⟩ := Option.bind_eq_some_iff.1 hb
      obtain ⟨⟨a, l3⟩, ha, hb⟩ := Option.map_eq_some_iff.1 hb
      injection hb with e1 e2
      subst e1 e2
      obtain ⟨c0, c1, x1⟩ := rnum_inv hBt hc
      have hB1 : Bytes l1 := fun x hx => hBt x (by rw [x1]; simp [hx])
      obtain ⟨a0, a1, x2⟩ := rtrm_inv hB1 ha
      refine ⟨?_, fun e => by cases e⟩
      dsimp only
      unfold fbytes
      rw [if_neg (by decide), if_neg (by decide), if_neg (by decide), if_neg (by decide), if_pos rfl]
      rw [h8, x1, x2]
      simp
    rw [if_neg h8] at hb
    by_cases h28 : k = 28
    · rw [if_pos h28] at hb
      obtain ⟨⟨c, l1⟩, hc, hb⟩ := Option.map_eq_some_iff.1 hb
      injection hb with e1 e2
      subst e1 e2
      obtain ⟨c0, c1, x1⟩ := rnum_inv hBt hc
      refine ⟨?_, fun e => by cases e⟩
      dsimp only
      unfold fbytes
      rw [if_neg (by decide), if_neg (by decide), if_neg (by decide), if_neg (by decide), if_neg (by decide), if_pos rfl]
      rw [h28, x1]
      simp
    rw [if_neg h28] at hb
    cases hb
def noAdj : List S58 → Prop
  | [] => True
  | f :: t => (f.f0 = 0 → ∀ g, t.head? = some g → g.f0 ≠ 0) ∧ noAdj t
def wrt (L : List S58) : List Int := (L.map fb58).flatten
theorem fb_head (f : S58) (hf : fr58 f) : ∃ t, fb58 f = f.f0 :: t := by
  obtain ⟨a0, a1, l2, a3, l4, a5⟩ := f
  unfold fr58 fright at hf
  unfold fb58 fbytes
  simp only [] at hf ⊢
  by_cases h0 : a0 = 0
  · obtain ⟨n, rfl⟩ : ∃ n : Nat, a1 = (n : Int) + 1 := ⟨(a1 - 1).toNat, by omega⟩
    rw [if_pos h0, show ((n : Int) + 1).toNat = n + 1 from by omega, List.replicate_succ, h0]
    exact ⟨_, rfl⟩
  rw [if_neg h0]
  by_cases h2 : a0 = 2
  · rw [if_pos h2, h2]; exact ⟨_, rfl⟩
  rw [if_neg h2]
  by_cases h6 : a0 = 6
  · rw [if_pos h6, h6]; exact ⟨_, rfl⟩
  rw [if_neg h6]
  by_cases h7 : a0 = 7
  · rw [if_pos h7, h7]; exact ⟨_, rfl⟩
  rw [if_neg h7]
  by_cases h8 : a0 = 8
  · rw [if_pos h8, h8]; exact ⟨_, rfl⟩
  rw [if_neg h8]
  by_cases h28 : a0 = 28
  · rw [if_pos h28, h28]; exact ⟨_, rfl⟩
  rw [if_neg h28]
  have : a0 % 256 = a0 := by omega
  rw [this]
  exact ⟨_, rfl⟩
theorem wrt_cons (f : S58) (t : List S58) : wrt (f :: t) = fb58 f ++ wrt t := by simp [wrt]
theorem wrt_append (x y : List S58) : wrt (x ++ y) = wrt x ++ wrt y := by simp [wrt]
theorem wrt_head (L : List S58) (hL : ∀ f ∈ L, fr58 f) : (wrt L).head? = L.head?.map (·.f0) := by
  cases L with
  | nil => rfl
  | cons f t =>
    obtain ⟨u, e⟩ := fb_head f (hL f (by simp))
    rw [wrt_cons, e]
    rfl
theorem wrt_len (L : List S58) (hL : ∀ f ∈ L, fr58 f) : L.length ≤ (wrt L).length := by
  induction L with
  | nil => simp
  | cons f t ih =>
    obtain ⟨u, e⟩ := fb_head f (hL f (by simp))
    have := ih (fun g hg => hL g (by simp [hg]))
    rw [wrt_cons, e]
    simp
    omega
theorem frames_self : ∀ (L : List S58) (n : Nat), (∀ f ∈ L, fr58 f) → noAdj L → L.length < n → frames n (wrt L) = some L := by
  intro L
  induction L with
  | nil => intro n _ _ hn; obtain ⟨n, rfl⟩ : ∃ m, n = m + 1 := ⟨n - 1, by omega⟩; rfl
  | cons f t ih =>
    intro n hL hA hn
    simp only [List.length_cons] at hn
    obtain ⟨n, rfl⟩ : ∃ m, n = m + 1 := ⟨n - 1, by omega⟩
    have hf := hL f (by simp)
    have hx := next_self f hf (wrt t) (fun h0 => by
      rw [wrt_head t (fun g hg => hL g (by simp [hg]))]
      intro e
      obtain ⟨g, hg, hg0⟩ := Option.map_eq_some_iff.1 e
      exact hA.1 h0 g hg hg0)
    obtain ⟨u, e⟩ := fb_head f hf
    rw [wrt_cons]
    rw [e] at hx ⊢
    rw [List.cons_append] at hx ⊢
    rw [frames, hx]
    simp only [Option.bind_some]
    rw [ih n (fun g hg => hL g (by simp [hg])) hA.2 (by omega)]
    rfl
theorem frames_inv : ∀ (n : Nat) (l : List Int) (L : List S58), Bytes l → frames n l = some L → (∀ f ∈ L, fr58 f) ∧ noAdj L ∧ l = wrt L := by
  intro n
  induction n with
  | zero => intro l L _ h; cases h
  | succ n ih =>
    intro l L hB h
    match l, h with
    | [], h => injection h with h; subst h; exact ⟨fun f hf => by simp at hf, trivial, rfl⟩
    | k :: t, h =>
      rw [frames] at h
      obtain ⟨⟨f, r⟩, hx, h⟩ := Option.bind_eq_some_iff.1 h
      obtain ⟨T, hT, h⟩ := Option.map_eq_some_iff.1 h
      subst h
      obtain ⟨hf, e, hz⟩ := next_inv hB hx
      have hBr : Bytes r := fun x hx => hB x (by rw [e]; simp [hx])
      obtain ⟨h1, h2, h3⟩ := ih r T hBr hT
      refine ⟨fun g hg => ?_, ⟨fun h0 g hg hg0 => ?_, h2⟩, by rw [wrt_cons, ← h3]; exact e⟩
      · rcases List.mem_cons.1 hg with rfl | q
        · exact hf
        · exact h1 g q
      · refine hz h0 ?_
        rw [h3, wrt_head T h1, hg]
        simp [hg0]
theorem noAdj_append : ∀ (x y : List S58), noAdj x → noAdj y → (∀ f g, x.getLast? = some f → y.head? = some g → ¬ (f.f0 = 0 ∧ g.f0 = 0)) → noAdj (x ++ y) := by
  intro x
  induction x with
  | nil => intro y _ hy _; exact hy
  | cons f t ih =>
    intro y hx hy h
    refine ⟨fun h0 g hg hg0 => ?_, ih y hx.2 hy (fun f' g h1 h2 => ?_)⟩
    · cases t with
      | nil => exact h f g rfl hg ⟨h0, hg0⟩
      | cons u t => exact hx.1 h0 g hg hg0
    · cases t with
      | nil => cases h1
      | cons u t => exact h f' g (by rw [List.getLast?_cons_cons]; exact h1) h2
end Go.Proofs.YtbcleckapamicaaDoor.FdP
namespace Go.Proofs.YtbcleckapamicaaDoor.FdQ
open Go.RowKit Go.Proofs.YtbcleckapamicaaDoorW.PrintWords Go.Proofs.YtbcleckapamicaaDoorW.PrintLast Go.Proofs.YtbcleckapamicaaDoorW.PrintMore Go.Proofs.YtbcleckapamicaaDoor.QFr Go.Proofs.YtbcleckapamicaaDoor.Vn Go.Proofs.YtbcleckapamicaaDoor.FrP Go.Proofs.YtbcleckapamicaaDoor.FdP
open Go.Proofs.YtbcleckapamicaaDoor.Gf (tbytes)
open Go.Proofs.YtbcleckapamicaaDoor.Fd (num4 rnum rbyt rtrm padF gapF spanF ackF ackR body fr58 next frames fread frame_Read.f body_len)
set_option linter.unusedVariables false
set_option linter.unusedSimpArgs false
theorem read_f (l : List Int) (hl : l.length ≤ 100000) (hB : Bytes l) : frame_Read.f l = some (fread l) := if_pos ⟨hl, hB⟩
theorem fread_cases (l : List Int) : (∃ L, fread l = (L, 0) ∧ l.length ≤ 1200 ∧ l ≠ [] ∧ frames (l.length + 1) l = some L) ∨ (∃ e, fread l = ([], e) ∧ e ≠ 0) := by
  unfold fread
  by_cases h1 : 1200 < l.length
  · rw [if_pos h1]; exact .inr ⟨4, rfl, by decide⟩
  rw [if_neg h1]
  by_cases h2 : l = []
  · rw [if_pos h2]; exact .inr ⟨3, rfl, by decide⟩
  rw [if_neg h2]
  cases h3 : frames (l.length + 1) l with
  | none => exact .inr ⟨3, rfl, by decide⟩
  | some L => exact .inl ⟨L, rfl, by omega, h2, rfl⟩
theorem fread_good {l : List Int} {L : List S58} (h1 : l.length ≤ 1200) (h2 : l ≠ []) (h3 : frames (l.length + 1) l = some L) : fread l = (L, 0) := by
  unfold fread
  rw [if_neg (by omega), if_neg h2, h3]
def GoodL (L : List S58) : Prop := L ≠ [] ∧ (∀ f ∈ L, fr58 f) ∧ noAdj L ∧ (wrt L).length ≤ 1200
theorem fread_wrt {L : List S58} (h : GoodL L) : fread (wrt L) = (L, 0) := by
  obtain ⟨h1, h2, h3, h4⟩ := h
  have hlen := wrt_len L h2
  have hne : 0 < L.length := List.length_pos_iff.mpr h1
  refine fread_good h4 (fun e => by have h5 : (wrt L).length = 0 := (by rw [e]; rfl); omega) (frames_self L _ h2 h3 (by omega))
theorem fread_inv {l : List Int} {L : List S58} (hB : Bytes l) (h : fread l = (L, 0)) : GoodL L ∧ l = wrt L := by
  rcases fread_cases l with ⟨L', h1, h2, h3, h4⟩ | ⟨e, h1, h2⟩
  · rw [h1] at h
    injection h with h _
    subst h
    obtain ⟨a, b, c⟩ := frames_inv _ _ _ hB h4
    exact ⟨⟨fun e => h3 (by rw [c, e]; rfl), a, b, by rw [← c]; exact h2⟩, c⟩
  · rw [h1] at h
    injection h with _ h
    exact absurd h h2
theorem rd58 (L : List S58) (i : Nat) (h : i < L.length) : rd_T58 L (i : Int) = L[i] := by
  simp [rd_T58, List.getD_eq_getElem?_getD, List.getElem?_eq_getElem h]
def okF (L : List S58) (j : Nat) : Prop := fr58 (rd_T58 L (j : Int)) ∧ (0 < j → ¬ ((rd_T58 L (j : Int)).f0 = 0 ∧ (rd_T58 L ((j - 1 : Nat) : Int)).f0 = 0))
theorem noAdj_of : ∀ (L : List S58), (∀ j, 0 < j → j < L.length → ¬ ((rd_T58 L (j : Int)).f0 = 0 ∧ (rd_T58 L ((j - 1 : Nat) : Int)).f0 = 0)) → noAdj L := by
  intro L
  induction L with
  | nil => intro _; trivial
  | cons f t ih =>
    intro h
    refine ⟨fun h0 g hg hg0 => ?_, ih (fun j hj hl q => ?_)⟩
    · cases t with
      | nil => cases hg
      | cons u t =>
        injection hg with hg
        subst hg
        refine h 1 (by decide) (by simp) ⟨hg0, ?_⟩
        exact h0
    · have e1 : rd_T58 (f :: t) ((j + 1 : Nat) : Int) = rd_T58 t (j : Int) := by
        rw [rd58 _ _ (by simp; omega), rd58 _ _ hl]; rfl
      have e2 : rd_T58 (f :: t) ((j + 1 - 1 : Nat) : Int) = rd_T58 t ((j - 1 : Nat) : Int) := by
        obtain ⟨m, rfl⟩ : ∃ m, j = m + 1 := ⟨j - 1, by omega⟩
        rw [rd58 _ _ (by simp; omega), rd58 _ _ (by omega)]; rfl
      exact h (j + 1) (by omega) (by simp; omega) (by rw [e1, e2]; exact q)
theorem noAdj_at : ∀ (L : List S58), noAdj L → ∀ j, 0 < j → j < L.length → ¬ ((rd_T58 L (j : Int)).f0 = 0 ∧ (rd_T58 L ((j - 1 : Nat) : Int)).f0 = 0) := by
  intro L
  induction L with
  | nil => intro _ j _ hl; simp at hl
  | cons f t ih =>
    intro h j hj hl q
    obtain ⟨m, rfl⟩ : ∃ m, j = m + 1 := ⟨j - 1, by omega⟩
    simp only [List.length_cons] at hl
    have e1 : rd_T58 (f :: t) ((m + 1 : Nat) : Int) = rd_T58 t (m : Int) := by
      rw [rd58 _ _ (by simp; omega), rd58 _ _ (by omega)]; rfl
    have e2 : rd_T58 (f :: t) ((m + 1 - 1 : Nat) : Int) = rd_T58 (f :: t) (m : Int) := rfl
    rw [e1, e2] at q
    rcases Nat.eq_zero_or_pos m with rfl | hm
    · cases t with
      | nil => simp at hl
      | cons u t => exact h.1 q.2 u rfl q.1
    · refine ih h.2 m hm (by omega) ⟨q.1, ?_⟩
      obtain ⟨p, rfl⟩ : ∃ p, m = p + 1 := ⟨m - 1, by omega⟩
      have e3 : rd_T58 (f :: t) ((p + 1 : Nat) : Int) = rd_T58 t (p : Int) := by
        rw [rd58 _ _ (by simp; omega), rd58 _ _ (by omega)]; rfl
      rw [e3] at q
      exact q.2
theorem right_58 (f : S58) (hl : f.f2.length ≤ 100) (k : Nat) (hk : 200 < k) : ∃ b, frame_Right.f k f.f0 f.f1 f.f2 f.f3 f.f4 f.f5 = some b ∧ (b = true ↔ fr58 f) := right_f _ _ _ _ _ _ hl k hk
theorem write58_l0 (L : List S58) (hn : L.length ≤ 2000) (hs : ∀ j, j < L.length → (rd_T58 L ((j : Nat) : Int)).f2.length ≤ 100) : ∀ (d i k : Nat), i + d = L.length → d + 4000 < k →
    (frame_Write.l0 k L L (L.length : Int) (i : Int) = some (([] : List Int), 1) ∧ ¬ (∀ j, i ≤ j → j < L.length → okF L j)) ∨
    ((∀ j, i ≤ j → j < L.length → okF L j) ∧ frame_Write.l0 k L L (L.length : Int) (i : Int) = frame_Write.l1 (k - d - 1) [] L (L.length : Int) 0) := by
  intro d
  induction d with
  | zero =>
    intro i k hi hk
    obtain ⟨k, rfl⟩ : ∃ m, k = m + 1 := ⟨k - 1, by omega⟩
    right
    refine ⟨fun j h1 h2 => by omega, ?_⟩
    simp only [frame_Write.l0]
    rw [if_neg (by omega)]
    simp
  | succ d ih =>
    intro i k hi hk
    obtain ⟨k, rfl⟩ : ∃ m, k = m + 1 := ⟨k - 1, by omega⟩
    have hi' : i < L.length := by omega
    obtain ⟨b, hb, hbi⟩ := right_58 (rd_T58 L (i : Int)) (hs i hi') k (by omega)
    have ih' := ih (i + 1) k (by omega) (by omega)
    have hk' : k + 1 - (d + 1) - 1 = k - d - 1 := by omega
    simp only [frame_Write.l0]
    simp only [if_pos (show (i : Int) < (L.length : Int) by omega), if_pos (show (0 : Int) ≤ (i : Int) by omega), hb, Option.bind_some, hk']
    have bad : ∀ (h : ¬ okF L i), (some (([] : List Int), (1 : Int)) = some (([] : List Int), 1) ∧ ¬ (∀ j, i ≤ j → j < L.length → okF L j)) := fun h => ⟨rfl, fun q => h (q i (Nat.le_refl _) hi')⟩
    have step : okF L i → (frame_Write.l0 k L L (L.length : Int) ((i + 1 : Nat) : Int) = some (([] : List Int), 1) ∧ ¬ (∀ j, i ≤ j → j < L.length → okF L j)) ∨ ((∀ j, i ≤ j → j < L.length → okF L j) ∧ frame_Write.l0 k L L (L.length : Int) ((i + 1 : Nat) : Int) = frame_Write.l1 (k - d - 1) [] L (L.length : Int) 0) := by
      intro ho
      rcases ih' with ⟨h1, h2⟩ | ⟨h1, h2⟩
      · exact .inl ⟨h1, fun q => h2 (fun j hj hl => q j (by omega) hl)⟩
      · refine .inr ⟨fun j hj1 hj2 => ?_, h2⟩
        rcases Nat.lt_or_ge i j with hij | hij
        · exact h1 j (by omega) hj2
        · obtain rfl : j = i := by omega
          exact ho
    have w1' : wrap64 ((i : Int) + 1) = ((i + 1 : Nat) : Int) := w1 i (by omega)
    by_cases hbt : b = true
    · simp only [if_pos hbt, w1']
      have hfr := hbi.1 hbt
      by_cases h0 : (i : Int) > 0
      · simp only [if_pos h0]
        by_cases hz : (rd_T58 L (i : Int)).f0 = 0
        · simp only [if_pos hz, wm1 i (show 0 < i by omega) (show i < 100000 by omega), if_pos (show (0 : Int) ≤ ((i - 1 : Nat) : Int) by omega), if_pos (show ((i - 1 : Nat) : Int) < (L.length : Int) by omega)]
          by_cases hz' : (rd_T58 L ((i - 1 : Nat) : Int)).f0 = 0
          · simp only [if_pos hz']
            exact .inl ⟨trivial, (bad (fun h => h.2 (by omega) ⟨hz, hz'⟩)).2⟩
          · simp only [if_neg hz']
            exact step ⟨hfr, fun _ q => hz' q.2⟩
        · simp only [if_neg hz]
          exact step ⟨hfr, fun _ q => hz q.1⟩
      · simp only [if_neg h0]
        exact step ⟨hfr, fun q => by omega⟩
    · simp only [if_neg hbt]
      exact .inl ⟨trivial, (bad (fun h => hbt (hbi.2 h.1))).2⟩
theorem drop58 (L : List S58) (i : Nat) (h : i < L.length) : wrt (L.drop i) = fb58 (rd_T58 L (i : Int)) ++ wrt (L.drop (i + 1)) := by
  rw [List.drop_eq_getElem_cons h, wrt_cons, rd58 L i h]
theorem write58_l1 (L : List S58) (hn : L.length ≤ 2000) (hs : ∀ j, j < L.length → fr58 (rd_T58 L ((j : Nat) : Int))) : ∀ (d i k : Nat) (x : List Int), i + d = L.length → d + 1300 < k → x.length ≤ 1200 →
    frame_Write.l1 k x L (L.length : Int) (i : Int) = some (FrP.told (x ++ wrt (L.drop i))) := by
  intro d
  induction d with
  | zero =>
    intro i k x hi hk hx
    obtain ⟨k, rfl⟩ : ∃ m, k = m + 1 := ⟨k - 1, by omega⟩
    simp only [frame_Write.l1]
    rw [if_neg (by omega), List.drop_of_length_le (by omega), show wrt [] = [] from rfl, List.append_nil]
    unfold FrP.told
    rw [if_neg (by omega)]
  | succ d ih =>
    intro i k x hi hk hx
    obtain ⟨k, rfl⟩ : ∃ m, k = m + 1 := ⟨k - 1, by omega⟩
    have hi' : i < L.length := by omega
    have hr := hs i hi'
    have hlen := fbytes_len _ _ _ _ _ _ hr
    simp only [frame_Write.l1]
    rw [if_pos (show (i : Int) < (L.length : Int) by omega), if_pos (show (0 : Int) ≤ (i : Int) by omega), if_pos (show (i : Int) < (L.length : Int) by omega), bytes_frame _ _ _ _ _ _ hr k (by omega), drop58 L i hi']
    simp only [Option.bind_some]
    rw [if_pos (show x.length + (fbytes (rd_T58 L (i : Int)).f0 (rd_T58 L (i : Int)).f1 (rd_T58 L (i : Int)).f2 (rd_T58 L (i : Int)).f3 (rd_T58 L (i : Int)).f4 (rd_T58 L (i : Int)).f5).length < 140737488355328 by omega), w1 i (by omega)]
    by_cases hq : ((x ++ fb58 (rd_T58 L (i : Int))).length : Int) > 1200
    · have hq' : ((x ++ (fb58 (rd_T58 L (i : Int)) ++ wrt (L.drop (i + 1)))).length : Int) > 1200 := by simp only [List.length_append] at hq ⊢; omega
      unfold FrP.told
      rw [if_pos hq']
      unfold fb58 at hq
      rw [if_pos hq]
    · have := ih (i + 1) k (x ++ fb58 (rd_T58 L (i : Int))) (by omega) (by omega) (by omega)
      rw [List.append_assoc] at this
      unfold fb58 at hq this ⊢
      rw [if_neg hq]
      exact this
theorem write58 (L : List S58) (hn : L.length ≤ 2000) (hs : ∀ j, j < L.length → (rd_T58 L ((j : Nat) : Int)).f2.length ≤ 100) (k : Nat) (hk : 8000 < k) :
    ∃ x e, frame_Write.f k L = some (x, e) ∧ ((e ≠ 0 ∧ x = [] ∧ ¬ GoodL L) ∨ (e = 0 ∧ GoodL L ∧ x = wrt L)) := by
  unfold frame_Write.f
  by_cases h0 : (L.length : Int) = 0
  · rw [if_pos h0]
    refine ⟨_, _, rfl, .inl ⟨by decide, rfl, fun h => h.1 (List.length_eq_zero_iff.1 (by omega))⟩⟩
  rw [if_neg h0]
  have all : (∀ j, 0 ≤ j → j < L.length → okF L j) ↔ ((∀ f ∈ L, fr58 f) ∧ noAdj L) := by
    constructor
    · intro h
      refine ⟨fun f hf => ?_, noAdj_of L (fun j hj hl => (h j (by omega) hl).2 hj)⟩
      obtain ⟨i, hi, rfl⟩ := List.getElem_of_mem hf
      rw [← rd58 L i hi]
      exact (h i (by omega) hi).1
    · rintro ⟨h1, h2⟩ j _ hl
      exact ⟨by rw [rd58 L j hl]; exact h1 _ (List.getElem_mem hl), fun hj => noAdj_at L h2 j hj hl⟩
  rcases write58_l0 L hn hs L.length 0 k (by omega) (by omega) with ⟨h1, h2⟩ | ⟨h1, h2⟩
  · exact ⟨_, _, h1, .inl ⟨by decide, rfl, fun h => h2 (all.2 ⟨h.2.1, h.2.2.1⟩)⟩⟩
  · have a := write58_l1 L hn (fun j hj => (h1 j (by omega) hj).1) L.length 0 (k - L.length - 1) [] (by omega) (by omega) (by simp)
    have e := h2.trans a
    rw [List.drop_zero, List.nil_append] at e
    have hh := all.1 h1
    refine ⟨(FrP.told (wrt L)).1, (FrP.told (wrt L)).2, e, ?_⟩
    unfold FrP.told
    by_cases hq : ((wrt L).length : Int) > 1200
    · rw [if_pos hq]; exact .inl ⟨by decide, rfl, fun h => by have := h.2.2.2; omega⟩
    · rw [if_neg hq]; exact .inr ⟨rfl, ⟨fun e => h0 (by rw [e]; rfl), hh.1, hh.2, by omega⟩, rfl⟩
theorem spans2 : spansOK [⟨7, 7⟩, ⟨3, 5⟩] := by
  refine ⟨fun j hj => ?_, by simp, by simp⟩
  have : j = 0 ∨ j = 1 := by simp at hj; omega
  rcases this with rfl | rfl
  · simp [okAt, rd_T103]
  · simp [okAt, rd_T103]
theorem awake06 (k : Nat) (hk : 9000 < k) : shibbolethlaw06_awake.f k = some true := by
  have hg : GoodL [(⟨2, 0, [⟨7, 7⟩, ⟨3, 5⟩], 0, [], 0⟩ : S58)] := by
    refine ⟨by simp, fun f hf => ?_, ⟨fun h => absurd h (by decide), trivial⟩, by simp [wrt, fb58, fbytes, ackFrom, vbytes, rd_T103]⟩
    simp at hf
    subst hf
    exact .inr (.inr (.inl ⟨rfl, spans2, rfl, rfl, rfl, rfl⟩))
  obtain ⟨x, e, h1, h2⟩ := write58 [(⟨2, 0, [⟨7, 7⟩, ⟨3, 5⟩], 0, [], 0⟩ : S58)] (by simp) (fun j hj => by
    have : j = 0 := by simp at hj; omega
    subst this; simp [rd_T58]) k (by omega)
  rcases h2 with ⟨_, _, h⟩ | ⟨rfl, _, rfl⟩
  · exact absurd hg h
  · have ht : wrt [(⟨2, 0, [⟨7, 7⟩, ⟨3, 5⟩], 0, [], 0⟩ : S58)] = [2, 7, 1, 0, 0, 2] := by
      simp [wrt, fb58, fbytes, ackFrom, vbytes, rd_T103]
    rw [ht] at h1
    unfold shibbolethlaw06_awake.f
    rw [h1]
    simp only [Option.bind_some, if_true]
    rw [fsame_f _ (by simp) _ (by simp; omega)]
    rfl
end Go.Proofs.YtbcleckapamicaaDoor.FdQ
namespace Go.Proofs.YtbcleckapamicaaDoor.Pure
open Go.RowKit Go.Proofs.YtbcleckapamicaaDoor.QFr Go.Proofs.YtbcleckapamicaaDoor.QFd Go.Proofs.YtbcleckapamicaaDoor.Vn Go.Proofs.YtbcleckapamicaaDoor.FrP Go.Proofs.YtbcleckapamicaaDoor.FdP Go.Proofs.YtbcleckapamicaaDoor.FdQ Go.Proofs.YtbcleckapamicaaDoorW.PrintWords
open Go.Proofs.YtbcleckapamicaaDoor.Fd (rnum rbyt rtrm padF gapF spanF ackF ackR body fr58 next frames fread frame_Read.f)
set_option linter.unusedVariables false
set_option linter.unusedSimpArgs false
theorem j1_true (k : Nat) (hk : 9001 < k) (x y z : List S58) (g : Int) : shibbolethlaw06_FrameJoins.j1 k x y z g true = some true := by
  obtain ⟨k, rfl⟩ : ∃ m, k = m + 1 := ⟨k - 1, by omega⟩
  rw [shibbolethlaw06_FrameJoins.j1, if_pos rfl, awake06 k (by omega)]
  rfl
theorem j1_any (k : Nat) (hk : 9001 < k) (x y z : List S58) (g : Int) (b : Bool) (h : b = false → g = 0 ∧ z.length = x.length + y.length ∧ z.length ≤ 5000) : shibbolethlaw06_FrameJoins.j1 k x y z g b = some true := by
  cases b with
  | true => exact j1_true k hk x y z g
  | false =>
    obtain ⟨rfl, h2, h3⟩ := h rfl
    obtain ⟨k, rfl⟩ : ∃ m, k = m + 1 := ⟨k - 1, by omega⟩
    have e : wrap64 ((x.length : Int) + (y.length : Int)) = (z.length : Int) := by unfold wrap64; omega
    rw [shibbolethlaw06_FrameJoins.j1, if_neg (by decide), if_pos rfl, e, if_pos rfl, awake06 k (by omega)]
    rfl
theorem joins {a b : List Int} (ha : Bytes a) (hb : Bytes b) (la : a.length ≤ 600) (lb : b.length ≤ 600) {x y : List S58} (hx : fread a = (x, 0)) (hy : fread b = (y, 0)) (h : ∀ f g, x.getLast? = some f → y.head? = some g → ¬ (f.f0 = 0 ∧ g.f0 = 0)) : fread (a ++ b) = (x ++ y, 0) := by
  obtain ⟨gx, ex⟩ := fread_inv ha hx
  obtain ⟨gy, ey⟩ := fread_inv hb hy
  have hg : GoodL (x ++ y) := by
    refine ⟨by simp [gx.1], fun f hf => ?_, noAdj_append x y gx.2.2.1 gy.2.2.1 h, ?_⟩
    · rcases List.mem_append.1 hf with q | q
      · exact gx.2.1 f q
      · exact gy.2.1 f q
    · rw [wrt_append, ← ex, ← ey, List.length_append]; omega
  rw [ex, ey, ← wrt_append]
  exact fread_wrt hg
theorem FrameJoins : frameJoinsPrm.Pure := by
  intro a b ha0 hb0
  have ha : Bytes a := VaP.bytes_of_wf ha0.2
  have hb : Bytes b := VaP.bytes_of_wf hb0.2
  refine ⟨10010, ?_⟩
  have main : ∀ (t : Bool), (t = false → a.length ≤ 600 ∧ b.length ≤ 600) → shibbolethlaw06_FrameJoins.j0 10010 a b t = some true := by
    intro t ht
    rw [shibbolethlaw06_FrameJoins.j0]
    cases t with
    | true => rfl
    | false =>
      obtain ⟨la, lb⟩ := ht rfl
      rw [if_neg (by decide), read_f a (by omega) ha]
      simp only [Option.bind_some]
      rw [read_f b (by omega) hb]
      simp only [Option.bind_some, List.length_nil, List.nil_append]
      rw [if_pos (by omega), if_pos (by omega), read_f (a ++ b) (by simp; omega) (ha.append hb)]
      simp only [Option.bind_some]
      obtain ⟨x, e, hx⟩ : ∃ x e, fread a = (x, e) := ⟨_, _, rfl⟩
      obtain ⟨y, f, hy⟩ : ∃ y f, fread b = (y, f) := ⟨_, _, rfl⟩
      rw [hx, hy]
      simp only []
      by_cases he : e = 0
      rotate_left
      · rw [if_neg he]; exact j1_true _ (by omega) _ _ _ _
      rw [if_pos he]
      subst he
      by_cases hf : f = 0
      rotate_left
      · rw [if_neg hf]; exact j1_true _ (by omega) _ _ _ _
      rw [if_pos hf]
      subst hf
      by_cases hx0 : (x.length : Int) = 0
      · rw [if_pos hx0]; exact j1_true _ (by omega) _ _ _ _
      rw [if_neg hx0]
      by_cases hy0 : (y.length : Int) = 0
      · rw [if_pos hy0]; exact j1_true _ (by omega) _ _ _ _
      rw [if_neg hy0]
      obtain ⟨gx, ex⟩ := fread_inv ha hx
      obtain ⟨gy, ey⟩ := fread_inv hb hy
      have lx := wrt_len x gx.2.1
      have ly := wrt_len y gy.2.1
      rw [← ex] at lx
      rw [← ey] at ly
      have e1 : wrap64 ((x.length : Int) - 1) = ((x.length - 1 : Nat) : Int) := by unfold wrap64; omega
      rw [e1, if_pos (by omega), if_pos (by omega)]
      have last : x.getLast? = some (rd_T58 x ((x.length - 1 : Nat) : Int)) := by
        rw [rd58 x (x.length - 1) (by omega), List.getLast?_eq_getElem?, List.getElem?_eq_getElem (by omega)]
      have head : y.head? = some (rd_T58 y 0) := by
        cases y with
        | nil => simp at hy0
        | cons g t => rfl
      have ok : ¬ ((rd_T58 x ((x.length - 1 : Nat) : Int)).f0 = 0 ∧ (rd_T58 y 0).f0 = 0) → (fread (a ++ b)).2 = 0 ∧ (fread (a ++ b)).1.length = x.length + y.length ∧ (fread (a ++ b)).1.length ≤ 5000 := by
        intro h
        have := joins ha hb la lb hx hy (fun f g h1 h2 => by
          rw [last] at h1
          rw [head] at h2
          injection h1 with h1
          injection h2 with h2
          subst h1 h2
          exact h)
        rw [this]
        exact ⟨rfl, by simp, by simp; omega⟩
      by_cases hz : (rd_T58 x ((x.length - 1 : Nat) : Int)).f0 = 0
      · rw [if_pos hz, if_pos (by omega)]
        refine j1_any _ (by omega) _ _ _ _ _ (fun h => ok (fun q => ?_))
        rw [q.2] at h
        cases h
      · rw [if_neg hz]
        exact j1_any _ (by omega) _ _ _ _ _ (fun _ => ok (fun q => hz q.1))
  unfold shibbolethlaw06_FrameJoins.f
  by_cases h1 : (a.length : Int) > 600
  · rw [if_pos h1]; exact main true (fun h => by cases h)
  · rw [if_neg h1]
    refine main _ (fun h => ?_)
    have := of_decide_eq_false h
    exact ⟨by omega, by omega⟩
end Go.Proofs.YtbcleckapamicaaDoor.Pure
namespace Go.Proofs.YtbcleckapamicaaDoor.Tab
open Go.RowKit Go.Proofs.YtbcleckapamicaaDoor.Gv
set_option linter.unusedVariables false
def laid {H : Type} : List (String × DataW H) := [((Rows.frameJoinsRow.named).getD 0 default, Rows.laid_math_bits_deBruijn32tab), ((Rows.frameJoinsRow.named).getD 1 default, Rows.laid_math_bits_deBruijn64tab)]
theorem g64 : Tryd.prog.globalNamed ((Rows.frameJoinsRow.named).getD 1 default) = some 1 := by kernel_rfl
theorem ty64 : (Tryd.prog.globals[1]?).map (·.type) = some 146 := by kernel_rfl
theorem of_laid {W : World} (h : laidMet Tryd.prog laid W) : TB W := by
  have h2 : laidMet Tryd.prog [((Rows.frameJoinsRow.named).getD 1 default, Lib.tabData .u8 tab64)] W := h.tail
  have ht : Lib.TabIs Tryd.prog W ((Rows.frameJoinsRow.named).getD 1 default) .u8 tab64 := Lib.tabIs_of_head g64 ty64 Tryd.underlying146 Tryd.underlying5 (by kernel_rfl) (by kernel_rfl) h2
  exact ⟨fun i hi => ht.cell g64 i hi⟩
def tab32 : List Int := [0, 1, 28, 2, 29, 14, 24, 3, 30, 22, 20, 15, 25, 17, 4, 8, 31, 27, 13, 23, 21, 19, 16, 7, 26, 12, 18, 6, 11, 5, 10, 9]
noncomputable def laidWorld (os : Os) : World :=
  let w0 := World.holding Tryd.prog os ⟨#[], #[], []⟩
  { w0 with heap := (w0.heap.modify 0 fun
      | .cells _ t frozen => .cells (tab32.map fun z => Value.int .u8 z).toArray t frozen
      | o => o).modify 1 fun
      | .cells _ t frozen => .cells (tab64.map fun z => Value.int .u8 z).toArray t frozen
      | o => o }
set_option maxRecDepth 100000 in
theorem laidWorld_met (os : Os) (args : Array Value) : laidMet Tryd.prog laid ((laidWorld os).forCall (fun _ _ => 0) ⟨#[], args, []⟩).memory :=
  laidMet_of_run' 8 (by kernel_rfl) (by kernel_rfl)
end Go.Proofs.YtbcleckapamicaaDoor.Tab
